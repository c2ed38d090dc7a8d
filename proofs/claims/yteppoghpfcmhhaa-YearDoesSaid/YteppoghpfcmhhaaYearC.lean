/- Contracts of the package year: a day's year. -/
import Derived.Test.YteppoghpfcmhhaaYearB
namespace Go.Proofs.Yteppoghpfcmhhaa
set_option linter.unusedVariables false
set_option linter.unusedSimpArgs false
open Go.RowKit
set_option maxRecDepth 100000 in
set_option maxHeartbeats 4000000 in
theorem found_yes (c : CalI) (day Z : Int) (w : World) (hs : c.name.size ≤ maxLen) (h : calB c = true) (hd : isB day = true) (hZ : fyOk c day Z = true) :
    Calls Try.prog 61 #[calA c, .int .i64 day] w fun e w' => e = .returned (.tuple #[.int .i64 Z, .int .i64 (day - endN c (Z - 1)), .int .i64 0]) ∧ Below w.heap.size w w' := by
  have C := fcheck_any c
  rw [h] at C
  have C := Lib.hid (fun w => C w hs)
  have O := fun w => of_any day w
  rw [dateE_true hd] at O
  have O := Lib.hid O
  obtain ⟨n1, n2⟩ := fy_near h hd hZ
  obtain ⟨sh0, sh1⟩ := shift_bd h
  obtain ⟨d0, d1⟩ := (isB_iff _).1 hd
  have YES := Lib.hid ((fyOk_iff _ _ _).1 hZ)
  obtain ⟨t1, t2, t3, t4⟩ := YES.out
  have yb : 1600 ≤ ofY day ∧ ofY day ≤ 9999 := by
    have v := (validB_iff _ _ _).1 (of_ok day hd).1
    omega
  obtain ⟨yb1, yb2⟩ := yb
  have BS := Lib.hid (show ∀ y, Z ≤ y + 2 → y - 2 ≤ Z → 1500 ≤ y → y ≤ 11000 → ∀ w, Calls Try.prog 77 #[calA c, .int .i64 day, .int .i64 y] w fun e w' => e = .returned (.tuple #[.int .i64 Z, .int .i64 (day - endN c (Z - 1)), .int .i64 0]) ∧ Below w.heap.size w w' from fun y a b d e w => beside_yes c day y w hs h hd d e Z hZ b a)
  have AEX := Lib.hid (fun y w => aend_any c y w hs)
  clear hZ hd
  generalize ofY day = Y at *
  generalize ofM day = M at *
  generalize ofD day = D at *
  go_enter Try.func61, Try.ntmps61
  go_wp2_with fail
  refine (C.out _).mono ?_
  rintro e w1 ⟨rfl, hb1⟩
  obtain ⟨hc1, hf1, hz1⟩ := own_stays hb1 (b := w.heap.size) (by simp)
  go_wp2_with fail
  refine (O.out _).mono ?_
  rintro e w2 ⟨rfl, hb2⟩
  obtain ⟨hc2, hf2, hz2⟩ := own_stays hb2 (b := w.heap.size) hz1
  go_wp2
  go_loopw [4, 30] (fun v i wr => ∃ (k : Nat) (u : Int), i = .int .i64 k ∧ v = .int .i64 u ∧ ((k = 0 ∧ u = Y - c.shift) ∨ (k = 1 ∧ u = Z)) ∧ Below w.heap.size w wr ∧ CalAt wr w.heap.size c) (fun _ i _ => 3 - (intOf i).toNat)
  case atStart =>
    refine ⟨0, _, rfl, rfl, .inl ⟨rfl, rfl⟩, (by repeat (with_reducible (first | exact Below.refl _ _ | assumption | refine bl_alloc ?_ _ | refine bl_drewN ?_ _ | refine bl_drew ?_ | refine bl_call ?_ (by assumption) | (refine bl_setCell ?_ _ (Nat.le_refl _)) | (refine bl_setCell ?_ _ (by simp))))), ?_⟩
    have c0 : CalAt (w.alloc (Obj.cells #[.string c.name, .int .i64 c.kind, .int .i64 c.day, .int .i64 c.month, .int .i64 c.shift, .int .i64 c.shape, .int .i64 c.p0, .int .i64 c.p1, .int .i64 c.p2, .int .i64 c.cycle, .int .i64 c.extra, .int .i64 c.first, .int .i64 c.last, .int .i64 c.policy] 24)) w.heap.size c := by simp [CalAt]
    exact c0.go (bl_alloc (bl_call hb1 hb2) _)
  case round =>
    obtain ⟨k, u, rfl, rfl, hk, hbr, hcal⟩ := hrel
    have HC := Lib.hid hcal
    obtain ⟨l, h0, h1, h2, h3, h4, h5, h6, h7, h8, h9, h10, h11, h12, h13⟩ := hcal
    clear hc1 hf1 hz1 hc2 hf2 hz2 hb1 hb2
    by_cases hu : u = Z
    · subst hu
      have S := Lib.hid (fun w => astart_told c u w hs h t1 t2)
      have E := Lib.hid (fun w => aend_told c u w hs h (by omega) t2)
      obtain ⟨e1, e2⟩ := end_bd h (y := u) (by omega) t2
      obtain ⟨e3, e4⟩ := end_bd h (y := u - 1) (by omega) (by omega)
      have V := Lib.hid (show day - (endN c (u - 1) + 1) + 1 = day - endN c (u - 1) by omega)
      have kk : (k : Int) < 3 := by omega
      clear BS C O AEX hk
      generalize hP : endN c u = P at *
      generalize hR : endN c (u - 1) = R at *
      have HR := Lib.hid hR
      clear hP hR
      have t3' : R + 1 ≤ day := by omega
      go_wp2_with fail
      refine (E.out _).mono ?_
      rintro e w3 ⟨rfl, hb3⟩
      obtain ⟨hc3, hf3, hz3⟩ := own_stays hb3 (b := w.heap.size) l
      go_wp2_with fail
      refine (S.out _).mono ?_
      rintro e w4 ⟨rfl, hb4⟩
      go_wp2
      go_ret3
      exact ⟨ret_iii rfl (by rw [V.out, HR.out]) rfl, (by repeat (with_reducible (first | exact Below.refl _ _ | assumption | refine bl_alloc ?_ _ | refine bl_drewN ?_ _ | refine bl_drew ?_ | refine bl_call ?_ (by assumption) | (refine bl_setCell ?_ _ (Nat.le_refl _)) | (refine bl_setCell ?_ _ (by simp)))))⟩
    obtain ⟨rfl, hu2⟩ : k = 0 ∧ u = Y - c.shift := by omega
    by_cases hlo : u = Z - 1
    · have E := Lib.hid (fun w => aend_told c u w hs h (by omega) (by omega))
      have t3'' : endN c u < day := by rw [hlo]; exact t3
      have UZ := Lib.hid hlo
      clear hu2 hlo hu BS C O
      generalize endN c u = P at *
      go_wp2_with fail
      refine (E.out _).mono ?_
      rintro e w3 ⟨rfl, hb3⟩
      have HW := HC.out.go hb3
      clear l h0 h1 h2 h3 h4 h5 h6 h7 h8 h9 h10 h11 h12 h13
      go_wp2
      go_roundw
      case rel => exact ⟨1, _, rfl, rfl, .inr ⟨rfl, by have := UZ.out; omega⟩, (by repeat (with_reducible (first | exact Below.refl _ _ | assumption | refine bl_alloc ?_ _ | refine bl_drewN ?_ _ | refine bl_drew ?_ | refine bl_call ?_ (by assumption) | (refine bl_setCell ?_ _ (Nat.le_refl _)) | (refine bl_setCell ?_ _ (by simp))))), HW⟩
      case measure => simp [intOf]
    have hhi : u = Z + 1 := by omega
    have UZ := Lib.hid hhi
    by_cases htop : u ≤ 9997
    · have E := Lib.hid (fun w => aend_told c u w hs h (by omega) htop)
      have S := Lib.hid (fun w => astart_told c u w hs h (by omega) htop)
      have m := end_lt c h Z u (by omega) htop (by omega)
      have e5 : endN c (u - 1) = endN c Z := by rw [hhi, show Z + 1 - 1 = Z by omega]
      have t5 : ¬ endN c (u - 1) + 1 ≤ day := by rw [e5]; omega
      have t6 : ¬ endN c u < day := by omega
      obtain ⟨e3, e4⟩ := end_bd h (y := u - 1) (by omega) (by omega)
      clear hu2 hhi hlo hu BS C O m e5 t3 t4
      generalize endN c u = P at *
      generalize endN c (u - 1) = R at *
      go_wp2_with fail
      refine (E.out _).mono ?_
      rintro e w3 ⟨rfl, hb3⟩
      obtain ⟨hc3, hf3, hz3⟩ := own_stays hb3 (b := w.heap.size) l
      go_wp2_with fail
      refine (S.out _).mono ?_
      rintro e w4 ⟨rfl, hb4⟩
      have HW := HC.out.go (bl_call hb3 hb4)
      clear l h0 h1 h2 h3 h4 h5 h6 h7 h8 h9 h10 h11 h12 h13 hc3 hf3 hz3
      go_wp2
      go_roundw
      case rel => exact ⟨1, _, rfl, rfl, .inr ⟨rfl, by have := UZ.out; omega⟩, (by repeat (with_reducible (first | exact Below.refl _ _ | assumption | refine bl_alloc ?_ _ | refine bl_drewN ?_ _ | refine bl_drew ?_ | refine bl_call ?_ (by assumption) | (refine bl_setCell ?_ _ (Nat.le_refl _)) | (refine bl_setCell ?_ _ (by simp))))), HW⟩
      case measure => simp [intOf]
    · have T := AEX.out u
      rw [show tellE c u 1600 = 11 by unfold tellE; rw [if_pos h, if_neg (by omega)], show endV c u = 0 by unfold endV; rw [if_neg]; unfold tellE; rw [if_pos h, if_neg (by omega)]; decide] at T
      have T := Lib.hid T
      have B := Lib.hid (BS.out u (by omega) (by omega) (by omega) (by omega))
      clear hu2 hhi hlo hu BS C O AEX
      go_wp2_with fail
      refine (T.out _).mono ?_
      rintro e w3 ⟨rfl, hb3⟩
      obtain ⟨hc3, hf3, hz3⟩ := own_stays hb3 (b := w.heap.size) l
      go_wp2_with fail
      refine (B.out _).mono ?_
      rintro e w4 ⟨rfl, hb4⟩
      go_wp2
      go_ret3
      exact ⟨rfl, (by repeat (with_reducible (first | exact Below.refl _ _ | assumption | refine bl_alloc ?_ _ | refine bl_drewN ?_ _ | refine bl_drew ?_ | refine bl_call ?_ (by assumption) | (refine bl_setCell ?_ _ (Nat.le_refl _)) | (refine bl_setCell ?_ _ (by simp)))))⟩
end Go.Proofs.Yteppoghpfcmhhaa
