/- Contracts of the package year: the years beside one. -/
import Derived.Test.YteppoghpfcmhhaaYearA
namespace Go.Proofs.Yteppoghpfcmhhaa
set_option linter.unusedVariables false
set_option linter.unusedSimpArgs false
open Go.RowKit
set_option maxRecDepth 100000 in
set_option maxHeartbeats 2000000 in
theorem beside_yes (c : CalI) (day y : Int) (w : World) (hs : c.name.size ≤ maxLen) (h : calB c = true) (hd : isB day = true) (y1 : 1500 ≤ y) (y2 : y ≤ 11000) (Z : Int) (hZ : fyOk c day Z = true) (Z1 : y - 2 ≤ Z) (Z2 : Z ≤ y + 2) :
    Calls Try.prog 77 #[calA c, .int .i64 day, .int .i64 y] w fun e w' => e = .returned (.tuple #[.int .i64 Z, .int .i64 (day - endN c (Z - 1)), .int .i64 0]) ∧ Below w.heap.size w w' := by
  have NO := Lib.hid (show ∀ z, z ≠ Z → fyOk c day z = false from fun z hz => by
    rcases Bool.eq_false_or_eq_true (fyOk c day z) with k | k
    · exact absurd (fy_uniq h k hZ) hz
    · exact k)
  have YES := Lib.hid ((fyOk_iff _ _ _).1 hZ)
  obtain ⟨d0, d1⟩ := (isB_iff _).1 hd
  clear hZ hd
  go_enter Try.func77, Try.ntmps77
  go_wp2
  go_loopw [9] (fun i wr => ∃ z : Int, y - 2 ≤ z ∧ z ≤ Z ∧ i = .int .i64 z ∧ Below w.heap.size w wr ∧ CalAt wr w.heap.size c) (fun i _ => (Z + 1 - intOf i).toNat)
  case atStart => exact ⟨y - 2, by omega, by omega, rfl, (by repeat (with_reducible (first | exact Below.refl _ _ | assumption | refine bl_alloc ?_ _ | refine bl_drewN ?_ _ | refine bl_drew ?_ | refine bl_call ?_ (by assumption) | (refine bl_setCell ?_ _ (Nat.le_refl _)) | (refine bl_setCell ?_ _ (by simp))))), by simp [CalAt]⟩
  case round =>
    obtain ⟨z, z1, z2, rfl, hbr, hcal⟩ := hrel
    have HC := Lib.hid hcal
    obtain ⟨l, h0, h1, h2, h3, h4, h5, h6, h7, h8, h9, h10, h11, h12, h13⟩ := hcal
    by_cases hz : z < Z
    · have S := astart_any c z
      by_cases t : tellE c z 1601 = 0
      · obtain ⟨_, t1, t2⟩ := tell_zero t
        have S := Lib.hid (fun w => astart_told c z w hs h t1 t2)
        have E := Lib.hid (fun w => aend_told c z w hs h (by omega) t2)
        obtain ⟨e1, e2⟩ := end_bd h (y := z) (by omega) t2
        obtain ⟨e3, e4⟩ := end_bd h (y := z - 1) (by omega) (by omega)
        have no := fyOk_no (NO.out z (by omega)) t1 t2
        clear t
        generalize endN c z = P at *
        generalize endN c (z - 1) = R at *
        rcases no with no | ⟨no, no'⟩
        all_goals
          go_wp2_with fail
          refine (S.out _).mono ?_
          rintro e w1 ⟨rfl, hb1⟩
          obtain ⟨hc1, hf1, hz1⟩ := own_stays hb1 (b := w.heap.size) l
          go_wp2_with fail
          refine (E.out _).mono ?_
          rintro e w2 ⟨rfl, hb2⟩
          have HW := HC.out.go (bl_call hb1 hb2)
          clear hc1 hf1 hz1 l h0 h1 h2 h3 h4 h5 h6 h7 h8 h9 h10 h11 h12 h13
          go_wp2
          go_roundw
          case rel => exact ⟨z + 1, by omega, by omega, by go_num, (by repeat (with_reducible (first | exact Below.refl _ _ | assumption | refine bl_alloc ?_ _ | refine bl_drewN ?_ _ | refine bl_drew ?_ | refine bl_call ?_ (by assumption) | (refine bl_setCell ?_ _ (Nat.le_refl _)) | (refine bl_setCell ?_ _ (by simp))))), HW⟩
          case measure => simp [intOf]; omega
      · obtain ⟨t1, _⟩ := tell_not t
        rw [show startV c z = 0 from if_neg t] at S
        have S := Lib.hid (fun w => S w hs)
        have t3 : (tellE c z 1601 != 0) = true := by simpa using t1
        clear t
        generalize tellE c z 1601 = t at *
        go_wp2_with fail
        refine (S.out _).mono ?_
        rintro e w1 ⟨rfl, hb1⟩
        have HW := HC.out.go hb1
        clear l h0 h1 h2 h3 h4 h5 h6 h7 h8 h9 h10 h11 h12 h13
        go_wp2
        go_roundw
        case rel => exact ⟨z + 1, by omega, by omega, by go_num, (by repeat (with_reducible (first | exact Below.refl _ _ | assumption | refine bl_alloc ?_ _ | refine bl_drewN ?_ _ | refine bl_drew ?_ | refine bl_call ?_ (by assumption) | (refine bl_setCell ?_ _ (Nat.le_refl _)) | (refine bl_setCell ?_ _ (by simp))))), HW⟩
        case measure => simp [intOf]; omega
    · obtain rfl : z = Z := by omega
      obtain ⟨t1, t2, t3, t4⟩ := YES.out
      have S := Lib.hid (fun w => astart_told c z w hs h t1 t2)
      have E := Lib.hid (fun w => aend_told c z w hs h (by omega) t2)
      obtain ⟨e1, e2⟩ := end_bd h (y := z) (by omega) t2
      obtain ⟨e3, e4⟩ := end_bd h (y := z - 1) (by omega) (by omega)
      have V := Lib.hid (show day - (endN c (z - 1) + 1) + 1 = day - endN c (z - 1) by omega)
      generalize hP : endN c z = P at *
      generalize hR : endN c (z - 1) = R at *
      have HR := Lib.hid hR
      clear hP hR
      have t3' : R + 1 ≤ day := by omega
      go_wp2_with fail
      refine (S.out _).mono ?_
      rintro e w1 ⟨rfl, hb1⟩
      obtain ⟨hc1, hf1, hz1⟩ := own_stays hb1 (b := w.heap.size) l
      go_wp2_with fail
      refine (E.out _).mono ?_
      rintro e w2 ⟨rfl, hb2⟩
      go_wp2
      go_ret3
      exact ⟨ret_iii rfl (by rw [V.out, HR.out]) rfl, (by repeat (with_reducible (first | exact Below.refl _ _ | assumption | refine bl_alloc ?_ _ | refine bl_drewN ?_ _ | refine bl_drew ?_ | refine bl_call ?_ (by assumption) | (refine bl_setCell ?_ _ (Nat.le_refl _)) | (refine bl_setCell ?_ _ (by simp)))))⟩
end Go.Proofs.Yteppoghpfcmhhaa
