/- Contracts of the package year: a day's year. -/
import Derived.Test.YteppoghpfcmhhaaYearC
namespace Go.Proofs.Yteppoghpfcmhhaa
set_option linter.unusedVariables false
set_option linter.unusedSimpArgs false
open Go.RowKit
set_option maxRecDepth 100000 in
set_option maxHeartbeats 4000000 in
theorem found_no (c : CalI) (day : Int) (w : World) (hs : c.name.size ≤ maxLen) (h : calB c = true) (hd : isB day = true) (hno : ∀ z, fyOk c day z = false) :
    Calls Try.prog 61 #[calA c, .int .i64 day] w fun e w' => e = .returned (.tuple #[.int .i64 0, .int .i64 0, .int .i64 11]) ∧ Below w.heap.size w w' := by
  have C := fcheck_any c
  rw [h] at C
  have C := Lib.hid (fun w => C w hs)
  have O := fun w => of_any day w
  rw [dateE_true hd] at O
  have O := Lib.hid O
  obtain ⟨sh0, sh1⟩ := shift_bd h
  obtain ⟨d0, d1⟩ := (isB_iff _).1 hd
  have NO := Lib.hid hno
  have yb : 1600 ≤ ofY day ∧ ofY day ≤ 9999 := by
    have v := (validB_iff _ _ _).1 (of_ok day hd).1
    omega
  obtain ⟨yb1, yb2⟩ := yb
  have BS := Lib.hid (show ∀ y, 1500 ≤ y → y ≤ 11000 → ∀ w, Calls Try.prog 77 #[calA c, .int .i64 day, .int .i64 y] w fun e w' => e = .returned (.tuple #[.int .i64 0, .int .i64 0, .int .i64 11]) ∧ Below w.heap.size w w' from fun y d e w => beside_round c day y w hs h hd d e (fun z _ _ => hno z))
  have AEX := Lib.hid (fun y w => aend_any c y w hs)
  have ASX := Lib.hid (fun y w => astart_any c y w hs)
  clear hno hd
  generalize ofY day = Y at *
  generalize ofM day = M at *
  generalize ofD day = D at *
  go_enter Try.func61, Try.ntmps61
  go_wp2_with fail
  refine (C.out _).mono ?_
  rintro e w1 ⟨rfl, hb1⟩
  obtain ⟨hc1, hf1, hz1⟩ := own_stays hb1 (b := w.heap.size) (by simp)
  go_wp2_with fail
  refine (O.out _).mono ?_
  rintro e w2 ⟨rfl, hb2⟩
  obtain ⟨hc2, hf2, hz2⟩ := own_stays hb2 (b := w.heap.size) hz1
  go_wp2
  go_loopw [4, 30] (fun v i wr => ∃ (k : Nat) (u : Int), k ≤ 3 ∧ i = .int .i64 k ∧ v = .int .i64 u ∧ Y - c.shift - k ≤ u ∧ u ≤ Y - c.shift + k ∧ Below w.heap.size w wr ∧ CalAt wr w.heap.size c) (fun _ i _ => 3 - (intOf i).toNat)
  case atStart =>
    refine ⟨0, _, by omega, rfl, rfl, by omega, by omega, (by repeat (with_reducible (first | exact Below.refl _ _ | assumption | refine bl_alloc ?_ _ | refine bl_drewN ?_ _ | refine bl_drew ?_ | refine bl_call ?_ (by assumption) | (refine bl_setCell ?_ _ (Nat.le_refl _)) | (refine bl_setCell ?_ _ (by simp))))), ?_⟩
    have c0 : CalAt (w.alloc (Obj.cells #[.string c.name, .int .i64 c.kind, .int .i64 c.day, .int .i64 c.month, .int .i64 c.shift, .int .i64 c.shape, .int .i64 c.p0, .int .i64 c.p1, .int .i64 c.p2, .int .i64 c.cycle, .int .i64 c.extra, .int .i64 c.first, .int .i64 c.last, .int .i64 c.policy] 24)) w.heap.size c := by simp [CalAt]
    exact c0.go (bl_alloc (bl_call hb1 hb2) _)
  case round =>
    obtain ⟨k, u, hk, rfl, rfl, u1, u2, hbr, hcal⟩ := hrel
    have HC := Lib.hid hcal
    obtain ⟨l, h0, h1, h2, h3, h4, h5, h6, h7, h8, h9, h10, h11, h12, h13⟩ := hcal
    clear hc1 hf1 hz1 hc2 hf2 hz2 hb1 hb2 C O
    have B := Lib.hid (BS.out u (by omega) (by omega))
    by_cases hk3 : k < 3
    · have hk3' : (k : Int) < 3 := by omega
      by_cases t : tellE c u 1600 = 0
      · obtain ⟨_, t1, t2⟩ := tell_zero t
        have E := Lib.hid (fun w => aend_told c u w hs h t1 t2)
        by_cases hd1 : endN c u < day
        · clear t B BS AEX ASX NO
          generalize endN c u = P at *
          go_wp2_with fail
          refine (E.out _).mono ?_
          rintro e w3 ⟨rfl, hb3⟩
          have HW := HC.out.go hb3
          clear l h0 h1 h2 h3 h4 h5 h6 h7 h8 h9 h10 h11 h12 h13
          go_wp2
          go_roundw
          case rel => exact ⟨k + 1, _, by omega, by go_num, rfl, by omega, by omega, (by repeat (with_reducible (first | exact Below.refl _ _ | assumption | refine bl_alloc ?_ _ | refine bl_drewN ?_ _ | refine bl_drew ?_ | refine bl_call ?_ (by assumption) | (refine bl_setCell ?_ _ (Nat.le_refl _)) | (refine bl_setCell ?_ _ (by simp))))), HW⟩
          case measure => simp [intOf]; omega
        · by_cases t' : tellE c u 1601 = 0
          · obtain ⟨_, t3, _⟩ := tell_zero t'
            have S := Lib.hid (fun w => astart_told c u w hs h t3 t2)
            have no : ¬ endN c (u - 1) + 1 ≤ day := by
              rcases fyOk_no (NO.out u) t3 t2 with x | ⟨_, x⟩
              · exact x
              · omega
            obtain ⟨e3, e4⟩ := end_bd h (y := u - 1) (by omega) (by omega)
            clear t t' B BS AEX ASX NO
            generalize endN c u = P at *
            generalize endN c (u - 1) = R at *
            go_wp2_with fail
            refine (E.out _).mono ?_
            rintro e w3 ⟨rfl, hb3⟩
            obtain ⟨hc3, hf3, hz3⟩ := own_stays hb3 (b := w.heap.size) l
            go_wp2_with fail
            refine (S.out _).mono ?_
            rintro e w4 ⟨rfl, hb4⟩
            have HW := HC.out.go (bl_call hb3 hb4)
            clear l h0 h1 h2 h3 h4 h5 h6 h7 h8 h9 h10 h11 h12 h13 hc3 hf3 hz3
            go_wp2
            go_roundw
            case rel => exact ⟨k + 1, _, by omega, by go_num, rfl, by omega, by omega, (by repeat (with_reducible (first | exact Below.refl _ _ | assumption | refine bl_alloc ?_ _ | refine bl_drewN ?_ _ | refine bl_drew ?_ | refine bl_call ?_ (by assumption) | (refine bl_setCell ?_ _ (Nat.le_refl _)) | (refine bl_setCell ?_ _ (by simp))))), HW⟩
            case measure => simp [intOf]; omega
          · obtain ⟨q1, _⟩ := tell_not t'
            have S := ASX.out u
            rw [show startV c u = 0 from if_neg t'] at S
            have S := Lib.hid S
            clear t t' B BS AEX ASX NO
            generalize endN c u = P at *
            generalize tellE c u 1601 = tt at *
            go_wp2_with fail
            refine (E.out _).mono ?_
            rintro e w3 ⟨rfl, hb3⟩
            obtain ⟨hc3, hf3, hz3⟩ := own_stays hb3 (b := w.heap.size) l
            go_wp2_with fail
            refine (S.out _).mono ?_
            rintro e w4 ⟨rfl, hb4⟩
            have HW := HC.out.go (bl_call hb3 hb4)
            clear l h0 h1 h2 h3 h4 h5 h6 h7 h8 h9 h10 h11 h12 h13 hc3 hf3 hz3
            go_wp2
            go_roundw
            case rel => exact ⟨k + 1, _, by omega, by go_num, rfl, by omega, by omega, (by repeat (with_reducible (first | exact Below.refl _ _ | assumption | refine bl_alloc ?_ _ | refine bl_drewN ?_ _ | refine bl_drew ?_ | refine bl_call ?_ (by assumption) | (refine bl_setCell ?_ _ (Nat.le_refl _)) | (refine bl_setCell ?_ _ (by simp))))), HW⟩
            case measure => simp [intOf]; omega
      · obtain ⟨q1, _⟩ := tell_not t
        have E := AEX.out u
        rw [show endV c u = 0 from if_neg t] at E
        have E := Lib.hid E
        have q2 : (tellE c u 1600 != 0) = true := by simpa using q1
        clear t BS AEX ASX NO
        generalize tellE c u 1600 = tt at *
        go_wp2_with fail
        refine (E.out _).mono ?_
        rintro e w3 ⟨rfl, hb3⟩
        obtain ⟨hc3, hf3, hz3⟩ := own_stays hb3 (b := w.heap.size) l
        go_wp2_with fail
        refine (B.out _).mono ?_
        rintro e w4 ⟨rfl, hb4⟩
        go_wp2
        go_ret3
        exact ⟨rfl, (by repeat (with_reducible (first | exact Below.refl _ _ | assumption | refine bl_alloc ?_ _ | refine bl_drewN ?_ _ | refine bl_drew ?_ | refine bl_call ?_ (by assumption) | (refine bl_setCell ?_ _ (Nat.le_refl _)) | (refine bl_setCell ?_ _ (by simp)))))⟩
    · have hk3' : ¬ (k : Int) < 3 := by omega
      clear BS AEX ASX NO
      go_wp2_with fail
      refine (B.out _).mono ?_
      rintro e w4 ⟨rfl, hb4⟩
      go_wp2
      go_ret3
      exact ⟨rfl, (by repeat (with_reducible (first | exact Below.refl _ _ | assumption | refine bl_alloc ?_ _ | refine bl_drewN ?_ _ | refine bl_drew ?_ | refine bl_call ?_ (by assumption) | (refine bl_setCell ?_ _ (Nat.le_refl _)) | (refine bl_setCell ?_ _ (by simp)))))⟩
set_option maxHeartbeats 1000000 in
theorem found_any (c : CalI) (day : Int) (w : World) (hs : c.name.size ≤ maxLen) :
    Calls Try.prog 61 #[calA c, .int .i64 day] w fun e w' => e = .returned (.tuple #[.int .i64 (foY c day), .int .i64 (foN c day), .int .i64 (foE c day)]) ∧ Below w.heap.size w w' := by
  rcases fo_ways c day with ⟨h, hd, z, hz, e1, e2, e3⟩ | ⟨h, hd, hz, e1, e2, e3⟩ | ⟨h, hd, e1, e2, e3⟩ | ⟨h, e1, e2, e3⟩
  · rw [e1, e2, e3]; exact found_yes c day z w hs h hd hz
  · rw [e1, e2, e3]; exact found_no c day w hs h hd hz
  · have C := fcheck_any c
    rw [h] at C
    have C := Lib.hid (fun w => C w hs)
    have O := fun w => of_any day w
    rw [dateE_false hd] at O
    have O := Lib.hid O
    have E1 := Lib.hid e1
    have E2 := Lib.hid e2
    have E3 := Lib.hid e3
    clear e1 e2 e3 h hd
    generalize ofY day = Y at *
    generalize ofM day = M at *
    generalize ofD day = D at *
    go_enter Try.func61, Try.ntmps61
    go_wp2_with fail
    refine (C.out _).mono ?_
    rintro e w1 ⟨rfl, hb1⟩
    obtain ⟨hc1, hf1, hz1⟩ := own_stays hb1 (b := w.heap.size) (by simp)
    go_wp2_with fail
    refine (O.out _).mono ?_
    rintro e w2 ⟨rfl, hb2⟩
    go_wp2
    go_ret3
    exact ⟨ret_iii E2.out.symm E3.out.symm E1.out.symm, (by repeat (with_reducible (first | exact Below.refl _ _ | assumption | refine bl_alloc ?_ _ | refine bl_drewN ?_ _ | refine bl_drew ?_ | refine bl_call ?_ (by assumption) | (refine bl_setCell ?_ _ (Nat.le_refl _)) | (refine bl_setCell ?_ _ (by simp)))))⟩
  · have C := fcheck_any c
    rw [h] at C
    have C := Lib.hid (fun w => C w hs)
    have E1 := Lib.hid e1
    have E2 := Lib.hid e2
    have E3 := Lib.hid e3
    clear e1 e2 e3 h
    go_enter Try.func61, Try.ntmps61
    go_wp2_with fail
    refine (C.out _).mono ?_
    rintro e w1 ⟨rfl, hb1⟩
    go_wp2
    go_ret3
    exact ⟨ret_iii E2.out.symm E3.out.symm E1.out.symm, (by repeat (with_reducible (first | exact Below.refl _ _ | assumption | refine bl_alloc ?_ _ | refine bl_drewN ?_ _ | refine bl_drew ?_ | refine bl_call ?_ (by assumption) | (refine bl_setCell ?_ _ (Nat.le_refl _)) | (refine bl_setCell ?_ _ (by simp)))))⟩
set_option maxHeartbeats 1000000 in
theorem yof_any (c : CalI) (day : Int) (w : World) (hs : c.name.size ≤ maxLen) :
    Calls Try.prog 33 #[calA c, .int .i64 day] w fun e w' => e = .returned (.tuple #[.int .i64 (foY c day), .int .i64 (foE c day)]) ∧ Below w.heap.size w w' := by
  have F := Lib.hid (fun w => found_any c day w hs)
  go_enter Try.func33, Try.ntmps33
  go_wp2_with fail
  refine (F.out _).mono ?_
  rintro e w1 ⟨rfl, hb1⟩
  go_wp2
  go_ret2
  exact ⟨rfl, (by repeat (with_reducible (first | exact Below.refl _ _ | assumption | refine bl_alloc ?_ _ | refine bl_drewN ?_ _ | refine bl_drew ?_ | refine bl_call ?_ (by assumption) | (refine bl_setCell ?_ _ (Nat.le_refl _)) | (refine bl_setCell ?_ _ (by simp)))))⟩
set_option maxHeartbeats 1000000 in
theorem ynth_any (c : CalI) (day : Int) (w : World) (hs : c.name.size ≤ maxLen) :
    Calls Try.prog 37 #[calA c, .int .i64 day] w fun e w' => e = .returned (.tuple #[.int .i64 (foN c day), .int .i64 (foE c day)]) ∧ Below w.heap.size w w' := by
  have F := Lib.hid (fun w => found_any c day w hs)
  go_enter Try.func37, Try.ntmps37
  go_wp2_with fail
  refine (F.out _).mono ?_
  rintro e w1 ⟨rfl, hb1⟩
  go_wp2
  go_ret2
  exact ⟨rfl, (by repeat (with_reducible (first | exact Below.refl _ _ | assumption | refine bl_alloc ?_ _ | refine bl_drewN ?_ _ | refine bl_drew ?_ | refine bl_call ?_ (by assumption) | (refine bl_setCell ?_ _ (Nat.le_refl _)) | (refine bl_setCell ?_ _ (by simp)))))⟩
abbrev spanA (a b : Int) : Value := .agg #[.int .i64 a, .int .i64 b]
def boA (c : CalI) : Int := if calB c = true then endN c (c.first - 1) + 1 else 0
def boB (c : CalI) : Int := if calB c = true then endN c c.last else 0
theorem serve_bd {c : CalI} (h : calB c = true) : 1602 ≤ c.first ∧ c.first ≤ c.last ∧ c.last ≤ 9996 ∧ c.last - c.first < 400 := by
  have r := cal_rule c h
  obtain ⟨_, _, _, _, _, _, _, _, _, _, r1, r2, r3, r4⟩ := r
  exact ⟨r1, r3, r2, r4⟩
theorem set2i {w : World} {b : Nat} {o0 o1 : Value} (x0 x1 : Value) (q0 : w.cell? ⟨b, 0, none⟩ = some o0) (q1 : w.cell? ⟨b, 1, none⟩ = some o1) :
    (w.setCell ⟨b, 0, none⟩ x0).cell? ⟨b, 0, none⟩ = some x0 ∧ ((w.setCell ⟨b, 0, none⟩ x0).setCell ⟨b, 1, none⟩ x1).cell? ⟨b, 1, none⟩ = some x1 := by
  refine ⟨World.cell?_setCell_same _ _ _ q0, World.cell?_setCell_same (u := o1) _ _ _ ?_⟩
  rw [World.cell?_setCell_other _ _ _ _ (by simp)]; exact q1
theorem ret_si {a b c d x y : Int} (h1 : a = c) (h2 : b = d) (h3 : x = y) : Ending.returned (.tuple #[.agg #[.int .i64 a, .int .i64 b], .int .i64 x]) = .returned (.tuple #[.agg #[.int .i64 c, .int .i64 d], .int .i64 y]) := by rw [h1, h2, h3]
set_option maxHeartbeats 1000000 in
theorem bounds_any (c : CalI) (w : World) (hs : c.name.size ≤ maxLen) :
    Calls Try.prog 35 #[calA c] w fun e w' => e = .returned (.tuple #[spanA (boA c) (boB c), .int .i64 (argE (calB c))]) ∧ Below w.heap.size w w' := by
  rcases Bool.eq_false_or_eq_true (calB c) with h | h
  · obtain ⟨s1, s2, s3, _⟩ := serve_bd h
    have S := Lib.hid (fun w => astart_told c c.first w hs h (by omega) (by omega))
    have E := Lib.hid (fun w => aend_told c c.last w hs h (by omega) (by omega))
    have V1 := Lib.hid (show boA c = endN c (c.first - 1) + 1 from if_pos h)
    have V2 := Lib.hid (show boB c = endN c c.last from if_pos h)
    have V3 := Lib.hid (show argE (calB c) = 0 from argE_true h)
    clear h
    generalize endN c (c.first - 1) + 1 = P at *
    generalize endN c c.last = R at *
    go_enter Try.func35, Try.ntmps35
    go_wp2_with fail
    refine (S.out _).mono ?_
    rintro e w1 ⟨rfl, hb1⟩
    obtain ⟨hc1, hf1, hz1⟩ := own_stays hb1 (b := w.heap.size) (by simp; omega)
    obtain ⟨hd1, hg1, hy1⟩ := own_stays hb1 (b := w.heap.size + 1) (by simp)
    go_wp2_with fail
    refine (E.out _).mono ?_
    rintro e w2 ⟨rfl, hb2⟩
    obtain ⟨hd2, hg2, hy2⟩ := own_stays hb2 (b := w.heap.size + 1) hy1
    go_wp2
    obtain ⟨u0, u1⟩ := set2i (.int .i64 P) (.int .i64 R) (show w2.cell? ⟨w.heap.size + 1, 0, none⟩ = some (.int .i64 0) by rw [hd2, hd1]; simp) (show w2.cell? ⟨w.heap.size + 1, 1, none⟩ = some (.int .i64 0) by rw [hd2, hd1]; simp)
    refine bodyPost_ret (v := .tuple #[spanA P R, .int .i64 0]) (by simp [results, Try.results35, go_sem, u0, u1]) rfl ⟨ret_si V1.out.symm V2.out.symm V3.out.symm, ?_⟩
    exact (by repeat (with_reducible (first | exact Below.refl _ _ | assumption | refine bl_alloc ?_ _ | refine bl_drewN ?_ _ | refine bl_drew ?_ | refine bl_call ?_ (by assumption) | (refine bl_setCell ?_ _ (Nat.le_refl _)) | (refine bl_setCell ?_ _ (by simp)))))
  · have S := astart_any c c.first
    rw [show startV c c.first = 0 by unfold startV; rw [if_neg]; unfold tellE; rw [if_neg (by simp [h])]; decide, show tellE c c.first 1601 = 1 by unfold tellE; rw [if_neg (by simp [h])]] at S
    have S := Lib.hid (fun w => S w hs)
    have V1 := Lib.hid (show boA c = 0 from if_neg (by simp [h]))
    have V2 := Lib.hid (show boB c = 0 from if_neg (by simp [h]))
    have V3 := Lib.hid (show argE (calB c) = 1 from argE_false h)
    clear h
    go_enter Try.func35, Try.ntmps35
    go_wp2_with fail
    refine (S.out _).mono ?_
    rintro e w1 ⟨rfl, hb1⟩
    obtain ⟨hd1, hg1, hy1⟩ := own_stays hb1 (b := w.heap.size + 1) (by simp)
    go_wp2
    obtain ⟨u0, u1⟩ := set2i (.int .i64 0) (.int .i64 0) (show w1.cell? ⟨w.heap.size + 1, 0, none⟩ = some (.int .i64 0) by rw [hd1]; simp) (show w1.cell? ⟨w.heap.size + 1, 1, none⟩ = some (.int .i64 0) by rw [hd1]; simp)
    refine bodyPost_ret (v := .tuple #[spanA 0 0, .int .i64 1]) (by simp [results, Try.results35, go_sem, u0, u1]) rfl ⟨ret_si V1.out.symm V2.out.symm V3.out.symm, ?_⟩
    exact (by repeat (with_reducible (first | exact Below.refl _ _ | assumption | refine bl_alloc ?_ _ | refine bl_drewN ?_ _ | refine bl_drew ?_ | refine bl_call ?_ (by assumption) | (refine bl_setCell ?_ _ (Nat.le_refl _)) | (refine bl_setCell ?_ _ (by simp)))))
end Go.Proofs.Yteppoghpfcmhhaa
