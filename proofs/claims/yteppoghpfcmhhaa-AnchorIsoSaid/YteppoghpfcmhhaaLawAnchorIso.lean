import Derived.Test.YteppoghpfcmhhaaLawAnchorNext
import Derived.Test.YteppoghpfcmhhaaMathJ
namespace Go.Proofs.Yteppoghpfcmhhaa
set_option linter.unusedVariables false
set_option linter.unusedSimpArgs false
open Go.RowKit
set_option maxRecDepth 100000 in
set_option maxHeartbeats 8000000 in
theorem anchorIso_any (c : CalI) (y : Int) (w : World) (hc : CalOk c) (hy : In y) :
    Calls Try.prog 8 #[calA c, .int .i64 y] w fun e w' => e = .returned (.bool true) ∧ Below w.heap.size w w' := by
  have hs := hc.1
  have hs' := hs
  unfold maxLen at hs'
  by_cases hn : 100 < c.name.size
  · have hn' : (100 : Int) < c.name.size := by omega
    go_enter Try.func8, Try.ntmps8
    go_wp2_with fail
    refine (live13 _).mono ?_
    rintro e w1 ⟨rfl, hb1⟩
    obtain ⟨hc1_0, hf1_0, hz1_0⟩ := own_stays hb1 (b := w.heap.size) (by first | (simp; done) | (simp; omega) | omega)
    go_wp2_with fail
    go_ret
    exact ⟨rfl, (by repeat (with_reducible (first | exact Below.refl _ _ | assumption | refine bl_alloc ?_ _ | refine bl_drewN ?_ _ | refine bl_drew ?_ | refine bl_call ?_ (by assumption) | (refine bl_setCell ?_ _ (Nat.le_refl _)) | (refine bl_setCell ?_ _ (by simp)))))⟩
  have hn' : ¬ (100 : Int) < c.name.size := by omega
  have S := astart_any c y
  by_cases t : tellE c y 1601 = 0
  · obtain ⟨h, h1, h2⟩ := tell_zero t
    have S := Lib.hid (fun w => astart_told c y w hs h h1 h2)
    have E := Lib.hid (fun w => aend_told c y w hs h (by omega) h2)
    have r := cal_rule c h
    obtain ⟨a1, a2, a3, _, a5, _⟩ := end_facts c h y (by omega) h2
    have wy := week_year c y h
    have wf := words_facts c y h (by omega) h2
    by_cases k5 : c.kind = 5
    · have rr := r.2.2.2.2.2.2.2.2.2.1 k5
      obtain ⟨q1, q2, q3⟩ := rr
      have ey : endN c y = eomI y 12 + nearK y 12 7 := by unfold endN; rw [if_neg (by omega), if_neg (by omega), q1, q2, q3, Int.add_zero]
      have ey' : endN c (y - 1) + 1 = firstI y := by
        have e := (iso_end (y - 1) (by omega) (by omega)).1
        rw [show y - 1 + 1 = y by omega] at e
        rw [← e]; unfold endN; rw [if_neg (by omega), if_neg (by omega), q1, q2, q3, Int.add_zero]
      have w3 := wy (by omega) h1 h2
      have i1 := (iso_end y (by omega) (by omega)).2 (by rw [← ey]; exact a1)
      have i2 : isB (firstI y) = true := by
        rw [← ey']
        obtain ⟨_, _, d, _⟩ := w3
        exact (by unfold dateE at d; by_cases hh : isB (endN c (y - 1) + 1) = true; exact hh; rw [if_neg hh] at d; omega)
      obtain ⟨j1, j2, j3⟩ := iso_begin y (by omega) (by omega) i2
      obtain ⟨g1, g2, g3⟩ := i1
      have A := fun w => iso_any (endN c (y - 1) + 1) w
      have B := fun w => iso_any (endN c y) w
      have N := fun w => many_any y w
      rw [ey', j1, j2, j3, dateE_true i2] at A
      rw [ey, g1, g2, g3, dateE_true (by rw [← ey]; exact a1)] at B
      rw [dateE_true (show thereB y 1 = true by unfold thereB; simp; omega)] at N
      rw [ey'] at S
      rw [ey] at E
      have A := Lib.hid A
      have B := Lib.hid B
      have N := Lib.hid N
      have b5 : (c.kind == 5) = true := by simpa using k5
      clear ey ey' w3 i2 j1 j2 j3 g1 g2 g3 q1 q2 q3 k5 a1 a2 a3 a5 wy wf r h t hc hy hn
      generalize eomI y 12 + nearK y 12 7 = P at *
      generalize firstI y = R at *
      generalize manyV y = m at *
      go_enter Try.func8, Try.ntmps8
      go_wp2_with fail
      refine (live13 _).mono ?_
      rintro e w1 ⟨rfl, hb1⟩
      obtain ⟨hc1_0, hf1_0, hz1_0⟩ := own_stays hb1 (b := w.heap.size) (by first | (simp; done) | (simp; omega) | omega)
      go_wp2_with fail
      refine (S.out _).mono ?_
      rintro e w2 ⟨rfl, hb2⟩
      obtain ⟨hc2_0, hf2_0, hz2_0⟩ := own_stays hb2 (b := w.heap.size) (by first | (simp; done) | (simp; omega) | omega)
      go_wp2_with fail
      refine (E.out _).mono ?_
      rintro e w3 ⟨rfl, hb3⟩
      obtain ⟨hc3_0, hf3_0, hz3_0⟩ := own_stays hb3 (b := w.heap.size) (by first | (simp; done) | (simp; omega) | omega)
      go_wp2_with fail
      refine (A.out _).mono ?_
      rintro e w4 ⟨rfl, hb4⟩
      obtain ⟨hc4_0, hf4_0, hz4_0⟩ := own_stays hb4 (b := w.heap.size) (by first | (simp; done) | (simp; omega) | omega)
      go_wp2_with fail
      refine (B.out _).mono ?_
      rintro e w5 ⟨rfl, hb5⟩
      obtain ⟨hc5_0, hf5_0, hz5_0⟩ := own_stays hb5 (b := w.heap.size) (by first | (simp; done) | (simp; omega) | omega)
      obtain ⟨hc5_1, hf5_1, hz5_1⟩ := own_stays hb5 (b := w4.heap.size) (by first | (simp; done) | (simp; omega) | omega)
      go_wp2_with fail
      refine (N.out _).mono ?_
      rintro e w6 ⟨rfl, hb6⟩
      obtain ⟨hc6_0, hf6_0, hz6_0⟩ := own_stays hb6 (b := w.heap.size) (by first | (simp; done) | (simp; omega) | omega)
      obtain ⟨hc6_1, hf6_1, hz6_1⟩ := own_stays hb6 (b := w4.heap.size) (by first | (simp; done) | (simp; omega) | omega)
      obtain ⟨hc6_2, hf6_2, hz6_2⟩ := own_stays hb6 (b := w5.heap.size) (by first | (simp; done) | (simp; omega) | omega)
      go_wp2_with fail
      go_ret
      exact ⟨ret_b (by first | rfl | (simp; done)), (by repeat (with_reducible (first | exact Below.refl _ _ | assumption | refine bl_alloc ?_ _ | refine bl_drewN ?_ _ | refine bl_drew ?_ | refine bl_call ?_ (by assumption) | (refine bl_setCell ?_ _ (Nat.le_refl _)) | (refine bl_setCell ?_ _ (by simp)))))⟩
    have b5 : (c.kind == 5) = false := by simpa using k5
    by_cases k4 : c.kind = 4
    · obtain ⟨q1, q2, q3⟩ := r.2.2.2.2.2.2.2.2.1 k4
      obtain ⟨f1, _, _, _, _, _, _, _, _, ff⟩ := wf
      have o : ofY (endN c y) = y ∧ ofM (endN c y) = 12 ∧ 25 ≤ ofD (endN c y) ∧ ofD (endN c y) ≤ 31 ∧ wdI (endN c y) = 7 := by
        rcases ff with ⟨k, _⟩ | ⟨_, wd, _, o1, o2, o3, o4, o5⟩ | ⟨_, _, _, k, _⟩
        · omega
        · have ml : mlen (y + c.shift) c.month = 31 := by rw [q2]; unfold mlen; rw [if_neg (by omega), if_neg (by omega)]
          rw [ml] at o3
          rw [q3, Int.add_zero] at o1
          exact ⟨o1, by rw [o2, q2], by omega, o5, by rw [wd, q1]⟩
        · simp at k; omega
      obtain ⟨o1, o2, o3, o4, o5⟩ := o
      have A := fun w => of_any (endN c y) w
      have B := fun w => weekday_any (endN c y) w
      rw [o1, o2, f1] at A
      rw [o5, f1] at B
      have A := Lib.hid A
      have B := Lib.hid B
      have b4 : (c.kind == 4) = true := by simpa using k4
      clear o1 o2 o5 f1 ff q1 q2 q3 k4 k5 a1 a2 a3 a5 wy r h t hc hy hn
      generalize ofD (endN c y) = od at *
      generalize endN c y = P at *
      generalize endN c (y - 1) + 1 = R at *
      go_enter Try.func8, Try.ntmps8
      go_wp2_with fail
      refine (live13 _).mono ?_
      rintro e w1 ⟨rfl, hb1⟩
      obtain ⟨hc1_0, hf1_0, hz1_0⟩ := own_stays hb1 (b := w.heap.size) (by first | (simp; done) | (simp; omega) | omega)
      go_wp2_with fail
      refine (S.out _).mono ?_
      rintro e w2 ⟨rfl, hb2⟩
      obtain ⟨hc2_0, hf2_0, hz2_0⟩ := own_stays hb2 (b := w.heap.size) (by first | (simp; done) | (simp; omega) | omega)
      go_wp2_with fail
      refine (E.out _).mono ?_
      rintro e w3 ⟨rfl, hb3⟩
      obtain ⟨hc3_0, hf3_0, hz3_0⟩ := own_stays hb3 (b := w.heap.size) (by first | (simp; done) | (simp; omega) | omega)
      go_wp2_with fail
      refine (A.out _).mono ?_
      rintro e w4 ⟨rfl, hb4⟩
      obtain ⟨hc4_0, hf4_0, hz4_0⟩ := own_stays hb4 (b := w.heap.size) (by first | (simp; done) | (simp; omega) | omega)
      go_wp2_with fail
      go_wp2_with fail
      refine (B.out _).mono ?_
      rintro e w6 ⟨rfl, rfl⟩
      go_wp2
      go_ret
      exact ⟨ret_b (by first | rfl | (simp; done)), (by repeat (with_reducible (first | exact Below.refl _ _ | assumption | refine bl_alloc ?_ _ | refine bl_drewN ?_ _ | refine bl_drew ?_ | refine bl_call ?_ (by assumption) | (refine bl_setCell ?_ _ (Nat.le_refl _)) | (refine bl_setCell ?_ _ (by simp)))))⟩
    have b4 : (c.kind == 4) = false := by simpa using k4
    by_cases k3 : c.kind = 3
    · obtain ⟨q1, q2, q3⟩ := r.2.2.2.2.2.2.2.1 k3
      obtain ⟨n1, n2⟩ := a5 (by omega)
      rw [q1, q2, q3] at n1 n2
      have N := fun w => near_any (y + 1) 1 6 w
      rw [n1, n2] at N
      have N := Lib.hid N
      have b3 : (c.kind == 3) = true := by simpa using k3
      clear n1 n2 q1 q2 q3 k3 k4 k5 a1 a2 a3 a5 wy wf r h t hc hy hn
      generalize endN c y = P at *
      generalize endN c (y - 1) + 1 = R at *
      go_enter Try.func8, Try.ntmps8
      go_wp2_with fail
      refine (live13 _).mono ?_
      rintro e w1 ⟨rfl, hb1⟩
      obtain ⟨hc1_0, hf1_0, hz1_0⟩ := own_stays hb1 (b := w.heap.size) (by first | (simp; done) | (simp; omega) | omega)
      go_wp2_with fail
      refine (S.out _).mono ?_
      rintro e w2 ⟨rfl, hb2⟩
      obtain ⟨hc2_0, hf2_0, hz2_0⟩ := own_stays hb2 (b := w.heap.size) (by first | (simp; done) | (simp; omega) | omega)
      go_wp2_with fail
      refine (E.out _).mono ?_
      rintro e w3 ⟨rfl, hb3⟩
      obtain ⟨hc3_0, hf3_0, hz3_0⟩ := own_stays hb3 (b := w.heap.size) (by first | (simp; done) | (simp; omega) | omega)
      go_wp2_with fail
      refine (N.out _).mono ?_
      rintro e w4 ⟨rfl, hb4⟩
      obtain ⟨hc4_0, hf4_0, hz4_0⟩ := own_stays hb4 (b := w.heap.size) (by first | (simp; done) | (simp; omega) | omega)
      go_wp2_with fail
      go_ret
      exact ⟨ret_b (by first | rfl | (simp; done)), (by repeat (with_reducible (first | exact Below.refl _ _ | assumption | refine bl_alloc ?_ _ | refine bl_drewN ?_ _ | refine bl_drew ?_ | refine bl_call ?_ (by assumption) | (refine bl_setCell ?_ _ (Nat.le_refl _)) | (refine bl_setCell ?_ _ (by simp)))))⟩
    have b3 : (c.kind == 3) = false := by simpa using k3
    clear k3 k4 k5 a1 a2 a3 a5 wy wf r h t hc hy hn
    generalize endN c y = P at *
    generalize endN c (y - 1) + 1 = R at *
    go_enter Try.func8, Try.ntmps8
    go_wp2_with fail
    refine (live13 _).mono ?_
    rintro e w1 ⟨rfl, hb1⟩
    obtain ⟨hc1_0, hf1_0, hz1_0⟩ := own_stays hb1 (b := w.heap.size) (by first | (simp; done) | (simp; omega) | omega)
    go_wp2_with fail
    refine (S.out _).mono ?_
    rintro e w2 ⟨rfl, hb2⟩
    obtain ⟨hc2_0, hf2_0, hz2_0⟩ := own_stays hb2 (b := w.heap.size) (by first | (simp; done) | (simp; omega) | omega)
    go_wp2_with fail
    refine (E.out _).mono ?_
    rintro e w3 ⟨rfl, hb3⟩
    obtain ⟨hc3_0, hf3_0, hz3_0⟩ := own_stays hb3 (b := w.heap.size) (by first | (simp; done) | (simp; omega) | omega)
    go_wp2_with fail
    go_ret
    exact ⟨ret_b (by first | rfl | (simp; done)), (by repeat (with_reducible (first | exact Below.refl _ _ | assumption | refine bl_alloc ?_ _ | refine bl_drewN ?_ _ | refine bl_drew ?_ | refine bl_call ?_ (by assumption) | (refine bl_setCell ?_ _ (Nat.le_refl _)) | (refine bl_setCell ?_ _ (by simp)))))⟩
  · obtain ⟨t1, _⟩ := tell_not t
    rw [show startV c y = 0 from if_neg t] at S
    have S := Lib.hid (fun w => S w hs)
    have E := Lib.hid (fun w => aend_any c y w hs)
    have t3 : (tellE c y 1601 != 0) = true := by simpa using t1
    clear t hc hy hn
    generalize tellE c y 1601 = t at *
    generalize tellE c y 1600 = u at *
    generalize endV c y = v at *
    go_enter Try.func8, Try.ntmps8
    go_wp2_with fail
    refine (live13 _).mono ?_
    rintro e w1 ⟨rfl, hb1⟩
    obtain ⟨hc1_0, hf1_0, hz1_0⟩ := own_stays hb1 (b := w.heap.size) (by first | (simp; done) | (simp; omega) | omega)
    go_wp2_with fail
    refine (S.out _).mono ?_
    rintro e w2 ⟨rfl, hb2⟩
    obtain ⟨hc2_0, hf2_0, hz2_0⟩ := own_stays hb2 (b := w.heap.size) (by first | (simp; done) | (simp; omega) | omega)
    go_wp2_with fail
    refine (E.out _).mono ?_
    rintro e w3 ⟨rfl, hb3⟩
    obtain ⟨hc3_0, hf3_0, hz3_0⟩ := own_stays hb3 (b := w.heap.size) (by first | (simp; done) | (simp; omega) | omega)
    go_wp2_with fail
    go_ret
    exact ⟨ret_b (by first | rfl | (simp; done)), (by repeat (with_reducible (first | exact Below.refl _ _ | assumption | refine bl_alloc ?_ _ | refine bl_drewN ?_ _ | refine bl_drew ?_ | refine bl_call ?_ (by assumption) | (refine bl_setCell ?_ _ (Nat.le_refl _)) | (refine bl_setCell ?_ _ (by simp)))))⟩
end Go.Proofs.Yteppoghpfcmhhaa
