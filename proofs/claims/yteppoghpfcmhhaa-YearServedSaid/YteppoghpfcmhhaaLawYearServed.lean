import Derived.Test.YteppoghpfcmhhaaYearLive
import Derived.Test.YteppoghpfcmhhaaMathL
namespace Go.Proofs.Yteppoghpfcmhhaa
set_option linter.unusedVariables false
set_option linter.unusedSimpArgs false
open Go.RowKit
set_option maxRecDepth 100000 in
set_option maxHeartbeats 8000000 in
theorem yearServed_any (c : CalI) (day : Int) (w : World) (hc : CalOk c) (hday : In day) :
    Calls Try.prog 10 #[calA c, .int .i64 day] w fun e w' => e = .returned (.bool true) ∧ Below w.heap.size w w' := by
  have hs := hc.1
  have hs' := hs
  unfold maxLen at hs'
  by_cases hn : 100 < c.name.size
  · have hn' : (100 : Int) < c.name.size := by omega
    go_enter Try.func10, Try.ntmps10
    go_wp2_with fail
    refine (live14 _).mono ?_
    rintro e w1 ⟨rfl, hb1⟩
    obtain ⟨hc1_0, hf1_0, hz1_0⟩ := own_stays hb1 (b := w.heap.size) (by first | (simp; done) | (simp; omega) | omega)
    go_wp2_with fail
    go_ret
    exact ⟨rfl, (by repeat (with_reducible (first | exact Below.refl _ _ | assumption | refine bl_alloc ?_ _ | refine bl_drewN ?_ _ | refine bl_drew ?_ | refine bl_call ?_ (by assumption) | (refine bl_setCell ?_ _ (Nat.le_refl _)) | (refine bl_setCell ?_ _ (by simp)))))⟩
  have hn' : ¬ (100 : Int) < c.name.size := by omega
  have F := yof_any c day
  have V := served_any c day
  have B := bounds_any c
  rcases Bool.eq_false_or_eq_true (calB c) with h | h
  · obtain ⟨b1, b2, b3, b4, _, _⟩ := bo_bd h
    rw [h] at B
    have B := Lib.hid (fun w => B w hs)
    have dt := fo_date h (day := day)
    rcases fo_ways c day with ⟨_, i, z, hz, e1, e2, e3⟩ | ⟨_, i, hno, e1, e2, e3⟩ | ⟨_, i, e1, e2, e3⟩ | ⟨h', _⟩
    · obtain ⟨k1, k2⟩ := served_in h hz
      have d1 : 0 ≤ day ∧ day < 3068037 := (isB_iff _).1 i
      obtain ⟨d2, d3⟩ := d1
      rcases sv_ways c day with ⟨_, _, c1, c2, f1, f2⟩ | ⟨_, _, c1, f1, f2⟩ | ⟨_, x, _⟩ | ⟨x, _⟩
      · rw [f1, f2, e2] at V
        rw [e1, e2] at F
        have F := Lib.hid (fun w => F w hs)
        have V := Lib.hid (fun w => V w hs)
        have z1 := k1.2 c1
        have z2 := k2.2 c2
        clear dt hz i e1 e2 e3 k1 k2 f1 f2 hc hn h hday
        generalize boA c = P at *
        generalize boB c = R at *
        as_aux_lemma =>
          go_enter Try.func10, Try.ntmps10
          go_wp2_with fail
          refine (live14 _).mono ?_
          rintro e w1 ⟨rfl, hb1⟩
          obtain ⟨hc1_0, hf1_0, hz1_0⟩ := own_stays hb1 (b := w.heap.size) (by first | (simp; done) | (simp; omega) | omega)
          go_wp2_with fail
          refine (F.out _).mono ?_
          rintro e w2 ⟨rfl, hb2⟩
          obtain ⟨hc2_0, hf2_0, hz2_0⟩ := own_stays hb2 (b := w.heap.size) (by first | (simp; done) | (simp; omega) | omega)
          go_wp2_with fail
          refine (V.out _).mono ?_
          rintro e w3 ⟨rfl, hb3⟩
          obtain ⟨hc3_0, hf3_0, hz3_0⟩ := own_stays hb3 (b := w.heap.size) (by first | (simp; done) | (simp; omega) | omega)
          go_wp2_with fail
          refine (B.out _).mono ?_
          rintro e w4 ⟨rfl, hb4⟩
          obtain ⟨hc4_0, hf4_0, hz4_0⟩ := own_stays hb4 (b := w.heap.size) (by first | (simp; done) | (simp; omega) | omega)
          go_wp2_with fail
          all_goals go_ret
          all_goals exact ⟨ret_b (by first | rfl | (simp; done) | (simp; omega) | omega), (by repeat (with_reducible (first | exact Below.refl _ _ | assumption | refine bl_alloc ?_ _ | refine bl_drewN ?_ _ | refine bl_drew ?_ | refine bl_call ?_ (by assumption) | (refine bl_setCell ?_ _ (Nat.le_refl _)) | (refine bl_setCell ?_ _ (by simp)))))⟩
      · rw [f1, f2] at V
        rw [e1, e2] at F
        have F := Lib.hid (fun w => F w hs)
        have V := Lib.hid (fun w => V w hs)
        have zz : z < c.first ∧ day < boA c ∨ (c.first ≤ z ∧ boA c ≤ day ∧ c.last < z ∧ boB c < day) := by
          rcases c1 with c1 | ⟨c1, c2⟩
          · exact .inl ⟨by have := mt k1.1 (by omega); omega, c1⟩
          · exact .inr ⟨k1.2 c1, c1, by have := mt k2.1 (by omega); omega, c2⟩
        clear c1 dt hz i e1 e2 e3 k1 k2 f1 f2 hc hn h hday
        generalize boA c = P at *
        generalize boB c = R at *
        rcases zz with ⟨z1, z2⟩ | ⟨z1, z2, z3, z4⟩
        · have u1 : decide (c.first ≤ z) = false := by simp; omega
          have u2 : decide (P ≤ day) = false := by simp; omega
          as_aux_lemma =>
            go_enter Try.func10, Try.ntmps10
            go_wp2_with fail
            refine (live14 _).mono ?_
            rintro e w1 ⟨rfl, hb1⟩
            obtain ⟨hc1_0, hf1_0, hz1_0⟩ := own_stays hb1 (b := w.heap.size) (by first | (simp; done) | (simp; omega) | omega)
            go_wp2_with fail
            refine (F.out _).mono ?_
            rintro e w2 ⟨rfl, hb2⟩
            obtain ⟨hc2_0, hf2_0, hz2_0⟩ := own_stays hb2 (b := w.heap.size) (by first | (simp; done) | (simp; omega) | omega)
            go_wp2_with fail
            refine (V.out _).mono ?_
            rintro e w3 ⟨rfl, hb3⟩
            obtain ⟨hc3_0, hf3_0, hz3_0⟩ := own_stays hb3 (b := w.heap.size) (by first | (simp; done) | (simp; omega) | omega)
            go_wp2_with fail
            refine (B.out _).mono ?_
            rintro e w4 ⟨rfl, hb4⟩
            obtain ⟨hc4_0, hf4_0, hz4_0⟩ := own_stays hb4 (b := w.heap.size) (by first | (simp; done) | (simp; omega) | omega)
            go_wp2_with fail
            all_goals go_ret
            all_goals exact ⟨ret_b (by first | rfl | (simp; done) | (simp; omega) | omega), (by repeat (with_reducible (first | exact Below.refl _ _ | assumption | refine bl_alloc ?_ _ | refine bl_drewN ?_ _ | refine bl_drew ?_ | refine bl_call ?_ (by assumption) | (refine bl_setCell ?_ _ (Nat.le_refl _)) | (refine bl_setCell ?_ _ (by simp)))))⟩
        · have u3 : decide (z ≤ c.last) = false := by simp; omega
          have u4 : decide (day ≤ R) = false := by simp; omega
          as_aux_lemma =>
            go_enter Try.func10, Try.ntmps10
            go_wp2_with fail
            refine (live14 _).mono ?_
            rintro e w1 ⟨rfl, hb1⟩
            obtain ⟨hc1_0, hf1_0, hz1_0⟩ := own_stays hb1 (b := w.heap.size) (by first | (simp; done) | (simp; omega) | omega)
            go_wp2_with fail
            refine (F.out _).mono ?_
            rintro e w2 ⟨rfl, hb2⟩
            obtain ⟨hc2_0, hf2_0, hz2_0⟩ := own_stays hb2 (b := w.heap.size) (by first | (simp; done) | (simp; omega) | omega)
            go_wp2_with fail
            refine (V.out _).mono ?_
            rintro e w3 ⟨rfl, hb3⟩
            obtain ⟨hc3_0, hf3_0, hz3_0⟩ := own_stays hb3 (b := w.heap.size) (by first | (simp; done) | (simp; omega) | omega)
            go_wp2_with fail
            refine (B.out _).mono ?_
            rintro e w4 ⟨rfl, hb4⟩
            obtain ⟨hc4_0, hf4_0, hz4_0⟩ := own_stays hb4 (b := w.heap.size) (by first | (simp; done) | (simp; omega) | omega)
            go_wp2_with fail
            all_goals go_ret
            all_goals exact ⟨ret_b (by first | rfl | (simp; done) | (simp; omega) | omega), (by repeat (with_reducible (first | exact Below.refl _ _ | assumption | refine bl_alloc ?_ _ | refine bl_drewN ?_ _ | refine bl_drew ?_ | refine bl_call ?_ (by assumption) | (refine bl_setCell ?_ _ (Nat.le_refl _)) | (refine bl_setCell ?_ _ (by simp)))))⟩
      · exact absurd e1 x
      · rw [h] at x; cases x
    all_goals try (rw [h] at h'; cases h'; done)
    · have no := served_no h hno
      have d1 : 0 ≤ day ∧ day < 3068037 := (isB_iff _).1 i
      obtain ⟨d2, d3⟩ := d1
      rcases sv_ways c day with ⟨_, x, _⟩ | ⟨_, x, _⟩ | ⟨_, _, _, f1, f2⟩ | ⟨x, _⟩
      · omega
      · omega
      · rw [f1, f2, e1] at V
        rw [e1, e2] at F
        have F := Lib.hid (fun w => F w hs)
        have V := Lib.hid (fun w => V w hs)
        clear dt hno i e1 e2 e3 f1 f2 hc hn h hday
        generalize boA c = P at *
        generalize boB c = R at *
        have nn : day < P ∨ (P ≤ day ∧ R < day) := by omega
        clear no
        rcases nn with n1 | ⟨n1, n2⟩
        all_goals
          as_aux_lemma =>
            go_enter Try.func10, Try.ntmps10
            go_wp2_with fail
            refine (live14 _).mono ?_
            rintro e w1 ⟨rfl, hb1⟩
            obtain ⟨hc1_0, hf1_0, hz1_0⟩ := own_stays hb1 (b := w.heap.size) (by first | (simp; done) | (simp; omega) | omega)
            go_wp2_with fail
            refine (F.out _).mono ?_
            rintro e w2 ⟨rfl, hb2⟩
            obtain ⟨hc2_0, hf2_0, hz2_0⟩ := own_stays hb2 (b := w.heap.size) (by first | (simp; done) | (simp; omega) | omega)
            go_wp2_with fail
            refine (V.out _).mono ?_
            rintro e w3 ⟨rfl, hb3⟩
            obtain ⟨hc3_0, hf3_0, hz3_0⟩ := own_stays hb3 (b := w.heap.size) (by first | (simp; done) | (simp; omega) | omega)
            go_wp2_with fail
            refine (B.out _).mono ?_
            rintro e w4 ⟨rfl, hb4⟩
            obtain ⟨hc4_0, hf4_0, hz4_0⟩ := own_stays hb4 (b := w.heap.size) (by first | (simp; done) | (simp; omega) | omega)
            go_wp2_with fail
            all_goals go_ret
            all_goals exact ⟨ret_b (by first | rfl | (simp; done) | (simp; omega) | omega), (by repeat (with_reducible (first | exact Below.refl _ _ | assumption | refine bl_alloc ?_ _ | refine bl_drewN ?_ _ | refine bl_drew ?_ | refine bl_call ?_ (by assumption) | (refine bl_setCell ?_ _ (Nat.le_refl _)) | (refine bl_setCell ?_ _ (by simp)))))⟩
      · rw [h] at x; cases x
    · rcases sv_ways c day with ⟨_, x, _⟩ | ⟨_, x, _⟩ | ⟨_, _, _, f1, f2⟩ | ⟨x, _⟩
      · omega
      · omega
      · rw [f1, f2, e1] at V
        rw [e1, e2] at F
        have F := Lib.hid (fun w => F w hs)
        have V := Lib.hid (fun w => V w hs)
        have dd : (day < 0 ∧ day < boA c) ∨ (0 ≤ day ∧ 3068037 ≤ day ∧ boB c < day) := by
          rcases dt with ⟨_, x | x⟩ | ⟨x, _⟩
          · exact .inl ⟨x, by omega⟩
          · exact .inr ⟨x.1, x.2, by omega⟩
          · exact absurd e1 x
        clear dt i e1 e2 e3 f1 f2 hc hn h hday
        generalize boA c = P at *
        generalize boB c = R at *
        rcases dd with ⟨n1, n2⟩ | ⟨n1, n2, n3⟩
        · skip
          as_aux_lemma =>
            go_enter Try.func10, Try.ntmps10
            go_wp2_with fail
            refine (live14 _).mono ?_
            rintro e w1 ⟨rfl, hb1⟩
            obtain ⟨hc1_0, hf1_0, hz1_0⟩ := own_stays hb1 (b := w.heap.size) (by first | (simp; done) | (simp; omega) | omega)
            go_wp2_with fail
            refine (F.out _).mono ?_
            rintro e w2 ⟨rfl, hb2⟩
            obtain ⟨hc2_0, hf2_0, hz2_0⟩ := own_stays hb2 (b := w.heap.size) (by first | (simp; done) | (simp; omega) | omega)
            go_wp2_with fail
            refine (V.out _).mono ?_
            rintro e w3 ⟨rfl, hb3⟩
            obtain ⟨hc3_0, hf3_0, hz3_0⟩ := own_stays hb3 (b := w.heap.size) (by first | (simp; done) | (simp; omega) | omega)
            go_wp2_with fail
            refine (B.out _).mono ?_
            rintro e w4 ⟨rfl, hb4⟩
            obtain ⟨hc4_0, hf4_0, hz4_0⟩ := own_stays hb4 (b := w.heap.size) (by first | (simp; done) | (simp; omega) | omega)
            go_wp2_with fail
            all_goals go_ret
            all_goals exact ⟨ret_b (by first | rfl | (simp; done) | (simp; omega) | omega), (by repeat (with_reducible (first | exact Below.refl _ _ | assumption | refine bl_alloc ?_ _ | refine bl_drewN ?_ _ | refine bl_drew ?_ | refine bl_call ?_ (by assumption) | (refine bl_setCell ?_ _ (Nat.le_refl _)) | (refine bl_setCell ?_ _ (by simp)))))⟩
        · have n4 : P ≤ day := by omega
          as_aux_lemma =>
            go_enter Try.func10, Try.ntmps10
            go_wp2_with fail
            refine (live14 _).mono ?_
            rintro e w1 ⟨rfl, hb1⟩
            obtain ⟨hc1_0, hf1_0, hz1_0⟩ := own_stays hb1 (b := w.heap.size) (by first | (simp; done) | (simp; omega) | omega)
            go_wp2_with fail
            refine (F.out _).mono ?_
            rintro e w2 ⟨rfl, hb2⟩
            obtain ⟨hc2_0, hf2_0, hz2_0⟩ := own_stays hb2 (b := w.heap.size) (by first | (simp; done) | (simp; omega) | omega)
            go_wp2_with fail
            refine (V.out _).mono ?_
            rintro e w3 ⟨rfl, hb3⟩
            obtain ⟨hc3_0, hf3_0, hz3_0⟩ := own_stays hb3 (b := w.heap.size) (by first | (simp; done) | (simp; omega) | omega)
            go_wp2_with fail
            refine (B.out _).mono ?_
            rintro e w4 ⟨rfl, hb4⟩
            obtain ⟨hc4_0, hf4_0, hz4_0⟩ := own_stays hb4 (b := w.heap.size) (by first | (simp; done) | (simp; omega) | omega)
            go_wp2_with fail
            all_goals go_ret
            all_goals exact ⟨ret_b (by first | rfl | (simp; done) | (simp; omega) | omega), (by repeat (with_reducible (first | exact Below.refl _ _ | assumption | refine bl_alloc ?_ _ | refine bl_drewN ?_ _ | refine bl_drew ?_ | refine bl_call ?_ (by assumption) | (refine bl_setCell ?_ _ (Nat.le_refl _)) | (refine bl_setCell ?_ _ (by simp)))))⟩
      · rw [h] at x; cases x
  · rw [show boA c = 0 from if_neg (by simp [h]), show boB c = 0 from if_neg (by simp [h]), h] at B
    have B := Lib.hid (fun w => B w hs)
    have C := fcheck_any c
    rw [h] at C
    have C := Lib.hid (fun w => C w hs)
    rcases fo_ways c day with ⟨h', _⟩ | ⟨h', _⟩ | ⟨h', _⟩ | ⟨_, e1, e2, e3⟩
    · rw [h] at h'; cases h'
    · rw [h] at h'; cases h'
    · rw [h] at h'; cases h'
    rcases sv_ways c day with ⟨h', _⟩ | ⟨h', _⟩ | ⟨h', _⟩ | ⟨_, f1, f2⟩
    · rw [h] at h'; cases h'
    · rw [h] at h'; cases h'
    · rw [h] at h'; cases h'
    rw [f1, f2] at V
    rw [e1, e2] at F
    have F := Lib.hid (fun w => F w hs)
    have V := Lib.hid (fun w => V w hs)
    clear e1 e2 e3 f1 f2 hc hn h hday
    as_aux_lemma =>
      go_enter Try.func10, Try.ntmps10
      go_wp2_with fail
      refine (live14 _).mono ?_
      rintro e w1 ⟨rfl, hb1⟩
      obtain ⟨hc1_0, hf1_0, hz1_0⟩ := own_stays hb1 (b := w.heap.size) (by first | (simp; done) | (simp; omega) | omega)
      go_wp2_with fail
      refine (F.out _).mono ?_
      rintro e w2 ⟨rfl, hb2⟩
      obtain ⟨hc2_0, hf2_0, hz2_0⟩ := own_stays hb2 (b := w.heap.size) (by first | (simp; done) | (simp; omega) | omega)
      go_wp2_with fail
      refine (V.out _).mono ?_
      rintro e w3 ⟨rfl, hb3⟩
      obtain ⟨hc3_0, hf3_0, hz3_0⟩ := own_stays hb3 (b := w.heap.size) (by first | (simp; done) | (simp; omega) | omega)
      go_wp2_with fail
      refine (B.out _).mono ?_
      rintro e w4 ⟨rfl, hb4⟩
      obtain ⟨hc4_0, hf4_0, hz4_0⟩ := own_stays hb4 (b := w.heap.size) (by first | (simp; done) | (simp; omega) | omega)
      go_wp2_with fail
      refine (C.out _).mono ?_
      rintro e w5 ⟨rfl, hb5⟩
      obtain ⟨hc5_0, hf5_0, hz5_0⟩ := own_stays hb5 (b := w.heap.size) (by first | (simp; done) | (simp; omega) | omega)
      obtain ⟨hc5_1, hf5_1, hz5_1⟩ := own_stays hb5 (b := w4.heap.size) (by first | (simp; done) | (simp; omega) | omega)
      go_wp2_with fail
      all_goals go_ret
      all_goals exact ⟨ret_b (by first | rfl | (simp; done) | (simp; omega) | omega), (by repeat (with_reducible (first | exact Below.refl _ _ | assumption | refine bl_alloc ?_ _ | refine bl_drewN ?_ _ | refine bl_drew ?_ | refine bl_call ?_ (by assumption) | (refine bl_setCell ?_ _ (Nat.le_refl _)) | (refine bl_setCell ?_ _ (by simp)))))⟩
end Go.Proofs.Yteppoghpfcmhhaa
