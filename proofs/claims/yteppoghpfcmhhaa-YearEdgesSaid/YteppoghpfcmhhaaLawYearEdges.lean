import Derived.Test.YteppoghpfcmhhaaYearLive
import Derived.Test.YteppoghpfcmhhaaMathL
namespace Go.Proofs.Yteppoghpfcmhhaa
set_option linter.unusedVariables false
set_option linter.unusedSimpArgs false
open Go.RowKit
set_option maxRecDepth 100000 in
set_option maxHeartbeats 8000000 in
theorem yearEdges_any (c : CalI) (y : Int) (w : World) (hc : CalOk c) (hy : In y) :
    Calls Try.prog 9 #[calA c, .int .i64 y] w fun e w' => e = .returned (.bool true) ∧ Below w.heap.size w w' := by
  have hs := hc.1
  have hs' := hs
  unfold maxLen at hs'
  by_cases hn : 100 < c.name.size
  · have hn' : (100 : Int) < c.name.size := by omega
    go_enter Try.func9, Try.ntmps9
    go_wp2_with fail
    refine (live14 _).mono ?_
    rintro e w1 ⟨rfl, hb1⟩
    obtain ⟨hc1_0, hf1_0, hz1_0⟩ := own_stays hb1 (b := w.heap.size) (by first | (simp; done) | (simp; omega) | omega)
    go_wp2_with fail
    go_ret
    exact ⟨rfl, (by repeat (with_reducible (first | exact Below.refl _ _ | assumption | refine bl_alloc ?_ _ | refine bl_drewN ?_ _ | refine bl_drew ?_ | refine bl_call ?_ (by assumption) | (refine bl_setCell ?_ _ (Nat.le_refl _)) | (refine bl_setCell ?_ _ (by simp)))))⟩
  have hn' : ¬ (100 : Int) < c.name.size := by omega
  have S := astart_any c y
  by_cases t : tellE c y 1601 = 0
  · obtain ⟨h, h1, h2⟩ := tell_zero t
    have S := Lib.hid (fun w => astart_told c y w hs h h1 h2)
    have E := Lib.hid (fun w => aend_told c y w hs h (by omega) h2)
    obtain ⟨b1, b2⟩ := end_bd h (y := y) (by omega) h2
    obtain ⟨b3, b4⟩ := end_bd h (y := y - 1) (by omega) (by omega)
    have A := yof_any c (endN c (y - 1) + 1)
    have Z := yof_any c (endN c y)
    have M := yof_any c (endN c (y - 1))
    have N := yof_any c (endN c y + 1)
    have ea := behind h (y := y - 1) (by omega) (by omega)
    have eb := at_end h h1 h2
    have ec := behind h (y := y) (by omega) h2
    have em : (1601 < y ∧ foE c (endN c (y - 1)) = 0 ∧ foY c (endN c (y - 1)) = y - 1) ∨ (y = 1601 ∧ (foE c (endN c (y - 1)) = 11 ∨ foE c (endN c (y - 1)) = 4) ∧ foY c (endN c (y - 1)) = 0) := by
      by_cases hy : 1601 < y
      · have e := at_end h (y := y - 1) (by omega) (by omega)
        exact .inl ⟨hy, e.1, e.2⟩
      · obtain rfl : y = 1601 := by omega
        have e := at_low h
        exact .inr ⟨rfl, e.1, e.2⟩
    rw [eb.1, eb.2] at Z
    have ea' : foE c (endN c (y - 1) + 1) = 0 ∧ foY c (endN c (y - 1) + 1) = y := by
      rcases ea with ⟨_, a1, a2, _⟩ | ⟨a1, _⟩
      · exact ⟨a1, by rw [a2]; omega⟩
      · omega
    rw [ea'.1, ea'.2] at A
    have A := Lib.hid (fun w => A w hs)
    have Z := Lib.hid (fun w => Z w hs)
    clear ea ea' eb t hc hn h hy
    generalize hP : endN c y = P at *
    generalize hR : endN c (y - 1) = R at *
    clear hP hR
    have vr : R + 1 - 1 = R := by omega
    rcases em with ⟨q1, q2, q3⟩ | ⟨q1, q2, q3⟩
    · rw [q2, q3] at M
      have M := Lib.hid (fun w => M w hs)
      clear q2 q3
      rcases ec with ⟨r1, r2, r3, _⟩ | ⟨r1, r2, r3, _⟩
      · rw [r2, r3] at N
        have N := Lib.hid (fun w => N w hs)
        clear r2 r3
        as_aux_lemma =>
          go_enter Try.func9, Try.ntmps9
          go_wp2_with fail
          refine (live14 _).mono ?_
          rintro e w1 ⟨rfl, hb1⟩
          obtain ⟨hc1_0, hf1_0, hz1_0⟩ := own_stays hb1 (b := w.heap.size) (by first | (simp; done) | (simp; omega) | omega)
          go_wp2_with fail
          refine (S.out _).mono ?_
          rintro e w2 ⟨rfl, hb2⟩
          obtain ⟨hc2_0, hf2_0, hz2_0⟩ := own_stays hb2 (b := w.heap.size) (by first | (simp; done) | (simp; omega) | omega)
          go_wp2_with fail
          refine (E.out _).mono ?_
          rintro e w3 ⟨rfl, hb3⟩
          obtain ⟨hc3_0, hf3_0, hz3_0⟩ := own_stays hb3 (b := w.heap.size) (by first | (simp; done) | (simp; omega) | omega)
          go_wp2_with fail
          refine (A.out _).mono ?_
          rintro e w4 ⟨rfl, hb4⟩
          obtain ⟨hc4_0, hf4_0, hz4_0⟩ := own_stays hb4 (b := w.heap.size) (by first | (simp; done) | (simp; omega) | omega)
          go_wp2_with fail
          refine (Z.out _).mono ?_
          rintro e w5 ⟨rfl, hb5⟩
          obtain ⟨hc5_0, hf5_0, hz5_0⟩ := own_stays hb5 (b := w.heap.size) (by first | (simp; done) | (simp; omega) | omega)
          go_wp2_with fail
          refine (M.out _).mono ?_
          rintro e w6 ⟨rfl, hb6⟩
          obtain ⟨hc6_0, hf6_0, hz6_0⟩ := own_stays hb6 (b := w.heap.size) (by first | (simp; done) | (simp; omega) | omega)
          go_wp2_with fail
          refine (N.out _).mono ?_
          rintro e w7 ⟨rfl, hb7⟩
          obtain ⟨hc7_0, hf7_0, hz7_0⟩ := own_stays hb7 (b := w.heap.size) (by first | (simp; done) | (simp; omega) | omega)
          go_wp2_with fail
          all_goals go_ret
          all_goals exact ⟨ret_b (by first | rfl | (simp; done) | (simp; omega) | omega), (by repeat (with_reducible (first | exact Below.refl _ _ | assumption | refine bl_alloc ?_ _ | refine bl_drewN ?_ _ | refine bl_drew ?_ | refine bl_call ?_ (by assumption) | (refine bl_setCell ?_ _ (Nat.le_refl _)) | (refine bl_setCell ?_ _ (by simp)))))⟩
      · subst r1
        rcases r2 with r2 | r2
        all_goals
          rw [r2, r3] at N
          have N := Lib.hid (fun w => N w hs)
          clear r2 r3
          as_aux_lemma =>
            go_enter Try.func9, Try.ntmps9
            go_wp2_with fail
            refine (live14 _).mono ?_
            rintro e w1 ⟨rfl, hb1⟩
            obtain ⟨hc1_0, hf1_0, hz1_0⟩ := own_stays hb1 (b := w.heap.size) (by first | (simp; done) | (simp; omega) | omega)
            go_wp2_with fail
            refine (S.out _).mono ?_
            rintro e w2 ⟨rfl, hb2⟩
            obtain ⟨hc2_0, hf2_0, hz2_0⟩ := own_stays hb2 (b := w.heap.size) (by first | (simp; done) | (simp; omega) | omega)
            go_wp2_with fail
            refine (E.out _).mono ?_
            rintro e w3 ⟨rfl, hb3⟩
            obtain ⟨hc3_0, hf3_0, hz3_0⟩ := own_stays hb3 (b := w.heap.size) (by first | (simp; done) | (simp; omega) | omega)
            go_wp2_with fail
            refine (A.out _).mono ?_
            rintro e w4 ⟨rfl, hb4⟩
            obtain ⟨hc4_0, hf4_0, hz4_0⟩ := own_stays hb4 (b := w.heap.size) (by first | (simp; done) | (simp; omega) | omega)
            go_wp2_with fail
            refine (Z.out _).mono ?_
            rintro e w5 ⟨rfl, hb5⟩
            obtain ⟨hc5_0, hf5_0, hz5_0⟩ := own_stays hb5 (b := w.heap.size) (by first | (simp; done) | (simp; omega) | omega)
            go_wp2_with fail
            refine (M.out _).mono ?_
            rintro e w6 ⟨rfl, hb6⟩
            obtain ⟨hc6_0, hf6_0, hz6_0⟩ := own_stays hb6 (b := w.heap.size) (by first | (simp; done) | (simp; omega) | omega)
            go_wp2_with fail
            refine (N.out _).mono ?_
            rintro e w7 ⟨rfl, hb7⟩
            obtain ⟨hc7_0, hf7_0, hz7_0⟩ := own_stays hb7 (b := w.heap.size) (by first | (simp; done) | (simp; omega) | omega)
            go_wp2_with fail
            all_goals go_ret
            all_goals exact ⟨ret_b (by first | rfl | (simp; done) | (simp; omega) | omega), (by repeat (with_reducible (first | exact Below.refl _ _ | assumption | refine bl_alloc ?_ _ | refine bl_drewN ?_ _ | refine bl_drew ?_ | refine bl_call ?_ (by assumption) | (refine bl_setCell ?_ _ (Nat.le_refl _)) | (refine bl_setCell ?_ _ (by simp)))))⟩
    · subst q1
      rcases ec with ⟨r1, r2, r3, _⟩ | ⟨r1, _⟩
      · rw [r2, r3] at N
        have N := Lib.hid (fun w => N w hs)
        clear r2 r3
        rcases q2 with q2 | q2
        all_goals
          rw [q2, q3] at M
          have M := Lib.hid (fun w => M w hs)
          clear q2 q3
          as_aux_lemma =>
            go_enter Try.func9, Try.ntmps9
            go_wp2_with fail
            refine (live14 _).mono ?_
            rintro e w1 ⟨rfl, hb1⟩
            obtain ⟨hc1_0, hf1_0, hz1_0⟩ := own_stays hb1 (b := w.heap.size) (by first | (simp; done) | (simp; omega) | omega)
            go_wp2_with fail
            refine (S.out _).mono ?_
            rintro e w2 ⟨rfl, hb2⟩
            obtain ⟨hc2_0, hf2_0, hz2_0⟩ := own_stays hb2 (b := w.heap.size) (by first | (simp; done) | (simp; omega) | omega)
            go_wp2_with fail
            refine (E.out _).mono ?_
            rintro e w3 ⟨rfl, hb3⟩
            obtain ⟨hc3_0, hf3_0, hz3_0⟩ := own_stays hb3 (b := w.heap.size) (by first | (simp; done) | (simp; omega) | omega)
            go_wp2_with fail
            refine (A.out _).mono ?_
            rintro e w4 ⟨rfl, hb4⟩
            obtain ⟨hc4_0, hf4_0, hz4_0⟩ := own_stays hb4 (b := w.heap.size) (by first | (simp; done) | (simp; omega) | omega)
            go_wp2_with fail
            refine (Z.out _).mono ?_
            rintro e w5 ⟨rfl, hb5⟩
            obtain ⟨hc5_0, hf5_0, hz5_0⟩ := own_stays hb5 (b := w.heap.size) (by first | (simp; done) | (simp; omega) | omega)
            go_wp2_with fail
            refine (M.out _).mono ?_
            rintro e w6 ⟨rfl, hb6⟩
            obtain ⟨hc6_0, hf6_0, hz6_0⟩ := own_stays hb6 (b := w.heap.size) (by first | (simp; done) | (simp; omega) | omega)
            go_wp2_with fail
            refine (N.out _).mono ?_
            rintro e w7 ⟨rfl, hb7⟩
            obtain ⟨hc7_0, hf7_0, hz7_0⟩ := own_stays hb7 (b := w.heap.size) (by first | (simp; done) | (simp; omega) | omega)
            go_wp2_with fail
            all_goals go_ret
            all_goals exact ⟨ret_b (by first | rfl | (simp; done) | (simp; omega) | omega), (by repeat (with_reducible (first | exact Below.refl _ _ | assumption | refine bl_alloc ?_ _ | refine bl_drewN ?_ _ | refine bl_drew ?_ | refine bl_call ?_ (by assumption) | (refine bl_setCell ?_ _ (Nat.le_refl _)) | (refine bl_setCell ?_ _ (by simp)))))⟩
      · omega
  · obtain ⟨t1, _⟩ := tell_not t
    rw [show startV c y = 0 from if_neg t] at S
    have S := Lib.hid (fun w => S w hs)
    have E := Lib.hid (fun w => aend_any c y w hs)
    have t3 : (tellE c y 1601 != 0) = true := by simpa using t1
    clear t hc hy hn
    generalize tellE c y 1601 = t at *
    generalize tellE c y 1600 = u at *
    generalize endV c y = v at *
    as_aux_lemma =>
      go_enter Try.func9, Try.ntmps9
      go_wp2_with fail
      refine (live14 _).mono ?_
      rintro e w1 ⟨rfl, hb1⟩
      obtain ⟨hc1_0, hf1_0, hz1_0⟩ := own_stays hb1 (b := w.heap.size) (by first | (simp; done) | (simp; omega) | omega)
      go_wp2_with fail
      refine (S.out _).mono ?_
      rintro e w2 ⟨rfl, hb2⟩
      obtain ⟨hc2_0, hf2_0, hz2_0⟩ := own_stays hb2 (b := w.heap.size) (by first | (simp; done) | (simp; omega) | omega)
      go_wp2_with fail
      refine (E.out _).mono ?_
      rintro e w3 ⟨rfl, hb3⟩
      obtain ⟨hc3_0, hf3_0, hz3_0⟩ := own_stays hb3 (b := w.heap.size) (by first | (simp; done) | (simp; omega) | omega)
      go_wp2_with fail
      all_goals go_ret
      all_goals exact ⟨ret_b (by first | rfl | (simp; done) | (simp; omega) | omega), (by repeat (with_reducible (first | exact Below.refl _ _ | assumption | refine bl_alloc ?_ _ | refine bl_drewN ?_ _ | refine bl_drew ?_ | refine bl_call ?_ (by assumption) | (refine bl_setCell ?_ _ (Nat.le_refl _)) | (refine bl_setCell ?_ _ (by simp)))))⟩
end Go.Proofs.Yteppoghpfcmhhaa
