import Derived.Test.YteppoghpfcmhhaaYearLive
import Derived.Test.YteppoghpfcmhhaaMathL
namespace Go.Proofs.Yteppoghpfcmhhaa
set_option linter.unusedVariables false
set_option linter.unusedSimpArgs false
open Go.RowKit
set_option maxRecDepth 100000 in
set_option maxHeartbeats 8000000 in
theorem yearIn_any (c : CalI) (day y : Int) (w : World) (hc : CalOk c) (hday : In day) (hy : In y) :
    Calls Try.prog 13 #[calA c, .int .i64 day, .int .i64 y] w fun e w' => e = .returned (.bool true) ∧ Below w.heap.size w w' := by
  have hs := hc.1
  have hs' := hs
  unfold maxLen at hs'
  by_cases hn : 100 < c.name.size
  · have hn' : (100 : Int) < c.name.size := by omega
    go_enter Try.func13, Try.ntmps13
    go_wp2_with fail
    refine (live14 _).mono ?_
    rintro e w1 ⟨rfl, hb1⟩
    obtain ⟨hc1_0, hf1_0, hz1_0⟩ := own_stays hb1 (b := w.heap.size) (by first | (simp; done) | (simp; omega) | omega)
    go_wp2_with fail
    go_ret
    exact ⟨rfl, (by repeat (with_reducible (first | exact Below.refl _ _ | assumption | refine bl_alloc ?_ _ | refine bl_drewN ?_ _ | refine bl_drew ?_ | refine bl_call ?_ (by assumption) | (refine bl_setCell ?_ _ (Nat.le_refl _)) | (refine bl_setCell ?_ _ (by simp)))))⟩
  have hn' : ¬ (100 : Int) < c.name.size := by omega
  have F := yof_any c day
  have S := astart_any c y
  have E := aend_any c y
  have N := ynth_any c day
  -- the second half: the year y
  have second : (tellE c y 1601 = 0 ∧ calB c = true ∧ 1601 ≤ y ∧ y ≤ 9997) ∨ tellE c y 1601 ≠ 0 := by
    by_cases t : tellE c y 1601 = 0
    · exact .inl ⟨t, tell_zero t⟩
    · exact .inr t
  rcases fo_ways c day with ⟨h, i, z, hz, e1, e2, e3⟩ | ho
  · obtain ⟨z1, z2, z3, z4⟩ := (fyOk_iff _ _ _).1 hz
    rw [e1, e2] at F
    rw [e1, e3] at N
    have F := Lib.hid (fun w => F w hs)
    have N := Lib.hid (fun w => N w hs)
    have S1 := Lib.hid (fun w => astart_told c z w hs h z1 z2)
    have E1 := Lib.hid (fun w => aend_told c z w hs h (by omega) z2)
    obtain ⟨b1, b2⟩ := end_bd h (y := z) (by omega) z2
    obtain ⟨b3, b4⟩ := end_bd h (y := z - 1) (by omega) (by omega)
    have z3' : endN c (z - 1) + 1 ≤ day := by omega
    have NV := Lib.hid (show day - endN c (z - 1) = day - (endN c (z - 1) + 1) + 1 by omega)
    have NN := N.out
    rw [NV.out] at NN
    have N := Lib.hid NN
    have dd : 0 ≤ day ∧ day < 3068037 := (isB_iff _).1 i
    obtain ⟨d1, d2⟩ := dd
    rcases second with ⟨t, _, t1, t2⟩ | t
    · have S := Lib.hid (fun w => astart_told c y w hs h t1 t2)
      have E := Lib.hid (fun w => aend_told c y w hs h (by omega) t2)
      obtain ⟨b5, b6⟩ := end_bd h (y := y) (by omega) t2
      obtain ⟨b7, b8⟩ := end_bd h (y := y - 1) (by omega) (by omega)
      by_cases hin : fyOk c day y = true
      · obtain rfl := fy_uniq h hz hin
        clear hz hin e1 e2 e3 t hc hn h i hday hy NN NV
        generalize hP : endN c z = P at *
        generalize hR : endN c (z - 1) = R at *
        clear hP hR
        as_aux_lemma =>
          go_enter Try.func13, Try.ntmps13
          go_wp2_with fail
          refine (live14 _).mono ?_
          rintro e w1 ⟨rfl, hb1⟩
          obtain ⟨hc1_0, hf1_0, hz1_0⟩ := own_stays hb1 (b := w.heap.size) (by first | (simp; done) | (simp; omega) | omega)
          go_wp2_with fail
          refine (F.out _).mono ?_
          rintro e w2 ⟨rfl, hb2⟩
          obtain ⟨hc2_0, hf2_0, hz2_0⟩ := own_stays hb2 (b := w.heap.size) (by first | (simp; done) | (simp; omega) | omega)
          go_wp2_with fail
          refine (S1.out _).mono ?_
          rintro e w3 ⟨rfl, hb3⟩
          obtain ⟨hc3_0, hf3_0, hz3_0⟩ := own_stays hb3 (b := w.heap.size) (by first | (simp; done) | (simp; omega) | omega)
          go_wp2_with fail
          refine (E1.out _).mono ?_
          rintro e w4 ⟨rfl, hb4⟩
          obtain ⟨hc4_0, hf4_0, hz4_0⟩ := own_stays hb4 (b := w.heap.size) (by first | (simp; done) | (simp; omega) | omega)
          go_wp2_with fail
          refine (N.out _).mono ?_
          rintro e w5 ⟨rfl, hb5⟩
          obtain ⟨hc5_0, hf5_0, hz5_0⟩ := own_stays hb5 (b := w.heap.size) (by first | (simp; done) | (simp; omega) | omega)
          go_wp2_with fail
          refine (S.out _).mono ?_
          rintro e w6 ⟨rfl, hb6⟩
          obtain ⟨hc6_0, hf6_0, hz6_0⟩ := own_stays hb6 (b := w.heap.size) (by first | (simp; done) | (simp; omega) | omega)
          go_wp2_with fail
          refine (E.out _).mono ?_
          rintro e w7 ⟨rfl, hb7⟩
          obtain ⟨hc7_0, hf7_0, hz7_0⟩ := own_stays hb7 (b := w.heap.size) (by first | (simp; done) | (simp; omega) | omega)
          go_wp2_with fail
          refine (F.out _).mono ?_
          rintro e w8 ⟨rfl, hb8⟩
          obtain ⟨hc8_0, hf8_0, hz8_0⟩ := own_stays hb8 (b := w.heap.size) (by first | (simp; done) | (simp; omega) | omega)
          go_wp2_with fail
          all_goals go_ret
          all_goals exact ⟨ret_b (by first | rfl | (simp; done) | (simp; omega) | omega), (by repeat (with_reducible (first | exact Below.refl _ _ | assumption | refine bl_alloc ?_ _ | refine bl_drewN ?_ _ | refine bl_drew ?_ | refine bl_call ?_ (by assumption) | (refine bl_setCell ?_ _ (Nat.le_refl _)) | (refine bl_setCell ?_ _ (by simp)))))⟩
      · have out : day < endN c (y - 1) + 1 ∨ (endN c (y - 1) + 1 ≤ day ∧ endN c y < day) := by
          have := mt (fyOk_iff c day y).2 hin
          omega
        clear hz hin e1 e2 e3 t hc hn h i hday hy NN NV
        generalize hP : endN c z = P at *
        generalize hR : endN c (z - 1) = R at *
        generalize hP2 : endN c y = P2 at *
        generalize hR2 : endN c (y - 1) = R2 at *
        clear hP hR hP2 hR2
        rcases out with o1 | ⟨o1, o2⟩
        all_goals
          as_aux_lemma =>
            go_enter Try.func13, Try.ntmps13
            go_wp2_with fail
            refine (live14 _).mono ?_
            rintro e w1 ⟨rfl, hb1⟩
            obtain ⟨hc1_0, hf1_0, hz1_0⟩ := own_stays hb1 (b := w.heap.size) (by first | (simp; done) | (simp; omega) | omega)
            go_wp2_with fail
            refine (F.out _).mono ?_
            rintro e w2 ⟨rfl, hb2⟩
            obtain ⟨hc2_0, hf2_0, hz2_0⟩ := own_stays hb2 (b := w.heap.size) (by first | (simp; done) | (simp; omega) | omega)
            go_wp2_with fail
            refine (S1.out _).mono ?_
            rintro e w3 ⟨rfl, hb3⟩
            obtain ⟨hc3_0, hf3_0, hz3_0⟩ := own_stays hb3 (b := w.heap.size) (by first | (simp; done) | (simp; omega) | omega)
            go_wp2_with fail
            refine (E1.out _).mono ?_
            rintro e w4 ⟨rfl, hb4⟩
            obtain ⟨hc4_0, hf4_0, hz4_0⟩ := own_stays hb4 (b := w.heap.size) (by first | (simp; done) | (simp; omega) | omega)
            go_wp2_with fail
            refine (N.out _).mono ?_
            rintro e w5 ⟨rfl, hb5⟩
            obtain ⟨hc5_0, hf5_0, hz5_0⟩ := own_stays hb5 (b := w.heap.size) (by first | (simp; done) | (simp; omega) | omega)
            go_wp2_with fail
            refine (S.out _).mono ?_
            rintro e w6 ⟨rfl, hb6⟩
            obtain ⟨hc6_0, hf6_0, hz6_0⟩ := own_stays hb6 (b := w.heap.size) (by first | (simp; done) | (simp; omega) | omega)
            go_wp2_with fail
            refine (E.out _).mono ?_
            rintro e w7 ⟨rfl, hb7⟩
            obtain ⟨hc7_0, hf7_0, hz7_0⟩ := own_stays hb7 (b := w.heap.size) (by first | (simp; done) | (simp; omega) | omega)
            go_wp2_with fail
            all_goals go_ret
            all_goals exact ⟨ret_b (by first | rfl | (simp; done) | (simp; omega) | omega), (by repeat (with_reducible (first | exact Below.refl _ _ | assumption | refine bl_alloc ?_ _ | refine bl_drewN ?_ _ | refine bl_drew ?_ | refine bl_call ?_ (by assumption) | (refine bl_setCell ?_ _ (Nat.le_refl _)) | (refine bl_setCell ?_ _ (by simp)))))⟩
    · obtain ⟨q1, _⟩ := tell_not t
      rw [show startV c y = 0 from if_neg t] at S
      have S := Lib.hid (fun w => S w hs)
      have E := Lib.hid (fun w => E w hs)
      have t3 : (tellE c y 1601 != 0) = true := by simpa using q1
      clear hz e1 e2 e3 t hc hn h i hday hy NN NV
      generalize hP : endN c z = P at *
      generalize hR : endN c (z - 1) = R at *
      generalize tellE c y 1601 = tt at *
      generalize tellE c y 1600 = uu at *
      generalize endV c y = vv at *
      clear hP hR
      as_aux_lemma =>
        go_enter Try.func13, Try.ntmps13
        go_wp2_with fail
        refine (live14 _).mono ?_
        rintro e w1 ⟨rfl, hb1⟩
        obtain ⟨hc1_0, hf1_0, hz1_0⟩ := own_stays hb1 (b := w.heap.size) (by first | (simp; done) | (simp; omega) | omega)
        go_wp2_with fail
        refine (F.out _).mono ?_
        rintro e w2 ⟨rfl, hb2⟩
        obtain ⟨hc2_0, hf2_0, hz2_0⟩ := own_stays hb2 (b := w.heap.size) (by first | (simp; done) | (simp; omega) | omega)
        go_wp2_with fail
        refine (S1.out _).mono ?_
        rintro e w3 ⟨rfl, hb3⟩
        obtain ⟨hc3_0, hf3_0, hz3_0⟩ := own_stays hb3 (b := w.heap.size) (by first | (simp; done) | (simp; omega) | omega)
        go_wp2_with fail
        refine (E1.out _).mono ?_
        rintro e w4 ⟨rfl, hb4⟩
        obtain ⟨hc4_0, hf4_0, hz4_0⟩ := own_stays hb4 (b := w.heap.size) (by first | (simp; done) | (simp; omega) | omega)
        go_wp2_with fail
        refine (N.out _).mono ?_
        rintro e w5 ⟨rfl, hb5⟩
        obtain ⟨hc5_0, hf5_0, hz5_0⟩ := own_stays hb5 (b := w.heap.size) (by first | (simp; done) | (simp; omega) | omega)
        go_wp2_with fail
        refine (S.out _).mono ?_
        rintro e w6 ⟨rfl, hb6⟩
        obtain ⟨hc6_0, hf6_0, hz6_0⟩ := own_stays hb6 (b := w.heap.size) (by first | (simp; done) | (simp; omega) | omega)
        go_wp2_with fail
        refine (E.out _).mono ?_
        rintro e w7 ⟨rfl, hb7⟩
        obtain ⟨hc7_0, hf7_0, hz7_0⟩ := own_stays hb7 (b := w.heap.size) (by first | (simp; done) | (simp; omega) | omega)
        go_wp2_with fail
        all_goals go_ret
        all_goals exact ⟨ret_b (by first | rfl | (simp; done) | (simp; omega) | omega), (by repeat (with_reducible (first | exact Below.refl _ _ | assumption | refine bl_alloc ?_ _ | refine bl_drewN ?_ _ | refine bl_drew ?_ | refine bl_call ?_ (by assumption) | (refine bl_setCell ?_ _ (Nat.le_refl _)) | (refine bl_setCell ?_ _ (by simp)))))⟩
  · have bad : (foE c day == 0) = false := by
      rcases ho with ⟨_, _, _, e, _⟩ | ⟨_, _, e, _⟩ | ⟨_, e, _⟩ <;> rw [e] <;> rfl
    have no : ∀ z, fyOk c day z = true → calB c = true → False := fun z hz h => by
      rcases ho with ⟨_, _, hno, _⟩ | ⟨_, i, _⟩ | ⟨h', _⟩
      · rw [hno z] at hz; cases hz
      · obtain ⟨a1, a2, a3, a4⟩ := (fyOk_iff _ _ _).1 hz
        have i1 := (isB_iff _).1 (isB_end h (y := z) (by omega) a2)
        have i2 := (isB_iff _).1 (isB_end h (y := z - 1) (by omega) (by omega))
        have := mt (isB_iff day).2 (by simp [i])
        omega
      · rw [h] at h'; cases h'
    have F := Lib.hid (fun w => F w hs)
    clear ho N
    generalize foE c day = fe at *
    generalize foY c day = fy at *
    rcases second with ⟨t, h, t1, t2⟩ | t
    · have S := Lib.hid (fun w => astart_told c y w hs h t1 t2)
      have E := Lib.hid (fun w => aend_told c y w hs h (by omega) t2)
      obtain ⟨b5, b6⟩ := end_bd h (y := y) (by omega) t2
      obtain ⟨b7, b8⟩ := end_bd h (y := y - 1) (by omega) (by omega)
      have out : day < endN c (y - 1) + 1 ∨ (endN c (y - 1) + 1 ≤ day ∧ endN c y < day) := by
        have := mt (fyOk_iff c day y).2 (fun k => no y k h)
        omega
      clear no t hc hn h hday hy
      generalize hP2 : endN c y = P2 at *
      generalize hR2 : endN c (y - 1) = R2 at *
      clear hP2 hR2
      rcases out with o1 | ⟨o1, o2⟩
      all_goals
        as_aux_lemma =>
          go_enter Try.func13, Try.ntmps13
          go_wp2_with fail
          refine (live14 _).mono ?_
          rintro e w1 ⟨rfl, hb1⟩
          obtain ⟨hc1_0, hf1_0, hz1_0⟩ := own_stays hb1 (b := w.heap.size) (by first | (simp; done) | (simp; omega) | omega)
          go_wp2_with fail
          refine (F.out _).mono ?_
          rintro e w2 ⟨rfl, hb2⟩
          obtain ⟨hc2_0, hf2_0, hz2_0⟩ := own_stays hb2 (b := w.heap.size) (by first | (simp; done) | (simp; omega) | omega)
          go_wp2_with fail
          refine (S.out _).mono ?_
          rintro e w3 ⟨rfl, hb3⟩
          obtain ⟨hc3_0, hf3_0, hz3_0⟩ := own_stays hb3 (b := w.heap.size) (by first | (simp; done) | (simp; omega) | omega)
          go_wp2_with fail
          refine (E.out _).mono ?_
          rintro e w4 ⟨rfl, hb4⟩
          obtain ⟨hc4_0, hf4_0, hz4_0⟩ := own_stays hb4 (b := w.heap.size) (by first | (simp; done) | (simp; omega) | omega)
          go_wp2_with fail
          all_goals go_ret
          all_goals exact ⟨ret_b (by first | rfl | (simp; done) | (simp; omega) | omega), (by repeat (with_reducible (first | exact Below.refl _ _ | assumption | refine bl_alloc ?_ _ | refine bl_drewN ?_ _ | refine bl_drew ?_ | refine bl_call ?_ (by assumption) | (refine bl_setCell ?_ _ (Nat.le_refl _)) | (refine bl_setCell ?_ _ (by simp)))))⟩
    · obtain ⟨q1, _⟩ := tell_not t
      rw [show startV c y = 0 from if_neg t] at S
      have S := Lib.hid (fun w => S w hs)
      have E := Lib.hid (fun w => E w hs)
      have t3 : (tellE c y 1601 != 0) = true := by simpa using q1
      clear no t hc hn hday hy
      generalize tellE c y 1601 = tt at *
      generalize tellE c y 1600 = uu at *
      generalize endV c y = vv at *
      as_aux_lemma =>
        go_enter Try.func13, Try.ntmps13
        go_wp2_with fail
        refine (live14 _).mono ?_
        rintro e w1 ⟨rfl, hb1⟩
        obtain ⟨hc1_0, hf1_0, hz1_0⟩ := own_stays hb1 (b := w.heap.size) (by first | (simp; done) | (simp; omega) | omega)
        go_wp2_with fail
        refine (F.out _).mono ?_
        rintro e w2 ⟨rfl, hb2⟩
        obtain ⟨hc2_0, hf2_0, hz2_0⟩ := own_stays hb2 (b := w.heap.size) (by first | (simp; done) | (simp; omega) | omega)
        go_wp2_with fail
        refine (S.out _).mono ?_
        rintro e w3 ⟨rfl, hb3⟩
        obtain ⟨hc3_0, hf3_0, hz3_0⟩ := own_stays hb3 (b := w.heap.size) (by first | (simp; done) | (simp; omega) | omega)
        go_wp2_with fail
        refine (E.out _).mono ?_
        rintro e w4 ⟨rfl, hb4⟩
        obtain ⟨hc4_0, hf4_0, hz4_0⟩ := own_stays hb4 (b := w.heap.size) (by first | (simp; done) | (simp; omega) | omega)
        go_wp2_with fail
        all_goals go_ret
        all_goals exact ⟨ret_b (by first | rfl | (simp; done) | (simp; omega) | omega), (by repeat (with_reducible (first | exact Below.refl _ _ | assumption | refine bl_alloc ?_ _ | refine bl_drewN ?_ _ | refine bl_drew ?_ | refine bl_call ?_ (by assumption) | (refine bl_setCell ?_ _ (Nat.le_refl _)) | (refine bl_setCell ?_ _ (by simp)))))⟩
end Go.Proofs.Yteppoghpfcmhhaa
