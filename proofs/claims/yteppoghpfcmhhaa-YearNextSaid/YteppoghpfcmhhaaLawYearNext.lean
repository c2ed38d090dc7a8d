import Derived.Test.YteppoghpfcmhhaaYearLive
import Derived.Test.YteppoghpfcmhhaaMathL
namespace Go.Proofs.Yteppoghpfcmhhaa
set_option linter.unusedVariables false
set_option linter.unusedSimpArgs false
open Go.RowKit
set_option maxRecDepth 100000 in
set_option maxHeartbeats 8000000 in
theorem yearNext_any (c : CalI) (day : Int) (w : World) (hc : CalOk c) (hday : In day) :
    Calls Try.prog 14 #[calA c, .int .i64 day] w fun e w' => e = .returned (.bool true) ∧ Below w.heap.size w w' := by
  have hs := hc.1
  have hs' := hs
  unfold maxLen at hs'
  by_cases hn : 100 < c.name.size
  · have hn' : (100 : Int) < c.name.size := by omega
    go_enter Try.func14, Try.ntmps14
    go_wp2_with fail
    refine (live14 _).mono ?_
    rintro e w1 ⟨rfl, hb1⟩
    obtain ⟨hc1_0, hf1_0, hz1_0⟩ := own_stays hb1 (b := w.heap.size) (by first | (simp; done) | (simp; omega) | omega)
    go_wp2_with fail
    go_ret
    exact ⟨rfl, (by repeat (with_reducible (first | exact Below.refl _ _ | assumption | refine bl_alloc ?_ _ | refine bl_drewN ?_ _ | refine bl_drew ?_ | refine bl_call ?_ (by assumption) | (refine bl_setCell ?_ _ (Nat.le_refl _)) | (refine bl_setCell ?_ _ (by simp)))))⟩
  have hn' : ¬ (100 : Int) < c.name.size := by omega
  by_cases top : day = 9223372036854775807
  · have tp : (day == 9223372036854775807) = true := by simpa using top
    clear top hc hn
    as_aux_lemma =>
      go_enter Try.func14, Try.ntmps14
      go_wp2_with fail
      refine (live14 _).mono ?_
      rintro e w1 ⟨rfl, hb1⟩
      obtain ⟨hc1_0, hf1_0, hz1_0⟩ := own_stays hb1 (b := w.heap.size) (by first | (simp; done) | (simp; omega) | omega)
      go_wp2_with fail
      all_goals go_ret
      all_goals exact ⟨ret_b (by first | rfl | (simp; done) | (simp; omega) | omega), (by repeat (with_reducible (first | exact Below.refl _ _ | assumption | refine bl_alloc ?_ _ | refine bl_drewN ?_ _ | refine bl_drew ?_ | refine bl_call ?_ (by assumption) | (refine bl_setCell ?_ _ (Nat.le_refl _)) | (refine bl_setCell ?_ _ (by simp)))))⟩
  have tp : (day == 9223372036854775807) = false := by simpa using top
  have hd2 : day ≤ 9223372036854775806 := by have := hday.2; omega
  have hd1 : -9223372036854775808 ≤ day := hday.1
  have F := yof_any c day
  have G := yof_any c (day + 1)
  have N := ynth_any c day
  have M := ynth_any c (day + 1)
  rcases fo_ways c day with ⟨h, i, z, hz, e1, e2, e3⟩ | ho
  · obtain ⟨z1, z2, z3, z4⟩ := (fyOk_iff _ _ _).1 hz
    rw [e1, e2] at F
    rw [e1, e3] at N
    have F := Lib.hid (fun w => F w hs)
    have N := Lib.hid (fun w => N w hs)
    have D := adays_any c z
    rw [show daysV c z = _ from if_pos (tell_yes h z1 z2), tell_yes h z1 z2] at D
    have D := Lib.hid (fun w => D w hs)
    obtain ⟨b1, b2⟩ := end_bd h (y := z) (by omega) z2
    obtain ⟨b3, b4⟩ := end_bd h (y := z - 1) (by omega) (by omega)
    by_cases last : day < endN c z
    · have k : fyOk c (day + 1) z = true := (fyOk_iff _ _ _).2 ⟨z1, z2, by omega, by omega⟩
      have i2 : isB (day + 1) = true := (isB_iff _).2 (by have := (isB_iff _).1 i; omega)
      obtain ⟨f1, f2, f3⟩ := fo_yes h i2 k
      rw [f1, f2] at G
      rw [f1, f3] at M
      have G := Lib.hid (fun w => G w hs)
      have M := Lib.hid (fun w => M w hs)
      have e9 : day + 1 - endN c (z - 1) = day - endN c (z - 1) + 1 := by omega
      have M' := M.out
      rw [e9] at M'
      have M := Lib.hid M'
      clear k i2 f1 f2 f3 e1 e2 e3 e9 M' hz i h hc hn top hday
      generalize hP : endN c z = P at *
      generalize hR : endN c (z - 1) = R at *
      clear hP hR
      have nl : day - R < P - R := by omega
      have n0 : 0 < day - R := by omega
      have n1 : day - R ≤ 3068037 := by omega
      generalize day - R = nn at *
      generalize P - R = mm at *
      clear z3 z4 last b1 b2 b3 b4
      as_aux_lemma =>
        go_enter Try.func14, Try.ntmps14
        go_wp2_with fail
        refine (live14 _).mono ?_
        rintro e w1 ⟨rfl, hb1⟩
        obtain ⟨hc1_0, hf1_0, hz1_0⟩ := own_stays hb1 (b := w.heap.size) (by first | (simp; done) | (simp; omega) | omega)
        go_wp2_with fail
        refine (F.out _).mono ?_
        rintro e w2 ⟨rfl, hb2⟩
        obtain ⟨hc2_0, hf2_0, hz2_0⟩ := own_stays hb2 (b := w.heap.size) (by first | (simp; done) | (simp; omega) | omega)
        go_wp2_with fail
        refine (G.out _).mono ?_
        rintro e w3 ⟨rfl, hb3⟩
        obtain ⟨hc3_0, hf3_0, hz3_0⟩ := own_stays hb3 (b := w.heap.size) (by first | (simp; done) | (simp; omega) | omega)
        go_wp2_with fail
        refine (N.out _).mono ?_
        rintro e w4 ⟨rfl, hb4⟩
        obtain ⟨hc4_0, hf4_0, hz4_0⟩ := own_stays hb4 (b := w.heap.size) (by first | (simp; done) | (simp; omega) | omega)
        go_wp2_with fail
        refine (D.out _).mono ?_
        rintro e w5 ⟨rfl, hb5⟩
        obtain ⟨hc5_0, hf5_0, hz5_0⟩ := own_stays hb5 (b := w.heap.size) (by first | (simp; done) | (simp; omega) | omega)
        go_wp2_with fail
        refine (M.out _).mono ?_
        rintro e w6 ⟨rfl, hb6⟩
        obtain ⟨hc6_0, hf6_0, hz6_0⟩ := own_stays hb6 (b := w.heap.size) (by first | (simp; done) | (simp; omega) | omega)
        go_wp2_with fail
        all_goals go_ret
        all_goals exact ⟨ret_b (by first | rfl | (simp; done) | (simp; omega) | omega), (by repeat (with_reducible (first | exact Below.refl _ _ | assumption | refine bl_alloc ?_ _ | refine bl_drewN ?_ _ | refine bl_drew ?_ | refine bl_call ?_ (by assumption) | (refine bl_setCell ?_ _ (Nat.le_refl _)) | (refine bl_setCell ?_ _ (by simp)))))⟩
    · obtain rfl : day = endN c z := by omega
      rcases behind h (y := z) (by omega) z2 with ⟨x0, x1, x2, x3⟩ | ⟨x0, x1, x2, x3⟩
      · rw [x1, x2] at G
        rw [x1, x3] at M
        have G := Lib.hid (fun w => G w hs)
        have M := Lib.hid (fun w => M w hs)
        clear x1 x2 x3 e1 e2 e3 hz i h hc hn top hday
        generalize hP : endN c z = P at *
        generalize hR : endN c (z - 1) = R at *
        clear hP hR
        have n0 : 0 < P - R := by omega
        have n1 : P - R ≤ 3068037 := by omega
        generalize P - R = mm at *
        clear z3 z4 last b3 b4
        as_aux_lemma =>
          go_enter Try.func14, Try.ntmps14
          go_wp2_with fail
          refine (live14 _).mono ?_
          rintro e w1 ⟨rfl, hb1⟩
          obtain ⟨hc1_0, hf1_0, hz1_0⟩ := own_stays hb1 (b := w.heap.size) (by first | (simp; done) | (simp; omega) | omega)
          go_wp2_with fail
          refine (F.out _).mono ?_
          rintro e w2 ⟨rfl, hb2⟩
          obtain ⟨hc2_0, hf2_0, hz2_0⟩ := own_stays hb2 (b := w.heap.size) (by first | (simp; done) | (simp; omega) | omega)
          go_wp2_with fail
          refine (G.out _).mono ?_
          rintro e w3 ⟨rfl, hb3⟩
          obtain ⟨hc3_0, hf3_0, hz3_0⟩ := own_stays hb3 (b := w.heap.size) (by first | (simp; done) | (simp; omega) | omega)
          go_wp2_with fail
          refine (N.out _).mono ?_
          rintro e w4 ⟨rfl, hb4⟩
          obtain ⟨hc4_0, hf4_0, hz4_0⟩ := own_stays hb4 (b := w.heap.size) (by first | (simp; done) | (simp; omega) | omega)
          go_wp2_with fail
          refine (D.out _).mono ?_
          rintro e w5 ⟨rfl, hb5⟩
          obtain ⟨hc5_0, hf5_0, hz5_0⟩ := own_stays hb5 (b := w.heap.size) (by first | (simp; done) | (simp; omega) | omega)
          go_wp2_with fail
          refine (M.out _).mono ?_
          rintro e w6 ⟨rfl, hb6⟩
          obtain ⟨hc6_0, hf6_0, hz6_0⟩ := own_stays hb6 (b := w.heap.size) (by first | (simp; done) | (simp; omega) | omega)
          go_wp2_with fail
          all_goals go_ret
          all_goals exact ⟨ret_b (by first | rfl | (simp; done) | (simp; omega) | omega), (by repeat (with_reducible (first | exact Below.refl _ _ | assumption | refine bl_alloc ?_ _ | refine bl_drewN ?_ _ | refine bl_drew ?_ | refine bl_call ?_ (by assumption) | (refine bl_setCell ?_ _ (Nat.le_refl _)) | (refine bl_setCell ?_ _ (by simp)))))⟩
      · subst x0
        rcases x1 with x1 | x1
        all_goals
          rw [x1, x2] at G
          have G := Lib.hid (fun w => G w hs)
          clear x1 x2 x3 e1 e2 e3 hz i h hc hn top hday M
          generalize hP : endN c 9997 = P at *
          generalize hR : endN c (9997 - 1) = R at *
          clear hP hR
          have n0 : 0 < P - R := by omega
          have n1 : P - R ≤ 3068037 := by omega
          generalize P - R = mm at *
          clear z3 z4 last b3 b4
          as_aux_lemma =>
            go_enter Try.func14, Try.ntmps14
            go_wp2_with fail
            refine (live14 _).mono ?_
            rintro e w1 ⟨rfl, hb1⟩
            obtain ⟨hc1_0, hf1_0, hz1_0⟩ := own_stays hb1 (b := w.heap.size) (by first | (simp; done) | (simp; omega) | omega)
            go_wp2_with fail
            refine (F.out _).mono ?_
            rintro e w2 ⟨rfl, hb2⟩
            obtain ⟨hc2_0, hf2_0, hz2_0⟩ := own_stays hb2 (b := w.heap.size) (by first | (simp; done) | (simp; omega) | omega)
            go_wp2_with fail
            refine (G.out _).mono ?_
            rintro e w3 ⟨rfl, hb3⟩
            obtain ⟨hc3_0, hf3_0, hz3_0⟩ := own_stays hb3 (b := w.heap.size) (by first | (simp; done) | (simp; omega) | omega)
            go_wp2_with fail
            refine (N.out _).mono ?_
            rintro e w4 ⟨rfl, hb4⟩
            obtain ⟨hc4_0, hf4_0, hz4_0⟩ := own_stays hb4 (b := w.heap.size) (by first | (simp; done) | (simp; omega) | omega)
            go_wp2_with fail
            refine (D.out _).mono ?_
            rintro e w5 ⟨rfl, hb5⟩
            obtain ⟨hc5_0, hf5_0, hz5_0⟩ := own_stays hb5 (b := w.heap.size) (by first | (simp; done) | (simp; omega) | omega)
            go_wp2_with fail
            all_goals go_ret
            all_goals exact ⟨ret_b (by first | rfl | (simp; done) | (simp; omega) | omega), (by repeat (with_reducible (first | exact Below.refl _ _ | assumption | refine bl_alloc ?_ _ | refine bl_drewN ?_ _ | refine bl_drew ?_ | refine bl_call ?_ (by assumption) | (refine bl_setCell ?_ _ (Nat.le_refl _)) | (refine bl_setCell ?_ _ (by simp)))))⟩
  · have bad : (foE c day == 0) = false ∧ foY c day = 0 := by
      rcases ho with ⟨_, _, _, e, e', _⟩ | ⟨_, _, e, e', _⟩ | ⟨_, e, e', _⟩ <;> (rw [e]; exact ⟨rfl, e'⟩)
    obtain ⟨bad, by0⟩ := bad
    have bad' : (foE c day != 0) = true := by simpa using bad
    rw [by0] at F
    have F := Lib.hid (fun w => F w hs)
    have G := Lib.hid (fun w => G w hs)
    clear ho N M by0 hc hn top hday
    generalize foE c day = fe at *
    generalize foE c (day + 1) = ge at *
    generalize foY c (day + 1) = gy at *
    as_aux_lemma =>
      go_enter Try.func14, Try.ntmps14
      go_wp2_with fail
      refine (live14 _).mono ?_
      rintro e w1 ⟨rfl, hb1⟩
      obtain ⟨hc1_0, hf1_0, hz1_0⟩ := own_stays hb1 (b := w.heap.size) (by first | (simp; done) | (simp; omega) | omega)
      go_wp2_with fail
      refine (F.out _).mono ?_
      rintro e w2 ⟨rfl, hb2⟩
      obtain ⟨hc2_0, hf2_0, hz2_0⟩ := own_stays hb2 (b := w.heap.size) (by first | (simp; done) | (simp; omega) | omega)
      go_wp2_with fail
      refine (G.out _).mono ?_
      rintro e w3 ⟨rfl, hb3⟩
      obtain ⟨hc3_0, hf3_0, hz3_0⟩ := own_stays hb3 (b := w.heap.size) (by first | (simp; done) | (simp; omega) | omega)
      go_wp2_with fail
      all_goals go_ret
      all_goals exact ⟨ret_b (by first | rfl | (simp; done) | (simp; omega) | omega), (by repeat (with_reducible (first | exact Below.refl _ _ | assumption | refine bl_alloc ?_ _ | refine bl_drewN ?_ _ | refine bl_drew ?_ | refine bl_call ?_ (by assumption) | (refine bl_setCell ?_ _ (Nat.le_refl _)) | (refine bl_setCell ?_ _ (by simp)))))⟩
end Go.Proofs.Yteppoghpfcmhhaa
