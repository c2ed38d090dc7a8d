import Derived.Test.YteppoghpfcmhhaaAncLive
namespace Go.Proofs.Yteppoghpfcmhhaa
set_option linter.unusedVariables false
set_option linter.unusedSimpArgs false
open Go.RowKit
set_option maxRecDepth 100000 in
set_option maxHeartbeats 4000000 in
theorem anchorNext_any (c : CalI) (y : Int) (w : World) (hc : CalOk c) (hy : In y) :
    Calls Try.prog 4 #[calA c, .int .i64 y] w fun e w' => e = .returned (.bool true) ∧ Below w.heap.size w w' := by
  have hs := hc.1
  have hs' := hs
  unfold maxLen at hs'
  by_cases hn : 100 < c.name.size
  · have hn' : (100 : Int) < c.name.size := by omega
    go_enter Try.func4, Try.ntmps4
    go_wp2_with fail
    refine (live13 _).mono ?_
    rintro e w1 ⟨rfl, hb1⟩
    obtain ⟨hc1_0, hf1_0, hz1_0⟩ := own_stays hb1 (b := w.heap.size) (by first | (simp; done) | (simp; omega) | omega)
    go_wp2_with fail
    go_ret
    exact ⟨rfl, (by repeat (with_reducible (first | exact Below.refl _ _ | assumption | refine bl_alloc ?_ _ | refine bl_drewN ?_ _ | refine bl_drew ?_ | refine bl_call ?_ (by assumption) | (refine bl_setCell ?_ _ (Nat.le_refl _)) | (refine bl_setCell ?_ _ (by simp)))))⟩
  have hn' : ¬ (100 : Int) < c.name.size := by omega
  have C := fcheck_any c
  have S := astart_any c y
  rcases tell_ways c y 1601 with ⟨h, h1, h2, h3⟩ | ⟨h, h1, h3⟩ | ⟨h, h1, h2, h3⟩ | ⟨h, h3⟩
  · have S := Lib.hid (fun w => astart_told c y w hs h h1 h2)
    have E1 := Lib.hid (fun w => aend_told c (y - 1) w hs h (by omega) (by omega))
    have E2 := Lib.hid (fun w => aend_told c y w hs h (by omega) h2)
    have D := fun w => adays_any c y w hs
    rw [show daysV c y = _ from if_pos h3, h3] at D
    have D := Lib.hid D
    obtain ⟨b1, b2⟩ := end_bd h (y := y) (by omega) h2
    obtain ⟨b3, b4⟩ := end_bd h (y := y - 1) (by omega) (by omega)
    have b5 := (days_bd h h1 h2).1
    clear C h h3 hc hy hn
    generalize endN c y = P at *
    generalize endN c (y - 1) = R at *
    have b6 : 0 < P - R := by omega
    clear b5
    go_enter Try.func4, Try.ntmps4
    go_wp2_with fail
    refine (live13 _).mono ?_
    rintro e w1 ⟨rfl, hb1⟩
    obtain ⟨hc1_0, hf1_0, hz1_0⟩ := own_stays hb1 (b := w.heap.size) (by first | (simp; done) | (simp; omega) | omega)
    go_wp2_with fail
    refine (S.out _).mono ?_
    rintro e w2 ⟨rfl, hb2⟩
    obtain ⟨hc2_0, hf2_0, hz2_0⟩ := own_stays hb2 (b := w.heap.size) (by first | (simp; done) | (simp; omega) | omega)
    go_wp2_with fail
    refine (E1.out _).mono ?_
    rintro e w3 ⟨rfl, hb3⟩
    obtain ⟨hc3_0, hf3_0, hz3_0⟩ := own_stays hb3 (b := w.heap.size) (by first | (simp; done) | (simp; omega) | omega)
    go_wp2_with fail
    refine (E2.out _).mono ?_
    rintro e w4 ⟨rfl, hb4⟩
    obtain ⟨hc4_0, hf4_0, hz4_0⟩ := own_stays hb4 (b := w.heap.size) (by first | (simp; done) | (simp; omega) | omega)
    go_wp2_with fail
    refine (D.out _).mono ?_
    rintro e w5 ⟨rfl, hb5⟩
    obtain ⟨hc5_0, hf5_0, hz5_0⟩ := own_stays hb5 (b := w.heap.size) (by first | (simp; done) | (simp; omega) | omega)
    go_wp2_with fail
    go_ret
    exact ⟨ret_b (by first | rfl | (simp; done)), (by repeat (with_reducible (first | exact Below.refl _ _ | assumption | refine bl_alloc ?_ _ | refine bl_drewN ?_ _ | refine bl_drew ?_ | refine bl_call ?_ (by assumption) | (refine bl_setCell ?_ _ (Nat.le_refl _)) | (refine bl_setCell ?_ _ (by simp)))))⟩
  all_goals
    rw [show startV c y = 0 from if_neg (by omega), h3] at S
    rw [h] at C
    have S := Lib.hid (fun w => S w hs)
    have C := Lib.hid (fun w => C w hs)
    clear h h3 hc hy hn
    go_enter Try.func4, Try.ntmps4
    go_wp2_with fail
    refine (live13 _).mono ?_
    rintro e w1 ⟨rfl, hb1⟩
    obtain ⟨hc1_0, hf1_0, hz1_0⟩ := own_stays hb1 (b := w.heap.size) (by first | (simp; done) | (simp; omega) | omega)
    go_wp2_with fail
    refine (S.out _).mono ?_
    rintro e w2 ⟨rfl, hb2⟩
    obtain ⟨hc2_0, hf2_0, hz2_0⟩ := own_stays hb2 (b := w.heap.size) (by first | (simp; done) | (simp; omega) | omega)
    go_wp2_with fail
    refine (C.out _).mono ?_
    rintro e w3 ⟨rfl, hb3⟩
    obtain ⟨hc3_0, hf3_0, hz3_0⟩ := own_stays hb3 (b := w.heap.size) (by first | (simp; done) | (simp; omega) | omega)
    go_wp2_with fail
    go_ret
    exact ⟨ret_b (by first | rfl | (simp; done)), (by repeat (with_reducible (first | exact Below.refl _ _ | assumption | refine bl_alloc ?_ _ | refine bl_drewN ?_ _ | refine bl_drew ?_ | refine bl_call ?_ (by assumption) | (refine bl_setCell ?_ _ (Nat.le_refl _)) | (refine bl_setCell ?_ _ (by simp)))))⟩
end Go.Proofs.Yteppoghpfcmhhaa
