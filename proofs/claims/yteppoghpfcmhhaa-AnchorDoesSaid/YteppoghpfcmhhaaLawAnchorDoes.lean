import Derived.Test.YteppoghpfcmhhaaAncR
import Derived.Test.YteppoghpfcmhhaaAncLive
namespace Go.Proofs.Yteppoghpfcmhhaa
set_option linter.unusedVariables false
set_option linter.unusedSimpArgs false
open Go.RowKit
set_option maxRecDepth 100000 in
set_option maxHeartbeats 8000000 in
theorem anchorDoes_any (c : CalI) (y : Int) (w : World) (hc : CalOk c) (hy : In y) :
    Calls Try.prog 3 #[calA c, .int .i64 y] w fun e w' => e = .returned (.bool true) ∧ Below w.heap.size w w' := by
  have hs := hc.1
  have hs' := hs
  unfold maxLen at hs'
  by_cases hn : 100 < c.name.size
  · have hn' : (100 : Int) < c.name.size := by omega
    go_enter Try.func3, Try.ntmps3
    go_wp2_with fail
    refine (live13 _).mono ?_
    rintro e w1 ⟨rfl, hb1⟩
    obtain ⟨hc1_0, hf1_0, hz1_0⟩ := own_stays hb1 (b := w.heap.size) (by first | (simp; done) | (simp; omega) | omega)
    go_wp2_with fail
    go_ret
    exact ⟨rfl, (by repeat (with_reducible (first | exact Below.refl _ _ | assumption | refine bl_alloc ?_ _ | refine bl_drewN ?_ _ | refine bl_drew ?_ | refine bl_call ?_ (by assumption) | (refine bl_setCell ?_ _ (Nat.le_refl _)) | (refine bl_setCell ?_ _ (by simp)))))⟩
  have hn' : ¬ (100 : Int) < c.name.size := by omega
  have E := Lib.hid (fun w => aend_any c y w hs)
  have E' := Lib.hid (fun w => rend_any c y w hs)
  have S := Lib.hid (fun w => astart_any c y w hs)
  have S' := Lib.hid (fun w => rstart_any c y w hs)
  have D := Lib.hid (fun w => adays_any c y w hs)
  have D' := Lib.hid (fun w => rdays_any c y w hs)
  have W := Lib.hid (fun w => aweeks_any c y w hs)
  have W' := Lib.hid (fun w => rweeks_any c y w hs)
  clear hc hy hn
  generalize endV c y = v1 at *
  generalize tellE c y 1600 = v2 at *
  generalize startV c y = v3 at *
  generalize tellE c y 1601 = v4 at *
  generalize daysV c y = v5 at *
  generalize weeksV c y = v6 at *
  generalize weeksE c y = v7 at *
  go_enter Try.func3, Try.ntmps3
  go_wp2_with fail
  refine (live13 _).mono ?_
  rintro e w1 ⟨rfl, hb1⟩
  obtain ⟨hc1_0, hf1_0, hz1_0⟩ := own_stays hb1 (b := w.heap.size) (by first | (simp; done) | (simp; omega) | omega)
  go_wp2_with fail
  refine (E.out _).mono ?_
  rintro e w2 ⟨rfl, hb2⟩
  obtain ⟨hc2_0, hf2_0, hz2_0⟩ := own_stays hb2 (b := w.heap.size) (by first | (simp; done) | (simp; omega) | omega)
  go_wp2_with fail
  refine (E'.out _).mono ?_
  rintro e w3 ⟨rfl, hb3⟩
  obtain ⟨hc3_0, hf3_0, hz3_0⟩ := own_stays hb3 (b := w.heap.size) (by first | (simp; done) | (simp; omega) | omega)
  go_wp2_with fail
  refine (S.out _).mono ?_
  rintro e w4 ⟨rfl, hb4⟩
  obtain ⟨hc4_0, hf4_0, hz4_0⟩ := own_stays hb4 (b := w.heap.size) (by first | (simp; done) | (simp; omega) | omega)
  go_wp2_with fail
  refine (S'.out _).mono ?_
  rintro e w5 ⟨rfl, hb5⟩
  obtain ⟨hc5_0, hf5_0, hz5_0⟩ := own_stays hb5 (b := w.heap.size) (by first | (simp; done) | (simp; omega) | omega)
  go_wp2_with fail
  refine (D.out _).mono ?_
  rintro e w6 ⟨rfl, hb6⟩
  obtain ⟨hc6_0, hf6_0, hz6_0⟩ := own_stays hb6 (b := w.heap.size) (by first | (simp; done) | (simp; omega) | omega)
  go_wp2_with fail
  refine (D'.out _).mono ?_
  rintro e w7 ⟨rfl, hb7⟩
  obtain ⟨hc7_0, hf7_0, hz7_0⟩ := own_stays hb7 (b := w.heap.size) (by first | (simp; done) | (simp; omega) | omega)
  go_wp2_with fail
  refine (W.out _).mono ?_
  rintro e w8 ⟨rfl, hb8⟩
  obtain ⟨hc8_0, hf8_0, hz8_0⟩ := own_stays hb8 (b := w.heap.size) (by first | (simp; done) | (simp; omega) | omega)
  go_wp2_with fail
  refine (W'.out _).mono ?_
  rintro e w9 ⟨rfl, hb9⟩
  obtain ⟨hc9_0, hf9_0, hz9_0⟩ := own_stays hb9 (b := w.heap.size) (by first | (simp; done) | (simp; omega) | omega)
  go_wp2_with fail
  go_ret
  exact ⟨ret_b (by first | rfl | (simp; done)), (by repeat (with_reducible (first | exact Below.refl _ _ | assumption | refine bl_alloc ?_ _ | refine bl_drewN ?_ _ | refine bl_drew ?_ | refine bl_call ?_ (by assumption) | (refine bl_setCell ?_ _ (Nat.le_refl _)) | (refine bl_setCell ?_ _ (by simp)))))⟩
end Go.Proofs.Yteppoghpfcmhhaa
