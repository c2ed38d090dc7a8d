import Derived.Test.YtmkpkghhalpfaaaWeekE
import Derived.Test.YtmkpkghhalpfaaaRefH
namespace Go.Proofs.Ytmkpkghhalpfaaa
set_option linter.unusedVariables false
set_option linter.unusedSimpArgs false
open Go.RowKit
set_option maxRecDepth 100000 in
set_option maxHeartbeats 4000000 in
theorem weekDoes_any (n y k d z : Int) (w : World) (_ : In n) (_ : In y) (_ : In k) (_ : In d) (_ : In z) :
    Calls Try.prog 10 #[.int .i64 n, isoA y k d, .int .i64 z] w fun e w' => e = .returned (.bool true) ∧ Below w.heap.size w w' := by
  go_enter Try.func10, Try.ntmps10
  go_wp2_with fail
  refine (live6 _).mono ?_
  rintro e w1 ⟨rfl, hb1⟩
  obtain ⟨hc1_0, hf1_0, hz1_0⟩ := own_stays hb1 (b := w.heap.size) (by first | (simp; done) | (simp; omega) | omega)
  go_wp2_with fail
  refine (iso_any _ _).mono ?_
  rintro e w2 ⟨rfl, hb2⟩
  obtain ⟨hc2_0, hf2_0, hz2_0⟩ := own_stays hb2 (b := w.heap.size) (by first | (simp; done) | (simp; omega) | omega)
  go_wp2_with fail
  refine (riso_any _ _).mono ?_
  rintro e w3 ⟨rfl, hb3⟩
  obtain ⟨hc3_0, hf3_0, hz3_0⟩ := own_stays hb3 (b := w.heap.size) (by first | (simp; done) | (simp; omega) | omega)
  obtain ⟨hc3_1, hf3_1, hz3_1⟩ := own_stays hb3 (b := w2.heap.size) (by first | (simp; done) | (simp; omega) | omega)
  go_wp2_with fail
  refine (wday_any _ _ _ _).mono ?_
  rintro e w4 ⟨rfl, hb4⟩
  obtain ⟨hc4_0, hf4_0, hz4_0⟩ := own_stays hb4 (b := w.heap.size) (by first | (simp; done) | (simp; omega) | omega)
  obtain ⟨hc4_1, hf4_1, hz4_1⟩ := own_stays hb4 (b := w2.heap.size) (by first | (simp; done) | (simp; omega) | omega)
  obtain ⟨hc4_2, hf4_2, hz4_2⟩ := own_stays hb4 (b := w3.heap.size) (by first | (simp; done) | (simp; omega) | omega)
  go_wp2_with fail
  refine (rwday_any _ _ _ _).mono ?_
  rintro e w5 ⟨rfl, hb5⟩
  obtain ⟨hc5_0, hf5_0, hz5_0⟩ := own_stays hb5 (b := w.heap.size) (by first | (simp; done) | (simp; omega) | omega)
  obtain ⟨hc5_1, hf5_1, hz5_1⟩ := own_stays hb5 (b := w2.heap.size) (by first | (simp; done) | (simp; omega) | omega)
  obtain ⟨hc5_2, hf5_2, hz5_2⟩ := own_stays hb5 (b := w3.heap.size) (by first | (simp; done) | (simp; omega) | omega)
  go_wp2_with fail
  refine (many_any _ _).mono ?_
  rintro e w6 ⟨rfl, hb6⟩
  obtain ⟨hc6_0, hf6_0, hz6_0⟩ := own_stays hb6 (b := w.heap.size) (by first | (simp; done) | (simp; omega) | omega)
  obtain ⟨hc6_1, hf6_1, hz6_1⟩ := own_stays hb6 (b := w2.heap.size) (by first | (simp; done) | (simp; omega) | omega)
  obtain ⟨hc6_2, hf6_2, hz6_2⟩ := own_stays hb6 (b := w3.heap.size) (by first | (simp; done) | (simp; omega) | omega)
  go_wp2_with fail
  refine (rmany_any _ _).mono ?_
  rintro e w7 ⟨rfl, hb7⟩
  obtain ⟨hc7_0, hf7_0, hz7_0⟩ := own_stays hb7 (b := w.heap.size) (by first | (simp; done) | (simp; omega) | omega)
  obtain ⟨hc7_1, hf7_1, hz7_1⟩ := own_stays hb7 (b := w2.heap.size) (by first | (simp; done) | (simp; omega) | omega)
  obtain ⟨hc7_2, hf7_2, hz7_2⟩ := own_stays hb7 (b := w3.heap.size) (by first | (simp; done) | (simp; omega) | omega)
  go_wp2_with fail
  go_ret
  exact ⟨ret_b (by first | rfl | (simp; done)), (by repeat (with_reducible (first | exact Below.refl _ _ | assumption | refine bl_alloc ?_ _ | refine bl_drewN ?_ _ | refine bl_drew ?_ | refine bl_call ?_ (by assumption) | (refine bl_setCell ?_ _ (Nat.le_refl _)) | (refine bl_setCell ?_ _ (by simp)))))⟩
end Go.Proofs.Ytmkpkghhalpfaaa
