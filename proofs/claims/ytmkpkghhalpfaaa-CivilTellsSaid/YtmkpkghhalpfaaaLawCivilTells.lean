import Derived.Test.YtmkpkghhalpfaaaRefC
namespace Go.Proofs.Ytmkpkghhalpfaaa
open Go.RowKit
set_option linter.unusedVariables false
set_option maxRecDepth 100000 in
set_option maxHeartbeats 4000000 in
theorem civilTells_any (z k y m d : Int) (w : World) (_ : In z) (_ : In k) (_ : In y) (_ : In m) (_ : In d) :
    Calls Try.prog 3 #[.int .i64 z, .int .i64 k, dateA y m d] w fun e w' => e = .returned (.bool true) ∧ Below w.heap.size w w' := by
  go_enter Try.func3, Try.ntmps3
  go_wp2_with (go_at_call 19; refine (rlength_any _ _ _).mono ?_; rintro e w' ⟨rfl, rfl⟩)
  refine (live5 _).mono ?_
  rintro e w1 ⟨rfl, hb1⟩
  obtain ⟨hc1_0, hf1_0, hz1_0⟩ := own_stays hb1 (b := w.heap.size) (by first | (simp; done) | (simp; omega) | omega)
  go_wp2_with (go_at_call 19; refine (rlength_any _ _ _).mono ?_; rintro e w' ⟨rfl, rfl⟩)
  refine (length_any _ _ _).mono ?_
  rintro e w2 ⟨rfl, hb2⟩
  obtain ⟨hc2_0, hf2_0, hz2_0⟩ := own_stays hb2 (b := w.heap.size) (by first | (simp; done) | (simp; omega) | omega)
  go_wp2_with (go_at_call 19; refine (rlength_any _ _ _).mono ?_; rintro e w' ⟨rfl, rfl⟩)
  refine region_qb (fun W => W.cell? ⟨w.heap.size, 0, none⟩ = some (.int .i64 y) ∧ W.cell? ⟨w.heap.size, 1, none⟩ = some (.int .i64 m) ∧ W.cell? ⟨w.heap.size, 2, none⟩ = some (.int .i64 d) ∧ Below w.heap.size w W) ⟨by go_simp, by go_simp, by go_simp, (by repeat (with_reducible (first | exact Below.refl _ _ | assumption | refine bl_alloc ?_ _ | refine bl_drewN ?_ _ | refine bl_drew ?_ | refine bl_call ?_ (by assumption) | (refine bl_setCell ?_ _ (Nat.le_refl _)) | (refine bl_setCell ?_ _ (by simp)))))⟩ (by kernel_rfl) (by kernel_rfl) ?_
  intro W ⟨k0, k1, k2, hbW⟩
  replace k0 := rcell k0
  replace k1 := rcell k1
  replace k2 := rcell k2
  repeat (quiet_step (first | exact Calls.regrown_same (leap_any _ _) | exact Calls.regrown_same (rleap_any _ _) | exact Calls.regrown_of (check_any _ _ _ _) | exact Calls.regrown_of (rcheck_any _ _ _ _)))
  refine wpQuiet_nil ?_
  intro w3 hb3
  go_wp2
  go_ret
  exact ⟨ret_b (by first | rfl | (simp; done)), bl_call hbW hb3⟩
end Go.Proofs.Ytmkpkghhalpfaaa
