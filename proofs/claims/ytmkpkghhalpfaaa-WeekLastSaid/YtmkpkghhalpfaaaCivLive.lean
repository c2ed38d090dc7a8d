import Derived.Test.YtmkpkghhalpfaaaCivF
namespace Go.Proofs.Ytmkpkghhalpfaaa
open Go.RowKit
set_option linter.unusedVariables false
set_option maxHeartbeats 400000 in
theorem live5 (w : World) : Calls Try.prog 17 #[] w fun e w' => e = .returned (.bool true) ∧ Below w.heap.size w w' := by
  have e : dayV 2000 2 29 = 146156 ∧ dateE (validB 2000 2 29) = 0 ∧ wdI 146156 = 2 ∧ dateE (isB 146156) = 0 := by decide +kernel
  obtain ⟨e1, e2, e3, e4⟩ := e
  go_enter Try.func17, Try.ntmps17
  go_wp2_with (first | (go_at_call 24; refine (day_any _ _ _ _).mono ?_; rintro e w1 ⟨rfl, hb1⟩) | (go_at_call 25; refine (weekday_any _ _).mono ?_; rintro e w' ⟨rfl, rfl⟩))
  go_ret
  exact ⟨rfl, (by repeat (first | exact Below.refl _ _ | assumption | refine bl_alloc ?_ _ | refine bl_drewN ?_ _ | refine bl_drew ?_ | refine bl_call ?_ (by assumption) | (refine bl_setCell ?_ _ (Nat.le_refl _)) | (refine bl_setCell ?_ _ (by simp))))⟩
end Go.Proofs.Ytmkpkghhalpfaaa
