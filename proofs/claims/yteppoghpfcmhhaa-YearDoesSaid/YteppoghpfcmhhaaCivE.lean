/- Contracts of the package civil: Day. -/
import Derived.Test.YteppoghpfcmhhaaCivD
namespace Go.Proofs.Yteppoghpfcmhhaa
set_option linter.unusedVariables false
set_option linter.unusedSimpArgs false
open Go.RowKit
set_option maxHeartbeats 1000000 in
theorem day_any (y m d : Int) (w : World) :
    Calls Try.prog 28 #[dateA y m d] w fun e w' => e = .returned (.tuple #[.int .i64 (dayV y m d), .int .i64 (dateE (validB y m d))]) ∧ Below w.heap.size w w' := by
  by_cases hv : validB y m d = true
  · have hv' := (validB_iff y m d).1 hv
    obtain ⟨h1, h2, h3, h4, h5, h6⟩ := hv'
    have T := Lib.hid (show dayV y m d = yearsI y + aheadI y m + d - 1 by unfold dayV; rw [if_pos hv]; rfl)
    have e0 : dateE (validB y m d) = 0 := by rw [hv]; rfl
    have b1 := years_bd y h1 (by omega)
    have b2 := ahead_bd y m h3 (by omega)
    have b3 := lpI_01 y
    have b4 := mlen_bd y m
    clear hv
    go_enter Try.func28, Try.ntmps28
    go_wp2_with (go_at_call 56; refine (check_any _ _ _ _).mono ?_; rintro e w1 ⟨rfl, hb1⟩; obtain ⟨hc1, hf1⟩ := bcell hb1; have hz1 := bsize hb1)
    refine region_qb (fun W => W.cell? ⟨w.heap.size, 0, none⟩ = some (.int .i64 y) ∧ W.cell? ⟨w.heap.size, 1, none⟩ = some (.int .i64 m) ∧ W.cell? ⟨w.heap.size, 2, none⟩ = some (.int .i64 d) ∧ Below w.heap.size w W) ⟨by go_simp, by go_simp, by go_simp, (by repeat (with_reducible (first | exact Below.refl _ _ | assumption | refine bl_alloc ?_ _ | refine bl_drewN ?_ _ | refine bl_drew ?_ | refine bl_call ?_ (by assumption) | (refine bl_setCell ?_ _ (Nat.le_refl _)) | (refine bl_setCell ?_ _ (by simp)))))⟩ (by kernel_rfl) (by kernel_rfl) ?_
    intro W ⟨k0, k1, k2, hbW⟩
    replace k0 := rcell k0
    replace k1 := rcell k1
    replace k2 := rcell k2
    repeat (quiet_step (first | exact Calls.regrown_same (years_any _ _ h1 (by omega)) | exact Calls.regrown_of (ahead_any _ _ _ h3 (by omega))))
    refine wpQuiet_nil ?_
    intro w2 hb2
    go_wp2
    go_ret2
    exact ⟨ret_ii (by rw [T.out]; simp only [IntKind.wrap_i64]; omega) e0.symm, bl_call hbW hb2⟩
  · have e1 : validB y m d = false := by simpa using hv
    have T := Lib.hid (show dayV y m d = 0 by unfold dayV; rw [if_neg hv])
    have e0 : dateE (validB y m d) = 4 := by rw [e1]; rfl
    clear e1 hv
    go_enter Try.func28, Try.ntmps28
    go_wp2_with (go_at_call 56; refine (check_any _ _ _ _).mono ?_; rintro e w1 ⟨rfl, hb1⟩; obtain ⟨hc1, hf1⟩ := bcell hb1; have hz1 := bsize hb1)
    go_ret2
    exact ⟨ret_ii T.out.symm e0.symm, (by repeat (with_reducible (first | exact Below.refl _ _ | assumption | refine bl_alloc ?_ _ | refine bl_drewN ?_ _ | refine bl_drew ?_ | refine bl_call ?_ (by assumption) | (refine bl_setCell ?_ _ (Nat.le_refl _)) | (refine bl_setCell ?_ _ (by simp)))))⟩
end Go.Proofs.Yteppoghpfcmhhaa
