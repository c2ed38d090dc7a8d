/- More contracts of the package civil. -/
import Derived.Test.YteppoghpfcmhhaaCivB
namespace Go.Proofs.Yteppoghpfcmhhaa
set_option linter.unusedVariables false
set_option linter.unusedSimpArgs false
open Go.RowKit
theorem len_facts (y m : Int) : (thereB y m = false ∧ lenV y m = 0) ∨ (thereB y m = true ∧ 1 ≤ m ∧ m ≤ 12 ∧ lenV y m = mlen y m ∧ aheadI y (m + 1) - aheadI y m = mlen y m ∧ 0 ≤ aheadI y m ∧ aheadI y m ≤ 366 ∧ 0 ≤ aheadI y (m + 1) ∧ aheadI y (m + 1) ≤ 366) := by
  by_cases h : thereB y m = true
  · refine .inr ?_
    have h' := h
    unfold thereB at h'
    simp only [decide_eq_true_eq] at h'
    have := ahead_succ y m h'.2.2.1 h'.2.2.2
    have b1 := ahead_bd y m h'.2.2.1 (by omega)
    have b2 := ahead_bd y (m + 1) (by omega) (by omega)
    have b3 := lpI_01 y
    exact ⟨h, h'.2.2.1, h'.2.2.2, by unfold lenV; rw [if_pos h], by omega, by omega, by omega, by omega, by omega⟩
  · exact .inl ⟨by simpa using h, by unfold lenV; rw [if_neg h]⟩
set_option maxHeartbeats 400000 in
theorem length_any (y m : Int) (w : World) :
    Calls Try.prog 27 #[.int .i64 y, .int .i64 m] w fun e w' => e = .returned (.tuple #[.int .i64 (lenV y m), .int .i64 (dateE (thereB y m))]) ∧ Below w.heap.size w w' := by
  rcases len_facts y m with ⟨h1, h2⟩ | ⟨h1, h2, h3, h4, h5, h6, h7, h8, h9⟩
  · go_enter Try.func27, Try.ntmps27
    go_wp2_with (go_at_call 55; refine (there_any _ _ _).mono ?_; rintro e w' ⟨rfl, rfl⟩)
    go_ret2
    exact ⟨ret_ii h2.symm (by rw [h1]; rfl), (by repeat (with_reducible (first | exact Below.refl _ _ | assumption | refine bl_alloc ?_ _ | refine bl_drewN ?_ _ | refine bl_drew ?_ | refine bl_call ?_ (by assumption) | (refine bl_setCell ?_ _ (Nat.le_refl _)) | (refine bl_setCell ?_ _ (by simp)))))⟩
  · have H5 := Lib.hid h5
    have H4 := Lib.hid h4
    clear h5 h4
    go_enter Try.func27, Try.ntmps27
    go_wp2_with (first | (go_at_call 55; refine (there_any _ _ _).mono ?_; rintro e w' ⟨rfl, rfl⟩) | (go_at_call 54; refine (ahead_any _ _ _ (by omega) (by omega)).mono ?_; rintro e w' ⟨rfl, hb1⟩))
    go_ret2
    exact ⟨ret_ii (by rw [H4.out, H5.out]) (by rw [h1]; rfl), (by repeat (with_reducible (first | exact Below.refl _ _ | assumption | refine bl_alloc ?_ _ | refine bl_drewN ?_ _ | refine bl_drew ?_ | refine bl_call ?_ (by assumption) | (refine bl_setCell ?_ _ (Nat.le_refl _)) | (refine bl_setCell ?_ _ (by simp)))))⟩
end Go.Proofs.Yteppoghpfcmhhaa
