/- Where an ISO day lies: plain. -/
import Derived.Test.YteppoghpfcmhhaaWeekC
namespace Go.Proofs.Yteppoghpfcmhhaa
set_option linter.unusedVariables false
set_option linter.unusedSimpArgs false
open Go.RowKit
/-- where an ISO day would be -/
def wkB (y : Int) : Int := if y < 1600 then firstI 1600 - 364 else firstI y
def wkC (y k d : Int) : Int := wkB y + 7 * (k - 1) + d - 1
noncomputable def wkOk (y k d : Int) : Bool := decide (y ≤ 9999 ∧ 1 ≤ k ∧ k ≤ 53 ∧ 1 ≤ d ∧ d ≤ 7) && (isB (wkC y k d) && (decide (isoY (wkC y k d) = y) && (decide (isoW (wkC y k d) = k) && decide (isoD (wkC y k d) = d))))
noncomputable def wkV (y k d : Int) : Int := if wkOk y k d = true then wkC y k d else 0
theorem wk_facts (y k d : Int) : (y ≤ 9999 ∧ 1 ≤ k ∧ k ≤ 53 ∧ 1 ≤ d ∧ d ≤ 7 ∧ isB (wkC y k d) = true ∧ isoY (wkC y k d) = y ∧ isoW (wkC y k d) = k ∧ isoD (wkC y k d) = d ∧ wkOk y k d = true) ∨
    (wkOk y k d = false ∧ (9999 < y ∨ (y ≤ 9999 ∧ k < 1) ∨ (y ≤ 9999 ∧ 1 ≤ k ∧ 53 < k) ∨ (y ≤ 9999 ∧ 1 ≤ k ∧ k ≤ 53 ∧ d < 1) ∨ (y ≤ 9999 ∧ 1 ≤ k ∧ k ≤ 53 ∧ 1 ≤ d ∧ 7 < d))) ∨
    (wkOk y k d = false ∧ y ≤ 9999 ∧ 1 ≤ k ∧ k ≤ 53 ∧ 1 ≤ d ∧ d ≤ 7 ∧ (isB (wkC y k d) = false ∨ (isB (wkC y k d) = true ∧ ((isoY (wkC y k d) == y) = false ∨ (isoY (wkC y k d) = y ∧ (isoW (wkC y k d) == k) = false) ∨ (isoY (wkC y k d) = y ∧ isoW (wkC y k d) = k ∧ (isoD (wkC y k d) == d) = false))))) := by
  rcases Bool.eq_false_or_eq_true (wkOk y k d) with h | h
  · have h' := h
    unfold wkOk at h'
    simp only [Bool.and_eq_true, decide_eq_true_eq] at h'
    obtain ⟨⟨h1, h2, h3, h4, h5⟩, h6, h7, h8, h9⟩ := h'
    exact .inl ⟨h1, h2, h3, h4, h5, h6, h7, h8, h9, h⟩
  · refine .inr ?_
    by_cases c1 : y ≤ 9999 ∧ 1 ≤ k ∧ k ≤ 53 ∧ 1 ≤ d ∧ d ≤ 7
    · refine .inr ⟨h, c1.1, c1.2.1, c1.2.2.1, c1.2.2.2.1, c1.2.2.2.2, ?_⟩
      unfold wkOk at h
      simp only [beq_eq_false_iff_ne]
      rcases Bool.eq_false_or_eq_true (isB (wkC y k d)) with i | i
      · refine .inr ⟨i, ?_⟩
        by_cases a : isoY (wkC y k d) = y
        · by_cases b : isoW (wkC y k d) = k
          · refine .inr (.inr ⟨a, b, fun e => ?_⟩)
            simp [c1, i, a, b, e] at h
          · exact .inr (.inl ⟨a, b⟩)
        · exact .inl a
      · exact .inl i
    · exact .inl ⟨h, by omega⟩
theorem firV_1600 : firV 1600 = firstI 1600 ∧ dateE (thereB 1600 1) = 0 ∧ firstI 1600 = 2 := by decide +kernel
theorem firV_no {y : Int} (h : 9999 < y) : firV y = 0 ∧ dateE (thereB y 1) = 4 := by
  have h' : thereB y 1 = false := by unfold thereB; simp; omega
  exact ⟨by unfold firV; rw [h']; rfl, dateE_false h'⟩
theorem firV_ext (y : Int) : (9999 < y ∧ firV y = 0 ∧ dateE (thereB y 1) = 4) ∨ y < 1600 ∨ (1600 ≤ y ∧ y ≤ 9999 ∧ firV y = firstI y ∧ dateE (thereB y 1) = 0 ∧ -4 ≤ firstI y ∧ firstI y ≤ 3068100) := by
  by_cases h : 9999 < y
  · exact .inl ⟨h, firV_no h⟩
  · by_cases h' : y < 1600
    · exact .inr (.inl h')
    · obtain ⟨f1, f2⟩ := firV_of (y := y) (by omega) (by omega)
      have fb := first_bd y
      have yb := years_bd y (by omega) (by omega)
      exact .inr (.inr ⟨by omega, by omega, f1, f2, by omega, by omega⟩)
theorem wk_base (y k d : Int) (h : y ≤ 9999) (hk : 1 ≤ k ∧ k ≤ 53) (hd : 1 ≤ d ∧ d ≤ 7) : (y < 1600 ∧ firstI 1600 - 364 + 7 * (k - 1) + d - 1 = wkC y k d ∧ -400 ≤ wkC y k d ∧ wkC y k d ≤ 400) ∨ (1600 ≤ y ∧ firV y = firstI y ∧ dateE (thereB y 1) = 0 ∧ firstI y + 7 * (k - 1) + d - 1 = wkC y k d ∧ -4 ≤ firstI y ∧ firstI y ≤ 3068100) := by
  unfold wkC wkB
  by_cases c : y < 1600
  · have := firV_1600.2.2
    refine .inl ⟨c, by rw [if_pos c], by rw [if_pos c]; omega, by rw [if_pos c]; omega⟩
  · obtain ⟨f1, f2⟩ := firV_of (y := y) (by omega) h
    have fb := first_bd y
    have yb := years_bd y (by omega) (by omega)
    exact .inr ⟨by omega, f1, f2, by rw [if_neg c], by omega, by omega⟩
end Go.Proofs.Yteppoghpfcmhhaa
