/- Weeks in plain numbers: no program in sight. -/
import Derived.Test.YteppoghpfcmhhaaMathH
namespace Go.Proofs.Yteppoghpfcmhhaa
set_option linter.unusedVariables false
set_option linter.unusedSimpArgs false
open Go Go.RowKit
/-- the Monday of the week of January 4 -/
def firstI (y : Int) : Int := yearsI y + 3 - (yearsI y + 3 + 5) % 7
def firV (y : Int) : Int := if thereB y 1 = true then firstI y else 0
/-- the Monday of a day's week -/
def monI (n : Int) : Int := n - (n + 5) % 7
noncomputable def isoY (n : Int) : Int := if isB n = true then (if isB (monI n + 3) = true then ofY (monI n + 3) else 1599) else 0
noncomputable def isoW (n : Int) : Int := if isB n = true then (if isB (monI n + 3) = true then (monI n - firstI (ofY (monI n + 3))) / 7 + 1 else 52) else 0
def isoD (n : Int) : Int := wdI n
theorem d4_of (y : Int) (h : thereB y 1 = true) : dayV y 1 4 = yearsI y + 3 ∧ dateE (validB y 1 4) = 0 ∧ isB (yearsI y + 3) = true ∧ wdI (yearsI y + 3) = (yearsI y + 3 + 5) % 7 + 1 := by
  unfold thereB at h; simp only [decide_eq_true_eq] at h
  have v : validB y 1 4 = true := by rw [validB_iff]; have := mlen_bd y 1; omega
  have e : dayNo y 1 4 = yearsI y + 3 := by unfold dayNo; rw [ahead_one]; omega
  have b := dayNo_bd _ _ _ v
  rw [e] at b
  have i : isB (yearsI y + 3) = true := (isB_iff _).2 b
  exact ⟨by unfold dayV; rw [if_pos v, e], dateE_true v, i, wd_of i⟩
theorem d4_no (y : Int) (h : thereB y 1 = false) : dayV y 1 4 = 0 ∧ dateE (validB y 1 4) = 4 := by
  have v : validB y 1 4 = false := by unfold validB; rw [h]; rfl
  exact ⟨by unfold dayV; rw [v]; rfl, dateE_false v⟩
theorem mon_bd (n : Int) : n - 6 ≤ monI n ∧ monI n ≤ n ∧ (monI n + 5) % 7 = 0 := by unfold monI; omega
theorem first_bd (y : Int) : yearsI y - 3 ≤ firstI y ∧ firstI y ≤ yearsI y + 3 ∧ (firstI y + 5) % 7 = 0 := by unfold firstI; omega
/-- a week's Thursday in its year -/
theorem thu_year (n : Int) (h : isB (monI n + 3) = true) : 1600 ≤ ofY (monI n + 3) ∧ ofY (monI n + 3) ≤ 9999 ∧ yearsI (ofY (monI n + 3)) ≤ monI n + 3 ∧ monI n + 3 < yearsI (ofY (monI n + 3)) + 365 + lpI (ofY (monI n + 3)) ∧ firstI (ofY (monI n + 3)) ≤ monI n ∧ (monI n - firstI (ofY (monI n + 3))) / 7 ≤ 52 ∧ (monI n - firstI (ofY (monI n + 3))) % 7 = 0 := by
  obtain ⟨v, e⟩ := of_ok _ h
  have i := day_in_year _ _ _ v
  rw [e] at i
  have v' := (validB_iff _ _ _).1 v
  rw [years_succ _ v'.1 v'.2.1] at i
  have m := mon_bd n
  have f := first_bd (ofY (monI n + 3))
  have l := lpI_01 (ofY (monI n + 3))
  refine ⟨v'.1, v'.2.1, i.1, i.2, by omega, by omega, by omega⟩
theorem thu_no (n : Int) (h0 : isB n = true) (h : isB (monI n + 3) = false) : monI n + 3 < 0 := by
  have h1 := (isB_iff n).1 h0
  have h2 := mt (isB_iff _).2 (by simp [h] : ¬ isB (monI n + 3) = true)
  unfold monI at *
  omega
end Go.Proofs.Yteppoghpfcmhhaa
