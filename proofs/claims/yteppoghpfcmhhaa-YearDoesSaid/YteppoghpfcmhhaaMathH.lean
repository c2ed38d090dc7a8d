/- More on days in plain numbers: no program in sight. -/
import Derived.Test.YteppoghpfcmhhaaMathD
namespace Go.Proofs.Yteppoghpfcmhhaa
set_option linter.unusedVariables false
set_option linter.unusedSimpArgs false
open Go Go.RowKit
theorem adds_cases (n k : Int) : (addOk n k = true ∧ addI n k = n + k ∧ dateE (addOk n k) = 0 ∧ 0 ≤ n ∧ n < 3068037 ∧ -n ≤ k ∧ k < 3068037 - n) ∨ (addI n k = 0 ∧ dateE (addOk n k) = 4) := by
  rcases Bool.eq_false_or_eq_true (addOk n k) with h | h
  · refine .inl ⟨h, by unfold addI; rw [if_pos h], by rw [h]; rfl, ?_⟩
    unfold addOk at h; simpa using h
  · exact .inr ⟨by unfold addI; rw [h]; rfl, by rw [h]; rfl⟩
theorem addOk_of {n k : Int} (h : 0 ≤ n ∧ n < 3068037 ∧ -n ≤ k ∧ k < 3068037 - n) : addI n k = n + k ∧ dateE (addOk n k) = 0 := by
  have h' : addOk n k = true := by unfold addOk; simpa using h
  exact ⟨by unfold addI; rw [if_pos h'], by rw [h']; rfl⟩
theorem dayNo_next1 (y m d : Int) (h : validB y m d = true) (hl : d < mlen y m) : validB y m (d + 1) = true ∧ dayNo y m (d + 1) = dayNo y m d + 1 := by
  rw [validB_iff] at *
  exact ⟨by omega, by unfold dayNo; omega⟩
theorem dayNo_next2 (y m d : Int) (h : validB y m d = true) (hl : d = mlen y m) (hm : m < 12) : validB y (m + 1) 1 = true ∧ dayNo y (m + 1) 1 = dayNo y m d + 1 := by
  rw [validB_iff] at *
  have := ahead_succ y m (by omega) (by omega)
  have := mlen_bd y (m + 1)
  exact ⟨by omega, by unfold dayNo; omega⟩
theorem dayNo_next3 (y m d : Int) (h : validB y m d = true) (hl : d = mlen y m) (hm : m = 12) (hy : y < 9999) : validB (y + 1) 1 1 = true ∧ dayNo (y + 1) 1 1 = dayNo y m d + 1 := by
  rw [validB_iff] at *
  have h1 := ahead_succ y m (by omega) (by omega)
  have h2 := ahead_13 y
  have h3 := years_succ y (by omega) (by omega)
  have h4 := ahead_one (y + 1)
  have := mlen_bd (y + 1) 1
  subst hm
  rw [show (12 : Int) + 1 = 13 from rfl] at h1
  exact ⟨by omega, by unfold dayNo; omega⟩
theorem last_day (y m d : Int) (h : validB y m d = true) (hl : d = mlen y m) (hm : m = 12) (hy : y = 9999) : dayNo y m d = 3068036 := by
  subst hm hy
  rw [hl]; decide +kernel
theorem next_cases (n : Int) (h : isB n = true) (h1 : isB (n + 1) = true) : ∃ y m d, validB y m d = true ∧ ofY n = y ∧ ofM n = m ∧ ofD n = d ∧ lenV y m = mlen y m ∧ dateE (thereB y m) = 0 ∧
    ((d < mlen y m ∧ ofY (n + 1) = y ∧ ofM (n + 1) = m ∧ ofD (n + 1) = d + 1) ∨ (mlen y m = d ∧ m < 12 ∧ ofY (n + 1) = y ∧ ofM (n + 1) = m + 1 ∧ ofD (n + 1) = 1) ∨ (mlen y m = d ∧ m = 12 ∧ ofY (n + 1) = y + 1 ∧ ofM (n + 1) = 1 ∧ ofD (n + 1) = 1)) := by
  obtain ⟨hv, hd⟩ := of_ok n h
  generalize ofY n = y at *
  generalize ofM n = m at *
  generalize ofD n = d at *
  have hv' := (validB_iff y m d).1 hv
  have ht : thereB y m = true := by unfold thereB; simp; omega
  refine ⟨y, m, d, hv, rfl, rfl, rfl, by unfold lenV; rw [if_pos ht], by rw [ht]; rfl, ?_⟩
  by_cases c1 : d < mlen y m
  · obtain ⟨a, b⟩ := dayNo_next1 y m d hv c1
    obtain ⟨e1, e2, e3⟩ := of_is _ _ _ (n + 1) a (by rw [b, hd])
    exact .inl ⟨c1, e1, e2, e3⟩
  · by_cases c2 : m < 12
    · obtain ⟨a, b⟩ := dayNo_next2 y m d hv (by omega) c2
      obtain ⟨e1, e2, e3⟩ := of_is _ _ _ (n + 1) a (by rw [b, hd])
      exact .inr (.inl ⟨by omega, c2, e1, e2, e3⟩)
    · have hy : y < 9999 := by
        refine Classical.byContradiction fun c3 => ?_
        have := last_day y m d hv (by omega) (by omega) (by omega)
        rw [isB_iff] at h1; omega
      obtain ⟨a, b⟩ := dayNo_next3 y m d hv (by omega) (by omega) hy
      obtain ⟨e1, e2, e3⟩ := of_is _ _ _ (n + 1) a (by rw [b, hd])
      exact .inr (.inr ⟨by omega, by omega, e1, e2, e3⟩)
theorem wd_of {n : Int} (h : isB n = true) : wdI n = (n + 5) % 7 + 1 := by unfold wdI; rw [if_pos h]
theorem dateE_true {b : Bool} (h : b = true) : dateE b = 0 := by rw [h]; rfl
theorem dateE_false {b : Bool} (h : b = false) : dateE b = 4 := by rw [h]; rfl
theorem dayV_cases (y m d : Int) : (validB y m d = true ∧ dayV y m d = dayNo y m d ∧ dateE (validB y m d) = 0) ∨ (validB y m d = false ∧ dayV y m d = 0 ∧ dateE (validB y m d) = 4) := by
  rcases Bool.eq_false_or_eq_true (validB y m d) with h | h
  · exact .inl ⟨h, by unfold dayV; rw [if_pos h], by rw [h]; rfl⟩
  · exact .inr ⟨h, by unfold dayV; rw [h]; rfl, by rw [h]; rfl⟩
theorem back_of {y m d : Int} (h : validB y m d = true) : ofY (dayNo y m d) = y ∧ ofM (dayNo y m d) = m ∧ ofD (dayNo y m d) = d ∧ dateE (isB (dayNo y m d)) = 0 ∧ 0 ≤ dayNo y m d ∧ dayNo y m d < 3068037 := by
  obtain ⟨h1, h2, h3⟩ := of_is y m d _ h rfl
  have hb := dayNo_bd y m d h
  exact ⟨h1, h2, h3, dateE_true ((isB_iff _).2 hb), hb.1, hb.2⟩
theorem back_day {n : Int} (h : isB n = true) : dayV (ofY n) (ofM n) (ofD n) = n ∧ dateE (validB (ofY n) (ofM n) (ofD n)) = 0 ∧ dateE (isB n) = 0 := by
  obtain ⟨h1, h2⟩ := of_ok n h
  exact ⟨by unfold dayV; rw [if_pos h1, h2], dateE_true h1, dateE_true h⟩
end Go.Proofs.Yteppoghpfcmhhaa
