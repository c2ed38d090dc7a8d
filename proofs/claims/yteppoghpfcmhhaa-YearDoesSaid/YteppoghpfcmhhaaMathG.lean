/- The last weekday of a month and the nearest one, in plain numbers. -/
import Derived.Test.YteppoghpfcmhhaaWeekF
namespace Go.Proofs.Yteppoghpfcmhhaa
set_option linter.unusedVariables false
set_option linter.unusedSimpArgs false
open Go Go.RowKit
/-- what is said of the last weekday of a month, and of the nearest one -/
theorem last_facts (y m d : Int) (e : wkE y m d = 0) : thereB y m = true ∧ 1 ≤ d ∧ d ≤ 7 ∧ lastV y m d = lastN y m d ∧ isB (lastN y m d) = true ∧ wdI (lastN y m d) = d ∧ ofY (lastN y m d) = y ∧ ofM (lastN y m d) = m ∧ mlen y m < ofD (lastN y m d) + 7 ∧ ofD (lastN y m d) ≤ 31 ∧
    0 ≤ eomI y m ∧ eomI y m ≤ 3068036 ∧ eomI y m - 6 ≤ lastN y m d ∧ lastN y m d ≤ eomI y m ∧ ((nearE y m d = 0 ∧ eomI y m - 3 ≤ nearV y m d ∧ nearV y m d ≤ eomI y m + 3 ∧ (nearV y m d = lastN y m d ∨ nearV y m d = lastN y m d + 7)) ∨ (nearE y m d = 4 ∧ lastN y m d < eomI y m - 3 ∧ 3068037 ≤ lastN y m d + 7)) := by
  rcases wkE_bool y m d with ⟨_, h, c1, c2, v, u, u1, u2, b1, b2⟩ | ⟨e', _, _⟩
  · have h' := h
    unfold thereB at h'; simp only [decide_eq_true_eq] at h'
    obtain ⟨f1, f2, f3, f4⟩ := eom_facts y m h
    have w0 := wd_of f3
    have yb := years_bd y (by omega) (by omega)
    have ab := ahead_bd y m (by omega) (by omega)
    have mb := mlen_bd y m
    have ed : eomI y m = yearsI y + aheadI y m + mlen y m - 1 := rfl
    have ld : lastN y m d = eomI y m - (wdI (eomI y m) - d + 7) % 7 := rfl
    have hv : validB y m (lastN y m d - yearsI y - aheadI y m + 1) = true := by rw [validB_iff]; omega
    have hd : dayNo y m (lastN y m d - yearsI y - aheadI y m + 1) = lastN y m d := by unfold dayNo; omega
    obtain ⟨o1, o2, o3⟩ := of_is _ _ _ _ hv hd
    have i : isB (lastN y m d) = true := (isB_iff _).2 (by omega)
    have w1 := wd_of i
    have kd : nearK y m d = (d - wdI (eomI y m) + 10) % 7 - 3 := rfl
    refine ⟨h, c1, c2, by unfold lastV; rw [if_pos e], i, by omega, o1, o2, by omega, by omega, by omega, by omega, by omega, by omega, ?_⟩
    by_cases ok : addOk (eomI y m) (nearK y m d) = true
    · have n1 : nearV y m d = eomI y m + nearK y m d := by unfold nearV addI; rw [if_pos e, if_pos ok]
      have n2 : nearE y m d = 0 := by unfold nearE; rw [if_pos e, ok]; rfl
      exact .inl ⟨n2, by omega, by omega, by omega⟩
    · have n2 : nearE y m d = 4 := by unfold nearE; rw [if_pos e, dateE_false (by simpa using ok)]
      have ok' : ¬ (0 ≤ eomI y m ∧ eomI y m < 3068037 ∧ -eomI y m ≤ nearK y m d ∧ nearK y m d < 3068037 - eomI y m) := by
        intro hh; apply ok; unfold addOk; simpa using hh
      have d30 : 30 ≤ eomI y m := by omega
      exact .inr ⟨n2, by omega, by omega⟩
  · simp [e] at e'
theorem wk_no (y m d : Int) (e : ¬ wkE y m d = 0) : lastV y m d = 0 ∧ nearV y m d = 0 ∧ nearE y m d = wkE y m d :=
  ⟨by unfold lastV; rw [if_neg e], by unfold nearV; rw [if_neg e], by unfold nearE; rw [if_neg e]⟩
theorem wkE_next (y m d : Int) (h1 : 1600 ≤ y) (h2 : y ≤ 9998) : wkE (y + 1) m d = wkE y m d := by
  have : thereB (y + 1) m = thereB y m := by
    unfold thereB; rw [Bool.eq_iff_iff]; simp only [decide_eq_true_eq]; omega
  unfold wkE; rw [this]
theorem apart7 (a b : Int) (h : (b - a) % 7 = 0) (h1 : 359 ≤ b - a) (h2 : b - a ≤ 372) : b - a = 364 ∨ b - a = 371 := by omega
theorem mod7 (a b d : Int) (h1 : d = (a + 5) % 7 + 1) (h2 : d = (b + 5) % 7 + 1) : (b - a) % 7 = 0 := by omega
/-- a year apart -/
theorem years_apart (y m d : Int) (h1 : 1600 ≤ y) (h2 : y ≤ 9998) (e : wkE y m d = 0) :
    (lastV (y + 1) m d - lastV y m d = 364 ∨ lastV (y + 1) m d - lastV y m d = 371) ∧ nearE y m d = 0 ∧
    ((nearE (y + 1) m d = 4 ∧ y = 9998) ∨ (nearE (y + 1) m d = 0 ∧ (nearV (y + 1) m d - nearV y m d = 364 ∨ nearV (y + 1) m d - nearV y m d = 371))) := by
  have e' : wkE (y + 1) m d = 0 := by rw [wkE_next y m d h1 h2, e]
  obtain ⟨a, c1, c2, a1, a2, a3, _, _, _, _, a8, a9, a10, a11, a12⟩ := last_facts y m d e
  obtain ⟨b, _, _, b1, b2, b3, _, _, _, _, b8, b9, b10, b11, b12⟩ := last_facts (y + 1) m d e'
  have h' := a
  unfold thereB at h'; simp only [decide_eq_true_eq] at h'
  have ys := years_succ y h1 (by omega)
  have ys2 := years_succ (y + 1) (by omega) (by omega)
  have l1 := lpI_01 y
  have l2 := lpI_01 (y + 1)
  have as1 := ahead_succ y m h'.2.2.1 h'.2.2.2
  have as2 := ahead_succ (y + 1) m h'.2.2.1 h'.2.2.2
  have E1 : eomI y m = yearsI y + aheadI y (m + 1) - 1 := by unfold eomI; omega
  have E2 : eomI (y + 1) m = yearsI (y + 1) + aheadI (y + 1) (m + 1) - 1 := by unfold eomI; omega
  -- from one month's end to the next year's: 365 or 366 days
  have gap : eomI (y + 1) m - eomI y m = 365 ∨ eomI (y + 1) m - eomI y m = 366 := by
    rw [E1, E2, ys]; unfold aheadI
    by_cases hm : 2 < m + 1
    · rw [if_pos hm, if_pos hm]; omega
    · rw [if_neg hm, if_neg hm]; omega
  have w1 := wd_of a2
  have w2 := wd_of b2
  have top : nearE (y + 1) m d = 4 → y = 9998 := by
    intro hh
    rcases b12 with ⟨g, _⟩ | ⟨_, g2, g3⟩
    · omega
    · refine Classical.byContradiction fun hn => ?_
      have yb := years_mono (y + 2) 9999 (by omega) (by omega)
      have y9 : yearsI 9999 = 3067672 := by decide
      have ab := ahead_bd (y + 1) (m + 1) (by omega) (by omega)
      rw [show y + 1 + 1 = y + 2 by omega] at ys2
      omega
  have low : nearE y m d = 4 → False := by
    intro hh
    rcases a12 with ⟨g, _⟩ | ⟨_, g2, g3⟩
    · omega
    · have yb := years_mono (y + 1) 9999 (by omega) (by omega)
      have y9 : yearsI 9999 = 3067672 := by decide
      have ab := ahead_bd y (m + 1) (by omega) (by omega)
      omega
  have m7 := mod7 (lastN y m d) (lastN (y + 1) m d) d (a3.symm.trans w1) (b3.symm.trans w2)
  rw [a1, b1]
  clear w1 w2 E1 E2 ys ys2 as1 as2 l1 l2 h' a3 b3 a2 b2 a1 b1
  generalize eomI y m = E at *
  generalize eomI (y + 1) m = E' at *
  generalize lastN y m d = L at *
  generalize lastN (y + 1) m d = L' at *
  generalize nearV y m d = C at *
  generalize nearV (y + 1) m d = C' at *
  rcases a12 with ⟨g1, g2, g3, g4⟩ | ⟨g1, g2, g3⟩
  · refine ⟨apart7 _ _ m7 (by omega) (by omega), g1, ?_⟩
    rcases b12 with ⟨k1, k2, k3, k4⟩ | ⟨k1, k2, k3⟩
    · exact .inr ⟨k1, apart7 _ _ (by omega) (by omega) (by omega)⟩
    · exact .inl ⟨k1, top k1⟩
  · exact (low g1).elim
end Go.Proofs.Yteppoghpfcmhhaa
