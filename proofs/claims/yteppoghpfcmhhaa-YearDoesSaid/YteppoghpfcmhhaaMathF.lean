/- More on weeks in plain numbers. -/
import Derived.Test.YteppoghpfcmhhaaWeekP
namespace Go.Proofs.Yteppoghpfcmhhaa
set_option linter.unusedVariables false
set_option linter.unusedSimpArgs false
open Go Go.RowKit
theorem firstI_1600 : firstI 1600 = 2 := by decide
theorem years_10000' : yearsI (9999 + 1) = 3068037 := by decide
theorem ofY_is (n y : Int) (h1 : 1600 ≤ y) (h2 : y ≤ 9999) (h3 : yearsI y ≤ n) (h4 : n < yearsI (y + 1)) : isB n = true ∧ ofY n = y := by
  have b1 := years_bd y h1 (by omega)
  have b2 := years_bd (y + 1) (by omega) (by omega)
  have i : isB n = true := (isB_iff n).2 (by omega)
  refine ⟨i, ?_⟩
  obtain ⟨v, e⟩ := of_ok n i
  have d := day_in_year _ _ _ v
  rw [e] at d
  have v' := (validB_iff _ _ _).1 v
  by_cases c : ofY n = y
  · exact c
  · by_cases c2 : ofY n < y
    · have := years_mono (ofY n + 1) y (by omega) (by omega); omega
    · have := years_mono (y + 1) (ofY n) (by omega) (by omega); omega
/-- an ISO day is where it should be -/
theorem iso_at (n : Int) (h : isB n = true) : wkC (isoY n) (isoW n) (isoD n) = n ∧ 1599 ≤ isoY n ∧ isoY n ≤ 9999 ∧ 1 ≤ isoW n ∧ isoW n ≤ 53 ∧ 1 ≤ isoD n ∧ isoD n ≤ 7 ∧ isoD n = (n + 5) % 7 + 1 := by
  have b := (isB_iff n).1 h
  have w := wd_of h
  have hd : isoD n = (n + 5) % 7 + 1 := w
  have x := firstI_1600
  rcases Bool.eq_false_or_eq_true (isB (monI n + 3)) with h3 | h3
  · obtain ⟨a1, a2, a3, a4, a5, a6, a7⟩ := thu_year n h3
    have e1 : isoY n = ofY (monI n + 3) := by unfold isoY; rw [if_pos h, if_pos h3]
    have e2 : isoW n = (monI n - firstI (ofY (monI n + 3))) / 7 + 1 := by unfold isoW; rw [if_pos h, if_pos h3]
    rw [e1, e2, hd]
    have m : monI n = n - (n + 5) % 7 := rfl
    refine ⟨?_, by omega, by omega, by omega, by omega, by omega, by omega, rfl⟩
    unfold wkC wkB
    rw [if_neg (by omega)]
    omega
  · have t := thu_no n h h3
    have e1 : isoY n = 1599 := by unfold isoY; rw [if_pos h, h3]; rfl
    have e2 : isoW n = 52 := by unfold isoW; rw [if_pos h, h3]; rfl
    rw [e1, e2, hd]
    have m : monI n = n - (n + 5) % 7 := rfl
    refine ⟨?_, by omega, by omega, by omega, by omega, by omega, by omega, rfl⟩
    unfold wkC wkB
    rw [if_pos (by omega), x]
    omega
theorem iso_ok (n : Int) (h : isB n = true) : wkOk (isoY n) (isoW n) (isoD n) = true ∧ wkV (isoY n) (isoW n) (isoD n) = n := by
  obtain ⟨a, b1, b2, c1, c2, d1, d2, _⟩ := iso_at n h
  have k : wkOk (isoY n) (isoW n) (isoD n) = true := by
    unfold wkOk; rw [a]; simp [h, b2, c1, c2, d1, d2]
  exact ⟨k, by unfold wkV; rw [if_pos k, a]⟩
theorem iso_next (n : Int) (h : isB n = true) (h1 : isB (n + 1) = true) :
    (isoD n < 7 ∧ isoY (n + 1) = isoY n ∧ isoW (n + 1) = isoW n ∧ isoD (n + 1) = isoD n + 1) ∨
    (isoD n = 7 ∧ isoY n < 1600 ∧ isoY (n + 1) = 1600 ∧ isoW (n + 1) = 1 ∧ isoD (n + 1) = 1) ∨
    (isoD n = 7 ∧ 1600 ≤ isoY n ∧ isoY n ≤ 9999 ∧ isoW n < manyV (isoY n) ∧ isoY (n + 1) = isoY n ∧ isoW (n + 1) = isoW n + 1 ∧ isoD (n + 1) = 1) ∨
    (isoD n = 7 ∧ 1600 ≤ isoY n ∧ isoY n ≤ 9999 ∧ isoW n = manyV (isoY n) ∧ isoY (n + 1) = isoY n + 1 ∧ isoW (n + 1) = 1 ∧ isoD (n + 1) = 1) := by
  have b := (isB_iff n).1 h
  have b1 := (isB_iff (n + 1)).1 h1
  obtain ⟨_, _, _, _, _, _, _, d0⟩ := iso_at n h
  obtain ⟨_, _, _, _, _, _, _, d1⟩ := iso_at (n + 1) h1
  have m0 : monI n = n - (n + 5) % 7 := rfl
  have m1 : monI (n + 1) = n + 1 - (n + 1 + 5) % 7 := rfl
  have x := firstI_1600
  by_cases c : (n + 5) % 7 < 6
  · have mm : monI (n + 1) = monI n := by omega
    refine .inl ⟨by omega, ?_, ?_, by omega⟩
    · unfold isoY; rw [mm, if_pos h, if_pos h1]
    · unfold isoW; rw [mm, if_pos h, if_pos h1]
  · refine .inr ?_
    have mm : monI (n + 1) = monI n + 7 := by omega
    rcases Bool.eq_false_or_eq_true (isB (monI n + 3)) with h3 | h3
    · refine .inr ?_
      obtain ⟨a1, a2, a3, a4, a5, a6, a7⟩ := thu_year n h3
      have e1 : isoY n = ofY (monI n + 3) := by unfold isoY; rw [if_pos h, if_pos h3]
      have e2 : isoW n = (monI n - firstI (ofY (monI n + 3))) / 7 + 1 := by unfold isoW; rw [if_pos h, if_pos h3]
      have h4 : isB (monI (n + 1) + 3) = true := (isB_iff _).2 (by omega)
      have f1 : isoY (n + 1) = ofY (monI (n + 1) + 3) := by unfold isoY; rw [if_pos h1, if_pos h4]
      have f2 : isoW (n + 1) = (monI (n + 1) - firstI (ofY (monI (n + 1) + 3))) / 7 + 1 := by unfold isoW; rw [if_pos h1, if_pos h4]
      rw [e1, e2, f1, f2]
      generalize hY : ofY (monI n + 3) = Y at *
      have ht : thereB Y 1 = true := by unfold thereB; simp; omega
      have ys := years_succ Y a1 a2
      have fb := first_bd Y
      have l1 := lpI_01 Y
      by_cases c2 : monI n + 10 < yearsI (Y + 1)
      · obtain ⟨_, o⟩ := ofY_is (monI (n + 1) + 3) Y a1 a2 (by omega) (by omega)
        refine .inl ⟨by omega, a1, a2, ?_, o, by rw [o]; omega, by omega⟩
        by_cases c3 : (monI n - firstI Y) / 7 + 1 < 52
        · unfold manyV; rw [if_pos ht]; split <;> omega
        · obtain ⟨i, o2⟩ := ofY_is (firstI Y + 367) Y a1 a2 (by omega) (by omega)
          unfold manyV; rw [if_pos ht, if_pos ⟨i, o2⟩]; omega
      · have y99 : Y < 9999 := by
          refine Classical.byContradiction fun hh => ?_
          have : Y = 9999 := by omega
          subst this
          have := years_10000'
          omega
        have ys2 := years_succ (Y + 1) (by omega) (by omega)
        have l2 := lpI_01 (Y + 1)
        obtain ⟨_, o⟩ := ofY_is (monI (n + 1) + 3) (Y + 1) (by omega) (by omega) (by omega) (by omega)
        have fb2 := first_bd (Y + 1)
        refine .inr ⟨by omega, a1, a2, ?_, o, by rw [o]; omega, by omega⟩
        by_cases c3 : firstI Y + 367 < yearsI (Y + 1)
        · obtain ⟨i, o2⟩ := ofY_is (firstI Y + 367) Y a1 a2 (by omega) c3
          unfold manyV; rw [if_pos ht, if_pos ⟨i, o2⟩]; omega
        · have : ¬ (isB (firstI Y + 367) = true ∧ ofY (firstI Y + 367) = Y) := by
            intro ⟨i, o2⟩
            obtain ⟨_, o3⟩ := ofY_is (firstI Y + 367) (Y + 1) (by omega) (by omega) (by omega) (by omega)
            omega
          unfold manyV; rw [if_pos ht, if_neg this]; omega
    · have t := thu_no n h h3
      have e1 : isoY n = 1599 := by unfold isoY; rw [if_pos h, h3]; rfl
      have n1 : monI (n + 1) = 2 := by omega
      obtain ⟨i, o⟩ := ofY_is 5 1600 (by decide) (by decide) (by decide) (by decide)
      have h4 : isB (monI (n + 1) + 3) = true := by rw [n1]; exact i
      have f1 : isoY (n + 1) = ofY (monI (n + 1) + 3) := by unfold isoY; rw [if_pos h1, if_pos h4]
      have f2 : isoW (n + 1) = (monI (n + 1) - firstI (ofY (monI (n + 1) + 3))) / 7 + 1 := by unfold isoW; rw [if_pos h1, if_pos h4]
      rw [n1, show (2 : Int) + 3 = 5 from rfl, o] at f1 f2
      rw [x] at f2
      exact .inl ⟨by omega, by omega, f1, by omega, by omega⟩
/-- a year's first and last week -/
theorem year_weeks (y : Int) (h : thereB y 1 = true) : dayV y 1 4 = yearsI y + 3 ∧ dateE (validB y 1 4) = 0 ∧ dayV y 12 28 = yearsI (y + 1) - 4 ∧ dateE (validB y 12 28) = 0 ∧
    isoY (yearsI y + 3) = y ∧ isoW (yearsI y + 3) = 1 ∧ isoY (yearsI (y + 1) - 4) = y ∧ isoW (yearsI (y + 1) - 4) = manyV y ∧
    isB (yearsI y + 3) = true ∧ isB (yearsI (y + 1) - 4) = true ∧ isB (yearsI y) = true ∧ isB (yearsI (y + 1) - 1) = true ∧
    ((manyV y = 53 ∧ (wdI (yearsI y) = 4 ∨ wdI (yearsI (y + 1) - 1) = 4)) ∨ (manyV y = 52 ∧ ¬ wdI (yearsI y) = 4 ∧ ¬ wdI (yearsI (y + 1) - 1) = 4)) := by
  obtain ⟨q1, q2, q3, _⟩ := d4_of y h
  have h' := h
  unfold thereB at h'; simp only [decide_eq_true_eq] at h'
  have v : validB y 12 28 = true := by rw [validB_iff]; have := mlen_bd y 12; omega
  have ys := years_succ y h'.1 h'.2.1
  have l1 := lpI_01 y
  have a12 : aheadI y 12 = 334 + lpI y := by simp [aheadI, tabI]
  have e : dayNo y 12 28 = yearsI (y + 1) - 4 := by unfold dayNo; omega
  have d := dayNo_bd _ _ _ v
  rw [e] at d
  have yb := years_bd y h'.1 (by omega)
  have yb2 := years_bd (y + 1) (by omega) (by omega)
  have i1 : isB (yearsI (y + 1) - 4) = true := (isB_iff _).2 d
  have i2 : isB (yearsI y) = true := (isB_iff _).2 (by omega)
  have i3 : isB (yearsI (y + 1) - 1) = true := (isB_iff _).2 (by omega)
  have m1 : monI (yearsI y + 3) = firstI y := by unfold monI firstI; omega
  have fb := first_bd y
  obtain ⟨j1, o1⟩ := ofY_is (firstI y + 3) y h'.1 h'.2.1 (by omega) (by omega)
  have m2 := mon_bd (yearsI (y + 1) - 4)
  obtain ⟨j2, o2⟩ := ofY_is (monI (yearsI (y + 1) - 4) + 3) y h'.1 h'.2.1 (by omega) (by omega)
  have w1 := wd_of i2
  have w2 := wd_of i3
  have many : (manyV y = 53 ∧ firstI y + 367 < yearsI (y + 1)) ∨ (manyV y = 52 ∧ yearsI (y + 1) ≤ firstI y + 367) := by
    by_cases c3 : firstI y + 367 < yearsI (y + 1)
    · obtain ⟨i, o2⟩ := ofY_is (firstI y + 367) y h'.1 h'.2.1 (by omega) c3
      exact .inl ⟨by unfold manyV; rw [if_pos h, if_pos ⟨i, o2⟩], c3⟩
    · refine .inr ⟨?_, by omega⟩
      have : ¬ (isB (firstI y + 367) = true ∧ ofY (firstI y + 367) = y) := by
        intro ⟨i, o2⟩
        obtain ⟨v, e⟩ := of_ok _ i
        have d := day_in_year _ _ _ v
        rw [e, o2] at d
        omega
      unfold manyV; rw [if_pos h, if_neg this]
  have fd : firstI y = yearsI y + 3 - (yearsI y + 3 + 5) % 7 := rfl
  have mdd : monI (yearsI (y + 1) - 4) = yearsI (y + 1) - 4 - (yearsI (y + 1) - 4 + 5) % 7 := rfl
  refine ⟨q1, q2, by unfold dayV; rw [if_pos v, e], dateE_true v, ?_, ?_, ?_, ?_, q3, i1, i2, i3, ?_⟩
  · unfold isoY; rw [if_pos q3, m1, if_pos j1, o1]
  · unfold isoW; rw [if_pos q3, m1, if_pos j1, o1]; omega
  · unfold isoY; rw [if_pos i1, if_pos j2, o2]
  · unfold isoW; rw [if_pos i1, if_pos j2, o2]
    rcases many with ⟨m, mm⟩ | ⟨m, mm⟩ <;> rw [m] <;> omega
  · rw [w1, w2]
    rcases many with ⟨m, mm⟩ | ⟨m, mm⟩
    · exact .inl ⟨m, by omega⟩
    · exact .inr ⟨m, by omega, by omega⟩
end Go.Proofs.Yteppoghpfcmhhaa
