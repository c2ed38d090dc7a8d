/- A day's fiscal year in plain numbers. -/
import Derived.Test.YteppoghpfcmhhaaMathJ
namespace Go.Proofs.Yteppoghpfcmhhaa
set_option linter.unusedVariables false
set_option linter.unusedSimpArgs false
open Go Go.RowKit
/-- does the day lie in the told year z -/
def fyOk (c : CalI) (day z : Int) : Bool := decide (1601 ≤ z ∧ z ≤ 9997 ∧ endN c (z - 1) < day ∧ day ≤ endN c z)
theorem fyOk_iff (c : CalI) (day z : Int) : fyOk c day z = true ↔ 1601 ≤ z ∧ z ≤ 9997 ∧ endN c (z - 1) < day ∧ day ≤ endN c z := by unfold fyOk; simp
noncomputable def fyZ (c : CalI) (day : Int) : Int :=
  if fyOk c day (ofY day - c.shift) = true then ofY day - c.shift else if fyOk c day (ofY day - c.shift + 1) = true then ofY day - c.shift + 1 else if fyOk c day (ofY day - c.shift - 1) = true then ofY day - c.shift - 1 else 0
theorem fy_uniq {c : CalI} (h : calB c = true) {day z z' : Int} (hz : fyOk c day z = true) (hz' : fyOk c day z' = true) : z = z' := by
  obtain ⟨a1, a2, a3, a4⟩ := (fyOk_iff _ _ _).1 hz
  obtain ⟨b1, b2, b3, b4⟩ := (fyOk_iff _ _ _).1 hz'
  refine Classical.byContradiction fun hn => ?_
  rcases Int.lt_or_lt_of_ne hn with hlt | hlt
  · have m := end_mono c h z (z' - 1) (by omega) (by omega) (by omega)
    generalize endN c z = P at *
    generalize endN c (z' - 1) = R at *
    generalize endN c z' = S at *
    generalize endN c (z - 1) = T at *
    omega
  · have m := end_mono c h z' (z - 1) (by omega) (by omega) (by omega)
    generalize endN c z = P at *
    generalize endN c (z' - 1) = R at *
    generalize endN c z' = S at *
    generalize endN c (z - 1) = T at *
    omega
theorem fy_near {c : CalI} (h : calB c = true) {day z : Int} (hd : isB day = true) (hz : fyOk c day z = true) : z - 1 ≤ ofY day - c.shift ∧ ofY day - c.shift ≤ z + 1 := by
  obtain ⟨a1, a2, a3, a4⟩ := (fyOk_iff _ _ _).1 hz
  obtain ⟨_, _, _, _, _, e6, e7, e8, _⟩ := end_facts c h z (by omega) a2
  obtain ⟨_, _, _, _, _, g6, g7, g8, _⟩ := end_facts c h (z - 1) (by omega) (by omega)
  obtain ⟨v, e⟩ := of_ok day hd
  have dy := day_in_year _ _ _ v
  rw [e] at dy
  have v' := (validB_iff _ _ _).1 v
  obtain ⟨sh0, sh1⟩ := shift_bd h
  unfold thereB at e8 g8
  simp only [decide_eq_true_eq] at e8 g8
  -- the month's end lies in its year
  have inY : ∀ Y : Int, 1600 ≤ Y → Y ≤ 9999 → yearsI Y + 27 ≤ eomI Y c.month ∧ eomI Y c.month ≤ yearsI (Y + 1) - 1 := fun Y h1 h2 => by
    have as1 := ahead_succ Y c.month (by omega) (by omega)
    have ab := ahead_bd Y c.month (by omega) (by omega)
    have ab2 := ahead_bd Y (c.month + 1) (by omega) (by omega)
    have mb := mlen_bd Y c.month
    have ys := years_succ Y h1 h2
    have a13 := ahead_13 Y
    have E : eomI Y c.month = yearsI Y + aheadI Y c.month + mlen Y c.month - 1 := rfl
    rw [E]
    omega
  have i1 := inY (z + c.shift) (by omega) (by omega)
  have i2 := inY (z - 1 + c.shift) (by omega) (by omega)
  have L : day ≤ yearsI (z + c.shift + 1) + 2 := by
    generalize endN c z = P at *
    generalize eomI (z + c.shift) c.month = M at *
    clear inY i2 dy g6 g7
    omega
  have L2 : yearsI (z - 1 + c.shift) < day := by
    generalize endN c (z - 1) = P at *
    generalize eomI (z - 1 + c.shift) c.month = M at *
    clear inY i1 dy e6 e7
    omega
  clear inY i1 i2 e6 e7 g6 g7 a3 a4
  generalize hY : ofY day = Y at *
  constructor
  · refine Classical.byContradiction fun hn => ?_
    have m := years_mono (Y + 1) (z - 1 + c.shift) (by omega) (by omega)
    have ys := years_succ Y (by omega) (by omega)
    have l := lpI_01 Y
    omega
  · refine Classical.byContradiction fun hn => ?_
    have m := years_mono (z + c.shift + 2) Y (by omega) (by omega)
    have ys := years_succ (z + c.shift + 1) (by omega) (by omega)
    have l := lpI_01 (z + c.shift + 1)
    rw [show z + c.shift + 1 + 1 = z + c.shift + 2 by omega] at ys
    omega
theorem fy_is {c : CalI} (h : calB c = true) {day z : Int} (hd : isB day = true) (hz : fyOk c day z = true) : fyZ c day = z := by
  have n := fy_near h hd hz
  unfold fyZ
  by_cases h1 : fyOk c day (ofY day - c.shift) = true
  · rw [if_pos h1]; exact fy_uniq h h1 hz
  · rw [if_neg h1]
    by_cases h2 : fyOk c day (ofY day - c.shift + 1) = true
    · rw [if_pos h2]; exact fy_uniq h h2 hz
    · rw [if_neg h2]
      have e : ofY day - c.shift - 1 = z ∨ ofY day - c.shift = z ∨ ofY day - c.shift + 1 = z := by omega
      rcases e with e | e | e
      · rw [e, if_pos hz]
      · rw [e] at h1; exact absurd hz h1
      · rw [e] at h2; exact absurd hz h2
theorem fy_ways (c : CalI) (h : calB c = true) (day : Int) (hd : isB day = true) : (fyOk c day (fyZ c day) = true) ∨ (fyZ c day = 0 ∧ ∀ z, fyOk c day z = false) := by
  rcases Bool.eq_false_or_eq_true (fyOk c day (fyZ c day)) with hz | hz
  · exact .inl hz
  · refine .inr ⟨?_, fun z => ?_⟩
    · by_cases h1 : fyOk c day (ofY day - c.shift) = true
      · have e := fy_is h hd h1
        rw [e, h1] at hz; cases hz
      · by_cases h2 : fyOk c day (ofY day - c.shift + 1) = true
        · have e := fy_is h hd h2
          rw [e, h2] at hz; cases hz
        · by_cases h3 : fyOk c day (ofY day - c.shift - 1) = true
          · have e := fy_is h hd h3
            rw [e, h3] at hz; cases hz
          · unfold fyZ; rw [if_neg h1, if_neg h2, if_neg h3]
    · rcases Bool.eq_false_or_eq_true (fyOk c day z) with k | k
      · rw [fy_is h hd k, k] at hz; cases hz
      · exact k
/-- a day's year, which day of it, and the error -/
noncomputable def foE (c : CalI) (day : Int) : Int := if calB c = true then (if isB day = true then (if fyOk c day (fyZ c day) = true then 0 else 11) else 4) else 1
noncomputable def foY (c : CalI) (day : Int) : Int := if foE c day = 0 then fyZ c day else 0
noncomputable def foN (c : CalI) (day : Int) : Int := if foE c day = 0 then day - endN c (fyZ c day - 1) else 0
theorem fo_yes {c : CalI} (h : calB c = true) {day z : Int} (hd : isB day = true) (hz : fyOk c day z = true) : foE c day = 0 ∧ foY c day = z ∧ foN c day = day - endN c (z - 1) := by
  have e := fy_is h hd hz
  have f : foE c day = 0 := by unfold foE; rw [if_pos h, if_pos hd, e, if_pos hz]
  exact ⟨f, by unfold foY; rw [if_pos f, e], by unfold foN; rw [if_pos f, e]⟩
theorem fo_ways (c : CalI) (day : Int) : (calB c = true ∧ isB day = true ∧ (∃ z, fyOk c day z = true ∧ foE c day = 0 ∧ foY c day = z ∧ foN c day = day - endN c (z - 1))) ∨ (calB c = true ∧ isB day = true ∧ (∀ z, fyOk c day z = false) ∧ foE c day = 11 ∧ foY c day = 0 ∧ foN c day = 0) ∨
    (calB c = true ∧ isB day = false ∧ foE c day = 4 ∧ foY c day = 0 ∧ foN c day = 0) ∨ (calB c = false ∧ foE c day = 1 ∧ foY c day = 0 ∧ foN c day = 0) := by
  rcases Bool.eq_false_or_eq_true (calB c) with h | h
  · rcases Bool.eq_false_or_eq_true (isB day) with hd | hd
    · rcases fy_ways c h day hd with hz | ⟨h0, hz⟩
      · exact .inl ⟨h, hd, _, hz, fo_yes h hd hz⟩
      · have f : foE c day = 11 := by unfold foE; rw [if_pos h, if_pos hd, hz, if_neg (by simp)]
        exact .inr (.inl ⟨h, hd, hz, f, by unfold foY; rw [if_neg (by omega)], by unfold foN; rw [if_neg (by omega)]⟩)
    · have f : foE c day = 4 := by unfold foE; rw [if_pos h, if_neg (by simp [hd])]
      exact .inr (.inr (.inl ⟨h, hd, f, by unfold foY; rw [if_neg (by omega)], by unfold foN; rw [if_neg (by omega)]⟩))
  · have f : foE c day = 1 := by unfold foE; rw [if_neg (by simp [h])]
    exact .inr (.inr (.inr ⟨h, f, by unfold foY; rw [if_neg (by omega)], by unfold foN; rw [if_neg (by omega)]⟩))
end Go.Proofs.Yteppoghpfcmhhaa
