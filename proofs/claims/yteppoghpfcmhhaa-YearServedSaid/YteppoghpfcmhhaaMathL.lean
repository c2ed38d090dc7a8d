/- What the statements on years ask, in plain numbers. -/
import Derived.Test.YteppoghpfcmhhaaYearE
namespace Go.Proofs.Yteppoghpfcmhhaa
set_option linter.unusedVariables false
set_option linter.unusedSimpArgs false
open Go Go.RowKit
theorem fo_none {c : CalI} (h : calB c = true) {day : Int} (hno : ∀ z, fyOk c day z = false) : (foE c day = 11 ∨ foE c day = 4) ∧ foY c day = 0 ∧ foN c day = 0 := by
  rcases fo_ways c day with ⟨_, _, z, hz, _⟩ | ⟨_, _, _, e1, e2, e3⟩ | ⟨_, _, e1, e2, e3⟩ | ⟨h', _⟩
  · rw [hno z] at hz; cases hz
  · exact ⟨.inl e1, e2, e3⟩
  · exact ⟨.inr e1, e2, e3⟩
  · rw [h] at h'; cases h'
theorem isB_end {c : CalI} (h : calB c = true) {y : Int} (h1 : 1600 ≤ y) (h2 : y ≤ 9997) : isB (endN c y) = true := (end_facts c h y h1 h2).1
/-- the day behind a told year's end -/
theorem behind {c : CalI} (h : calB c = true) {y : Int} (h1 : 1600 ≤ y) (h2 : y ≤ 9997) : (y < 9997 ∧ foE c (endN c y + 1) = 0 ∧ foY c (endN c y + 1) = y + 1 ∧ foN c (endN c y + 1) = 1) ∨ (y = 9997 ∧ (foE c (endN c y + 1) = 11 ∨ foE c (endN c y + 1) = 4) ∧ foY c (endN c y + 1) = 0 ∧ foN c (endN c y + 1) = 0) := by
  by_cases hy : y < 9997
  · have m := end_lt c h y (y + 1) h1 (by omega) (by omega)
    have i1 := (isB_iff _).1 (isB_end h h1 h2)
    have i2 := (isB_iff _).1 (isB_end h (y := y + 1) (by omega) (by omega))
    have i : isB (endN c y + 1) = true := (isB_iff _).2 (by generalize endN c y = P at *; generalize endN c (y + 1) = R at *; omega)
    have k : fyOk c (endN c y + 1) (y + 1) = true := by
      rw [fyOk_iff, show y + 1 - 1 = y by omega]
      generalize endN c y = P at *
      generalize endN c (y + 1) = R at *
      omega
    obtain ⟨e1, e2, e3⟩ := fo_yes h i k
    refine .inl ⟨hy, e1, e2, ?_⟩
    rw [e3, show y + 1 - 1 = y by omega]
    generalize endN c y = P at *
    omega
  · obtain rfl : y = 9997 := by omega
    refine .inr ⟨rfl, fo_none h fun z => ?_⟩
    rcases Bool.eq_false_or_eq_true (fyOk c (endN c 9997 + 1) z) with k | k
    · obtain ⟨a1, a2, a3, a4⟩ := (fyOk_iff _ _ _).1 k
      have m := end_mono c h z 9997 (by omega) (by omega) a2
      generalize endN c z = P at *
      generalize endN c 9997 = R at *
      omega
    · exact k
/-- a told year's end, and its first day -/
theorem at_end {c : CalI} (h : calB c = true) {y : Int} (h1 : 1601 ≤ y) (h2 : y ≤ 9997) : foE c (endN c y) = 0 ∧ foY c (endN c y) = y := by
  have m := end_lt c h (y - 1) y (by omega) (by omega) (by omega)
  obtain ⟨e1, e2, _⟩ := fo_yes h (isB_end h (by omega) h2) (show fyOk c (endN c y) y = true from (fyOk_iff _ _ _).2 ⟨h1, h2, m, Int.le_refl _⟩)
  exact ⟨e1, e2⟩
theorem at_low {c : CalI} (h : calB c = true) : (foE c (endN c 1600) = 11 ∨ foE c (endN c 1600) = 4) ∧ foY c (endN c 1600) = 0 := by
  have n := fo_none h (day := endN c 1600) fun z => by
    rcases Bool.eq_false_or_eq_true (fyOk c (endN c 1600) z) with k | k
    · obtain ⟨a1, a2, a3, a4⟩ := (fyOk_iff _ _ _).1 k
      have m := end_mono c h 1600 (z - 1) (by omega) (by omega) (by omega)
      generalize endN c (z - 1) = P at *
      generalize endN c 1600 = R at *
      omega
    · exact k
  exact ⟨n.1, n.2.1⟩
/-- years cover what lies between -/
theorem cover {c : CalI} (h : calB c = true) (lo : Int) (h1 : 1601 ≤ lo) : ∀ k : Nat, lo + k ≤ 9997 → ∀ day, endN c (lo - 1) < day → day ≤ endN c (lo + k) → ∃ z, lo ≤ z ∧ z ≤ lo + k ∧ fyOk c day z = true := by
  intro k
  induction k with
  | zero => intro hk day a b; exact ⟨lo, by omega, by omega, (fyOk_iff _ _ _).2 ⟨h1, by omega, a, by simpa using b⟩⟩
  | succ k ih =>
    intro hk day a b
    by_cases hd : day ≤ endN c (lo + k)
    · obtain ⟨z, z1, z2, z3⟩ := ih (by omega) day a hd
      exact ⟨z, z1, by omega, z3⟩
    · refine ⟨lo + (k + 1 : Nat), by omega, by omega, (fyOk_iff _ _ _).2 ⟨by omega, hk, ?_, b⟩⟩
      rw [show lo + ((k + 1 : Nat) : Int) - 1 = lo + k by omega]; omega
/-- what is served -/
theorem served_in {c : CalI} (h : calB c = true) {day z : Int} (hz : fyOk c day z = true) : (c.first ≤ z ↔ boA c ≤ day) ∧ (z ≤ c.last ↔ day ≤ boB c) := by
  obtain ⟨s1, s2, s3, _⟩ := serve_bd h
  obtain ⟨a1, a2, a3, a4⟩ := (fyOk_iff _ _ _).1 hz
  rw [show boA c = endN c (c.first - 1) + 1 from if_pos h, show boB c = endN c c.last from if_pos h]
  constructor
  · constructor
    · intro hh
      have m := end_mono c h (c.first - 1) (z - 1) (by omega) (by omega) (by omega)
      generalize endN c (z - 1) = P at *
      generalize endN c (c.first - 1) = R at *
      omega
    · intro hh
      refine Classical.byContradiction fun hn => ?_
      have m := end_mono c h z (c.first - 1) (by omega) (by omega) (by omega)
      generalize endN c z = P at *
      generalize endN c (c.first - 1) = R at *
      omega
  · constructor
    · intro hh
      have m := end_mono c h z c.last (by omega) (by omega) hh
      generalize endN c z = P at *
      generalize endN c c.last = R at *
      omega
    · intro hh
      refine Classical.byContradiction fun hn => ?_
      have m := end_mono c h c.last (z - 1) (by omega) (by omega) (by omega)
      generalize endN c (z - 1) = P at *
      generalize endN c c.last = R at *
      omega
theorem served_no {c : CalI} (h : calB c = true) {day : Int} (hno : ∀ z, fyOk c day z = false) : ¬ (boA c ≤ day ∧ day ≤ boB c) := by
  intro ⟨b1, b2⟩
  obtain ⟨s1, s2, s3, _⟩ := serve_bd h
  rw [show boA c = endN c (c.first - 1) + 1 from if_pos h] at b1
  rw [show boB c = endN c c.last from if_pos h] at b2
  obtain ⟨z, _, _, k⟩ := cover h c.first (by omega) (c.last - c.first).toNat (by omega) day (by omega) (by rw [show c.first + ((c.last - c.first).toNat : Int) = c.last by omega]; exact b2)
  rw [hno z] at k; cases k
theorem bo_bd {c : CalI} (h : calB c = true) : 0 ≤ boA c ∧ boA c ≤ 3068037 ∧ 0 ≤ boB c ∧ boB c < 3068037 ∧ 364 * (c.last - c.first + 1) ≤ boB c - boA c + 1 ∧ boB c - boA c + 1 ≤ 371 * (c.last - c.first + 1) := by
  obtain ⟨s1, s2, s3, _⟩ := serve_bd h
  have i1 := (isB_iff _).1 (isB_end h (y := c.first - 1) (by omega) (by omega))
  have i2 := (isB_iff _).1 (isB_end h (y := c.last) (by omega) (by omega))
  have m := end_mono c h (c.first - 1) c.last (by omega) (by omega) (by omega)
  rw [show boA c = endN c (c.first - 1) + 1 from if_pos h, show boB c = endN c c.last from if_pos h]
  generalize endN c (c.first - 1) = P at *
  generalize endN c c.last = R at *
  omega
theorem fo_date {c : CalI} (h : calB c = true) {day : Int} : (foE c day = 4 ∧ (day < 0 ∨ (0 ≤ day ∧ 3068037 ≤ day))) ∨ (foE c day ≠ 4 ∧ 0 ≤ day ∧ day < 3068037) := by
  rcases fo_ways c day with ⟨_, i, z, hz, e1, _⟩ | ⟨_, i, _, e1, e2, e3⟩ | ⟨_, i, e1, e2, e3⟩ | ⟨h', _⟩
  · have := (isB_iff _).1 i; exact .inr ⟨by omega, this.1, this.2⟩
  · have := (isB_iff _).1 i; exact .inr ⟨by omega, this.1, this.2⟩
  · have := mt (isB_iff day).2 (by simp [i]); exact .inl ⟨e1, by omega⟩
  · rw [h] at h'; cases h'
end Go.Proofs.Yteppoghpfcmhhaa
