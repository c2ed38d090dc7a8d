/- The civil calendar in plain numbers: no program in sight. -/
import Derived.Test.YteppoghpfcmhhaaMathA
namespace Go.Proofs.Yteppoghpfcmhhaa
set_option linter.unusedVariables false
set_option linter.unusedSimpArgs false
open Go Go.RowKit
def thereB (y m : Int) : Bool := decide (1600 ≤ y ∧ y ≤ 9999 ∧ 1 ≤ m ∧ m ≤ 12)
def lpB (y : Int) : Bool := decide (1600 ≤ y ∧ y ≤ 9999 ∧ (y % 400 = 0 ∨ (y % 4 = 0 ∧ ¬ y % 100 = 0)))
def lpI (y : Int) : Int := if lpB y = true then 1 else 0
/-- how long a month is -/
def mlen (y m : Int) : Int := if m = 2 then 28 + lpI y else if m = 4 ∨ m = 6 ∨ m = 9 ∨ m = 11 then 30 else 31
/-- how many days are ahead of a month -/
def tabI (m : Int) : Int := if m ≤ 1 then 0 else if m = 2 then 31 else if m = 3 then 59 else if m = 4 then 90 else if m = 5 then 120 else if m = 6 then 151 else if m = 7 then 181 else if m = 8 then 212 else if m = 9 then 243 else if m = 10 then 273 else if m = 11 then 304 else if m = 12 then 334 else 365
def aheadI (y m : Int) : Int := tabI m + if 2 < m then lpI y else 0
def yearsI (y : Int) : Int := (y - 1600) * 365 + ((y - 1600 + 3) / 4 - (y - 1600 + 99) / 100 + (y - 1600 + 399) / 400)
def validB (y m d : Int) : Bool := thereB y m && decide (1 ≤ d ∧ d ≤ mlen y m)
def dayNo (y m d : Int) : Int := yearsI y + aheadI y m + d - 1
def lenV (y m : Int) : Int := if thereB y m = true then mlen y m else 0
def dateE (b : Bool) : Int := if b = true then 0 else 4
def isB (n : Int) : Bool := decide (0 ≤ n ∧ n < 3068037)

theorem lpI_01 (y : Int) : 0 ≤ lpI y ∧ lpI y ≤ 1 := by unfold lpI; split <;> omega
theorem mlen_bd (y m : Int) : 28 ≤ mlen y m ∧ mlen y m ≤ 31 := by have := lpI_01 y; unfold mlen; repeat (first | omega | split)
theorem tab_cases (m : Int) (h1 : 1 ≤ m) (h2 : m ≤ 13) : (m = 1 ∧ tabI m = 0) ∨ (m = 2 ∧ tabI m = 31) ∨ (m = 3 ∧ tabI m = 59) ∨ (m = 4 ∧ tabI m = 90) ∨ (m = 5 ∧ tabI m = 120) ∨ (m = 6 ∧ tabI m = 151) ∨ (m = 7 ∧ tabI m = 181) ∨ (m = 8 ∧ tabI m = 212) ∨ (m = 9 ∧ tabI m = 243) ∨ (m = 10 ∧ tabI m = 273) ∨ (m = 11 ∧ tabI m = 304) ∨ (m = 12 ∧ tabI m = 334) ∨ (m = 13 ∧ tabI m = 365) := by
  have : m = 1 ∨ m = 2 ∨ m = 3 ∨ m = 4 ∨ m = 5 ∨ m = 6 ∨ m = 7 ∨ m = 8 ∨ m = 9 ∨ m = 10 ∨ m = 11 ∨ m = 12 ∨ m = 13 := by omega
  rcases this with h | h | h | h | h | h | h | h | h | h | h | h | h <;> subst h <;> decide
theorem ahead_succ (y m : Int) (h1 : 1 ≤ m) (h2 : m ≤ 12) : aheadI y (m + 1) = aheadI y m + mlen y m := by
  have : m = 1 ∨ m = 2 ∨ m = 3 ∨ m = 4 ∨ m = 5 ∨ m = 6 ∨ m = 7 ∨ m = 8 ∨ m = 9 ∨ m = 10 ∨ m = 11 ∨ m = 12 := by omega
  unfold aheadI mlen
  generalize lpI y = l
  rcases this with h | h | h | h | h | h | h | h | h | h | h | h <;> subst h <;> simp [tabI] <;> omega
theorem ahead_one (y : Int) : aheadI y 1 = 0 := by simp [aheadI, tabI]
theorem ahead_13 (y : Int) : aheadI y 13 = 365 + lpI y := by simp [aheadI, tabI]
theorem ahead_bd (y m : Int) (h1 : 1 ≤ m) (h2 : m ≤ 13) : 0 ≤ aheadI y m ∧ aheadI y m ≤ 365 + lpI y := by
  have := tab_cases m h1 h2
  have := lpI_01 y
  unfold aheadI; split <;> omega
theorem ahead_mono (y m k : Int) (h1 : 1 ≤ m) (h : m ≤ k) (h2 : k ≤ 13) : aheadI y m ≤ aheadI y k := by
  have := tab_cases m h1 (by omega)
  have := tab_cases k (by omega) h2
  have := lpI_01 y
  unfold aheadI; split <;> split <;> omega
theorem lpI_of (y : Int) (h1 : 1600 ≤ y) (h2 : y ≤ 9999) : (lpI y = 1 ∧ (y % 400 = 0 ∨ (y % 4 = 0 ∧ ¬ y % 100 = 0))) ∨ (lpI y = 0 ∧ ¬ (y % 400 = 0 ∨ (y % 4 = 0 ∧ ¬ y % 100 = 0))) := by
  unfold lpI lpB
  by_cases h : (y % 400 = 0 ∨ (y % 4 = 0 ∧ ¬ y % 100 = 0))
  · exact .inl ⟨by rw [if_pos (by simp [h1, h2, h])], h⟩
  · exact .inr ⟨by rw [if_neg (by simp [h])], h⟩
theorem years_succ (y : Int) (h1 : 1600 ≤ y) (h2 : y ≤ 9999) : yearsI (y + 1) = yearsI y + 365 + lpI y := by
  have := lpI_of y h1 h2
  unfold yearsI
  omega
theorem years_bd (y : Int) (h1 : 1600 ≤ y) (h2 : y ≤ 10000) : 0 ≤ yearsI y ∧ yearsI y ≤ 3068037 := by unfold yearsI; omega
theorem years_mono (y z : Int) (h1 : 1600 ≤ y) (h : y ≤ z) : yearsI y ≤ yearsI z := by unfold yearsI; omega
theorem validB_iff (y m d : Int) : validB y m d = true ↔ 1600 ≤ y ∧ y ≤ 9999 ∧ 1 ≤ m ∧ m ≤ 12 ∧ 1 ≤ d ∧ d ≤ mlen y m := by
  unfold validB thereB; simp only [Bool.and_eq_true, decide_eq_true_eq]; omega
theorem day_in_year (y m d : Int) (h : validB y m d = true) : yearsI y ≤ dayNo y m d ∧ dayNo y m d < yearsI (y + 1) := by
  rw [validB_iff] at h
  obtain ⟨h1, h2, h3, h4, h5, h6⟩ := h
  have a1 := ahead_succ y m h3 h4
  have a2 := ahead_mono y (m + 1) 13 (by omega) (by omega) (by omega)
  have a3 := ahead_bd y m h3 (by omega)
  rw [ahead_13] at a2
  rw [years_succ y h1 h2]
  unfold dayNo
  omega
theorem dayNo_bd (y m d : Int) (h : validB y m d = true) : 0 ≤ dayNo y m d ∧ dayNo y m d < 3068037 := by
  have h0 := day_in_year y m d h
  rw [validB_iff] at h
  have b1 := years_bd y (by omega) (by omega)
  have b2 := years_bd (y + 1) (by omega) (by omega)
  omega
/-- one day is ahead of another one just if its year, month or day is -/
theorem dayNo_lt (y m d z k e : Int) (h : validB y m d = true) (h' : validB z k e = true) (hl : y < z ∨ (y = z ∧ (m < k ∨ (m = k ∧ d < e)))) : dayNo y m d < dayNo z k e := by
  have i1 := day_in_year y m d h
  have i2 := day_in_year z k e h'
  rw [validB_iff] at h h'
  obtain ⟨h1, h2, h3, h4, h5, h6⟩ := h
  obtain ⟨g1, g2, g3, g4, g5, g6⟩ := h'
  rcases hl with hl | ⟨rfl, hl | ⟨rfl, hl⟩⟩
  · have := years_mono (y + 1) z (by omega) (by omega)
    omega
  · have a1 := ahead_succ y m h3 h4
    have a2 := ahead_mono y (m + 1) k (by omega) (by omega) (by omega)
    unfold dayNo
    omega
  · unfold dayNo
    omega
theorem dayNo_inj (y m d z k e : Int) (h : validB y m d = true) (h' : validB z k e = true) (he : dayNo y m d = dayNo z k e) : y = z ∧ m = k ∧ d = e := by
  have l1 := dayNo_lt y m d z k e h h'
  have l2 := dayNo_lt z k e y m d h' h
  by_cases c1 : y < z ∨ (y = z ∧ (m < k ∨ (m = k ∧ d < e)))
  · have := l1 c1; omega
  · by_cases c2 : z < y ∨ (z = y ∧ (k < m ∨ (k = m ∧ e < d)))
    · have := l2 c2; omega
    · omega
/-- a number's day -/
noncomputable def ymd (n : Int) : Int × Int × Int := @Classical.epsilon (Int × Int × Int) ⟨(0, 0, 0)⟩ fun t => validB t.1 t.2.1 t.2.2 = true ∧ dayNo t.1 t.2.1 t.2.2 = n
noncomputable def ofY (n : Int) : Int := if isB n = true then (ymd n).1 else 0
noncomputable def ofM (n : Int) : Int := if isB n = true then (ymd n).2.1 else 0
noncomputable def ofD (n : Int) : Int := if isB n = true then (ymd n).2.2 else 0
theorem isB_iff (n : Int) : isB n = true ↔ 0 ≤ n ∧ n < 3068037 := by unfold isB; simp
theorem of_is (y m d n : Int) (h : validB y m d = true) (hn : dayNo y m d = n) : ofY n = y ∧ ofM n = m ∧ ofD n = d := by
  have hb := dayNo_bd y m d h
  have hi : isB n = true := by rw [isB_iff]; omega
  have hs : validB (ymd n).1 (ymd n).2.1 (ymd n).2.2 = true ∧ dayNo (ymd n).1 (ymd n).2.1 (ymd n).2.2 = n := Classical.epsilon_spec (p := fun t : Int × Int × Int => validB t.1 t.2.1 t.2.2 = true ∧ dayNo t.1 t.2.1 t.2.2 = n) ⟨(y, m, d), h, hn⟩
  have := dayNo_inj _ _ _ _ _ _ hs.1 h (by rw [hs.2, hn])
  unfold ofY ofM ofD
  rw [if_pos hi, if_pos hi, if_pos hi]
  exact this
theorem of_none (n : Int) (h : isB n = false) : ofY n = 0 ∧ ofM n = 0 ∧ ofD n = 0 := by
  unfold ofY ofM ofD
  rw [if_neg (by simp [h]), if_neg (by simp [h]), if_neg (by simp [h])]
  exact ⟨rfl, rfl, rfl⟩
/-- there is a year -/
theorem year_of (n : Int) (h : isB n = true) : ∃ y, 1600 ≤ y ∧ y ≤ 9999 ∧ yearsI y ≤ n ∧ n < yearsI (y + 1) := by
  rw [isB_iff] at h
  have key : ∀ k : Nat, (k : Int) ≤ 8399 → n < yearsI (1600 + k + 1) → ∃ y, 1600 ≤ y ∧ y ≤ 9999 ∧ yearsI y ≤ n ∧ n < yearsI (y + 1) := by
    intro k
    induction k with
    | zero => intro _ h1; exact ⟨1600, by omega, by omega, by unfold yearsI; omega, by simpa using h1⟩
    | succ k ih =>
      intro hk h1
      by_cases h2 : n < yearsI (1600 + k + 1)
      · exact ih (by omega) h2
      · exact ⟨1600 + k + 1, by omega, by omega, by omega, by rw [show (1600 + ((k + 1 : Nat) : Int) + 1) = 1600 + (k : Int) + 1 + 1 by omega] at h1; exact h1⟩
  exact key 8399 (by omega) (by unfold yearsI; omega)
theorem month_of (y r : Int) (h0 : 0 ≤ r) (h : r < 365 + lpI y) : ∃ m, 1 ≤ m ∧ m ≤ 12 ∧ aheadI y m ≤ r ∧ r < aheadI y (m + 1) := by
  have key : ∀ k : Nat, k ≤ 11 → r < aheadI y (1 + k + 1) → ∃ m, 1 ≤ m ∧ m ≤ 12 ∧ aheadI y m ≤ r ∧ r < aheadI y (m + 1) := by
    intro k
    induction k with
    | zero => intro _ h1; exact ⟨1, by omega, by omega, by rw [ahead_one]; exact h0, by simpa using h1⟩
    | succ k ih =>
      intro hk h1
      by_cases h2 : r < aheadI y (1 + k + 1)
      · exact ih (by omega) h2
      · exact ⟨1 + k + 1, by omega, by omega, by omega, by rw [show (1 + ((k + 1 : Nat) : Int) + 1) = 1 + (k : Int) + 1 + 1 by omega] at h1; exact h1⟩
  exact key 11 (by omega) (by rw [show (1 + ((11 : Nat) : Int) + 1) = 13 by decide, ahead_13]; exact h)
theorem of_ok (n : Int) (h : isB n = true) : validB (ofY n) (ofM n) (ofD n) = true ∧ dayNo (ofY n) (ofM n) (ofD n) = n := by
  obtain ⟨y, h1, h2, h3, h4⟩ := year_of n h
  rw [years_succ y h1 h2] at h4
  obtain ⟨m, m1, m2, m3, m4⟩ := month_of y (n - yearsI y) (by omega) (by omega)
  rw [ahead_succ y m m1 m2] at m4
  have hv : validB y m (n - yearsI y - aheadI y m + 1) = true := by rw [validB_iff]; omega
  have hd : dayNo y m (n - yearsI y - aheadI y m + 1) = n := by unfold dayNo; omega
  obtain ⟨e1, e2, e3⟩ := of_is _ _ _ _ hv hd
  rw [e1, e2, e3]
  exact ⟨hv, hd⟩
def wdI (n : Int) : Int := if isB n = true then (n + 5) % 7 + 1 else 0
def addOk (n k : Int) : Bool := decide (0 ≤ n ∧ n < 3068037 ∧ -n ≤ k ∧ k < 3068037 - n)
def addI (n k : Int) : Int := if addOk n k = true then n + k else 0
def dayV (y m d : Int) : Int := if validB y m d = true then dayNo y m d else 0
end Go.Proofs.Yteppoghpfcmhhaa
