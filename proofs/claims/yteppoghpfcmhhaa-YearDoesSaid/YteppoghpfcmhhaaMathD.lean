/- The first guess of a year; more on days. -/
import Derived.Test.YteppoghpfcmhhaaMathC
namespace Go.Proofs.Yteppoghpfcmhhaa
set_option linter.unusedVariables false
set_option linter.unusedSimpArgs false
open Go Go.RowKit
theorem guess_core (a b c d r1 r2 r3 r4 : Int) (h1 : 0 ≤ r1 ∧ r1 < 146097) (h2 : r1 = 36524 * b + r2) (h2' : 0 ≤ r2 ∧ r2 < 36524) (h3 : r2 = 1461 * c + r3) (h3' : 0 ≤ r3 ∧ r3 < 1461) (h4 : r3 = 365 * d + r4) (h4' : 0 ≤ r4 ∧ r4 < 365) (n : Int) (hn : n = 146097 * a + r1) :
    n < yearsI (1600 + a * 400 + b * 100 + c * 4 + d + 1) := by
  have b0 : 0 ≤ b ∧ b ≤ 4 := by omega
  have c0 : 0 ≤ c ∧ c ≤ 24 := by omega
  have d0 : 0 ≤ d ∧ d ≤ 4 := by omega
  have e1 : (1600 + a * 400 + b * 100 + c * 4 + d + 1 - 1600 + 3) / 4 = 100 * a + 25 * b + c + (d + 4) / 4 := by clear hn h1 h2 h2' h3 h3' h4 h4'; omega
  have e2 : (1600 + a * 400 + b * 100 + c * 4 + d + 1 - 1600 + 99) / 100 = 4 * a + b + (4 * c + d + 100) / 100 := by clear hn h1 h2 h2' h3 h3' h4 h4'; omega
  have e3 : (1600 + a * 400 + b * 100 + c * 4 + d + 1 - 1600 + 399) / 400 = a + (100 * b + 4 * c + d + 400) / 400 := by clear hn h1 h2 h2' h3 h3' h4 h4'; omega
  unfold yearsI
  rw [e1, e2, e3]
  clear e1 e2 e3
  have e4 : 1 ≤ (100 * b + 4 * c + d + 400) / 400 := by clear hn h1 h2 h2' h3 h3' h4 h4'; omega
  have e5 : (4 * c + d + 100) / 100 = 1 ∨ (c = 24 ∧ d = 4 ∧ (4 * c + d + 100) / 100 = 2) := by clear hn h1 h2 h2' h3 h3' h4 h4'; omega
  have e6 : 1 ≤ (d + 4) / 4 := by clear hn h1 h2 h2' h3 h3' h4 h4'; omega
  have e7 : d = 4 → (d + 4) / 4 = 2 := by intro h; subst h; decide
  generalize (100 * b + 4 * c + d + 400) / 400 = z1 at *
  generalize (4 * c + d + 100) / 100 = z2 at *
  generalize (d + 4) / 4 = z3 at *
  omega
theorem guess_ok (n : Int) (h0 : 0 ≤ n) (h1 : n < 3068037) : n < yearsI (1600 + n / 146097 * 400 + n % 146097 / 36524 * 100 + n % 146097 % 36524 / 1461 * 4 + n % 146097 % 36524 % 1461 / 365 + 1) := by
  refine guess_core _ _ _ _ (n % 146097) (n % 146097 % 36524) (n % 146097 % 36524 % 1461) (n % 146097 % 36524 % 1461 % 365) ?_ ?_ ?_ ?_ ?_ ?_ ?_ n ?_
  · omega
  · generalize n % 146097 = x; omega
  · generalize n % 146097 = x; omega
  · generalize n % 146097 % 36524 = x; omega
  · generalize n % 146097 % 36524 = x; omega
  · generalize n % 146097 % 36524 % 1461 = x; omega
  · generalize n % 146097 % 36524 % 1461 = x; omega
  · omega
theorem guess_bd (n : Int) (h0 : 0 ≤ n) (h1 : n < 3068037) : 1600 ≤ 1600 + n / 146097 * 400 + n % 146097 / 36524 * 100 + n % 146097 % 36524 / 1461 * 4 + n % 146097 % 36524 % 1461 / 365 ∧ 1600 + n / 146097 * 400 + n % 146097 / 36524 * 100 + n % 146097 % 36524 / 1461 * 4 + n % 146097 % 36524 % 1461 / 365 ≤ 10110 := by
  have a1 : 0 ≤ n / 146097 ∧ n / 146097 ≤ 20 := by omega
  have a2 : 0 ≤ n % 146097 / 36524 ∧ n % 146097 / 36524 ≤ 4 := by omega
  have a3 : 0 ≤ n % 146097 % 36524 / 1461 ∧ n % 146097 % 36524 / 1461 ≤ 24 := by generalize n % 146097 = x; omega
  have a4 : 0 ≤ n % 146097 % 36524 % 1461 / 365 ∧ n % 146097 % 36524 % 1461 / 365 ≤ 4 := by generalize n % 146097 % 36524 = x; omega
  generalize n / 146097 = a at *
  generalize n % 146097 / 36524 = b at *
  generalize n % 146097 % 36524 / 1461 = c at *
  generalize n % 146097 % 36524 % 1461 / 365 = d at *
  omega
theorem years_1600 : yearsI 1600 = 0 := by decide
theorem years_10000 : yearsI 10000 = 3068037 := by decide
end Go.Proofs.Yteppoghpfcmhhaa
