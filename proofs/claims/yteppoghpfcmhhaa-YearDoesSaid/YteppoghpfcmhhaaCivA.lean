/- Contracts of the package civil. -/
import Derived.Test.YteppoghpfcmhhaaKit
import Derived.Test.YteppoghpfcmhhaaMathC
namespace Go.Proofs.Yteppoghpfcmhhaa
set_option linter.unusedVariables false
set_option linter.unusedSimpArgs false
open Go.RowKit
set_option maxHeartbeats 400000 in
theorem there_any (y m : Int) (w : World) :
    Calls Try.prog 55 #[.int .i64 y, .int .i64 m] w fun e w' => e = .returned (.bool (thereB y m)) ∧ w = w' := by
  have T := Lib.hid (show thereB y m = decide (1600 ≤ y ∧ y ≤ 9999 ∧ 1 ≤ m ∧ m ≤ 12) from rfl)
  by_cases h1 : 1600 ≤ y <;> by_cases h2 : y ≤ 9999 <;> by_cases h3 : 1 ≤ m
  all_goals
    go_enter Try.func55, Try.ntmps55
    go_wp2
    go_ret
    exact ⟨ret_b (by rw [T.out]; first | (simp [h1, h2, h3]; done) | (simp [h1, h2, h3]; omega)), rfl⟩
theorem lp_facts (y : Int) : (thereB y 1 = false ∧ lpB y = false) ∨ (thereB y 1 = true ∧ 1600 ≤ y ∧ y ≤ 9999 ∧ lpB y = (decide (y % 400 = 0) || (decide (y % 4 = 0) && !decide (y % 100 = 0)))) := by
  unfold thereB lpB
  by_cases h : 1600 ≤ y ∧ y ≤ 9999
  · refine .inr ⟨by simp [h], h.1, h.2, ?_⟩
    simp [h.1, h.2]
  · refine .inl ⟨by simp; omega, by simp; omega⟩
set_option maxHeartbeats 400000 in
theorem leap_any (y : Int) (w : World) :
    Calls Try.prog 75 #[.int .i64 y] w fun e w' => e = .returned (.bool (lpB y)) ∧ w = w' := by
  rcases lp_facts y with ⟨h1, h2⟩ | ⟨h1, h2, h3, h4⟩
  · go_enter Try.func75, Try.ntmps75
    go_wp2_with (go_at_call 55; refine (there_any _ _ _).mono ?_; rintro e w' ⟨rfl, rfl⟩)
    go_ret
    exact ⟨ret_b h2.symm, rfl⟩
  · have H4 := Lib.hid h4
    clear h4
    go_enter Try.func75, Try.ntmps75
    go_wp2_with (go_at_call 55; refine (there_any _ _ _).mono ?_; rintro e w' ⟨rfl, rfl⟩)
    all_goals
      go_ret
      exact ⟨ret_b (by rw [H4.out]; first | (simp [*]; done) | (by_cases h100 : y % 100 = 0 <;> simp [*])), rfl⟩
set_option maxHeartbeats 400000 in
theorem years_any (y : Int) (w : World) (h1 : 1600 ≤ y) (h2 : y ≤ 10000) :
    Calls Try.prog 53 #[.int .i64 y] w fun e w' => e = .returned (.int .i64 (yearsI y)) ∧ w = w' := by
  have T := Lib.hid (show yearsI y = (y - 1600) * 365 + ((y - 1600 + 3) / 4 - (y - 1600 + 99) / 100 + (y - 1600 + 399) / 400) from rfl)
  go_enter Try.func53, Try.ntmps53
  go_wp2
  go_ret
  exact ⟨ret_i (by rw [T.out]), rfl⟩
end Go.Proofs.Yteppoghpfcmhhaa
