/- More contracts of the package civil. -/
import Derived.Test.YteppoghpfcmhhaaCivC
namespace Go.Proofs.Yteppoghpfcmhhaa
set_option linter.unusedVariables false
set_option linter.unusedSimpArgs false
open Go.RowKit
/-- a date as a value -/
abbrev dateA (y m d : Int) : Value := .agg #[.int .i64 y, .int .i64 m, .int .i64 d]
theorem chk_facts (y m d : Int) : (thereB y m = false ∧ validB y m d = false ∧ dateE (thereB y m) = 4) ∨ (thereB y m = true ∧ dateE (thereB y m) = 0 ∧ lenV y m = mlen y m ∧ ((d < 1 ∧ validB y m d = false) ∨ (1 ≤ d ∧ mlen y m < d ∧ validB y m d = false) ∨ (1 ≤ d ∧ d ≤ mlen y m ∧ validB y m d = true))) := by
  rcases len_facts y m with ⟨h1, h2⟩ | ⟨h1, h2, h3, h4, _⟩
  · exact .inl ⟨h1, by unfold validB; rw [h1]; rfl, by rw [h1]; rfl⟩
  · refine .inr ⟨h1, by rw [h1]; rfl, h4, ?_⟩
    unfold validB; rw [h1]
    simp only [Bool.true_and, decide_eq_true_eq, decide_eq_false_iff_not]
    omega
set_option maxHeartbeats 1000000 in
theorem check_any (y m d : Int) (w : World) :
    Calls Try.prog 56 #[dateA y m d] w fun e w' => e = .returned (.int .i64 (dateE (validB y m d))) ∧ Below w.heap.size w w' := by
  rcases chk_facts y m d with ⟨h1, h2, h3⟩ | ⟨h1, h3, h4, ⟨h5, h2⟩ | ⟨h5, h6, h2⟩ | ⟨h5, h6, h2⟩⟩
  all_goals
    have H2 := Lib.hid h2
    clear h2
    go_enter Try.func56, Try.ntmps56
    go_wp2_with (go_at_call 27; refine (length_any _ _ _).mono ?_; rintro e w1 ⟨rfl, hb1⟩; obtain ⟨hc1, hf1⟩ := bcell hb1; have hz1 := bsize hb1)
    go_ret
    exact ⟨ret_i (by rw [H2.out]; rfl), (by repeat (with_reducible (first | exact Below.refl _ _ | assumption | refine bl_alloc ?_ _ | refine bl_drewN ?_ _ | refine bl_drew ?_ | refine bl_call ?_ (by assumption) | (refine bl_setCell ?_ _ (Nat.le_refl _)) | (refine bl_setCell ?_ _ (by simp)))))⟩
set_option maxHeartbeats 400000 in
theorem is_any (n : Int) (w : World) :
    Calls Try.prog 52 #[.int .i64 n] w fun e w' => e = .returned (.bool (isB n)) ∧ w = w' := by
  have T := Lib.hid (show isB n = decide (0 ≤ n ∧ n < 3068037) from rfl)
  by_cases h1 : 0 ≤ n
  all_goals
    go_enter Try.func52, Try.ntmps52
    go_wp2
    go_ret
    exact ⟨ret_b (by rw [T.out]; first | (simp [h1]; done) | (simp [h1]; omega)), rfl⟩
set_option maxHeartbeats 400000 in
theorem weekday_any (n : Int) (w : World) :
    Calls Try.prog 25 #[.int .i64 n] w fun e w' => e = .returned (.tuple #[.int .i64 (wdI n), .int .i64 (dateE (isB n))]) ∧ w = w' := by
  by_cases h : isB n = true
  · have h' := (isB_iff n).1 h
    have T := Lib.hid (show wdI n = (n + 5) % 7 + 1 by unfold wdI; rw [if_pos h])
    obtain ⟨h1, h2⟩ := h'
    go_enter Try.func25, Try.ntmps25
    go_wp2_with (go_at_call 52; refine (is_any _ _).mono ?_; rintro e w' ⟨rfl, rfl⟩)
    go_ret2
    exact ⟨ret_ii (by rw [T.out]) (by rw [h]; rfl), rfl⟩
  · have h' : isB n = false := by simpa using h
    have T := Lib.hid (show wdI n = 0 by unfold wdI; rw [if_neg h])
    go_enter Try.func25, Try.ntmps25
    go_wp2_with (go_at_call 52; refine (is_any _ _).mono ?_; rintro e w' ⟨rfl, rfl⟩)
    go_ret2
    exact ⟨ret_ii T.out.symm (by rw [h']; rfl), rfl⟩
set_option maxHeartbeats 400000 in
theorem add_any (n k : Int) (w : World) (hk : In k) :
    Calls Try.prog 59 #[.int .i64 n, .int .i64 k] w fun e w' => e = .returned (.tuple #[.int .i64 (addI n k), .int .i64 (dateE (addOk n k))]) ∧ w = w' := by
  unfold In at hk
  have T := Lib.hid (show addOk n k = decide (0 ≤ n ∧ n < 3068037 ∧ -n ≤ k ∧ k < 3068037 - n) from rfl)
  have no : ∀ (h : addOk n k = false), Ending.returned (.tuple #[.int .i64 0, .int .i64 4]) = .returned (.tuple #[.int .i64 (addI n k), .int .i64 (dateE (addOk n k))]) := fun h => by unfold addI; rw [h]; rfl
  have yes : ∀ (h : addOk n k = true), Ending.returned (.tuple #[.int .i64 (n + k), .int .i64 0]) = .returned (.tuple #[.int .i64 (addI n k), .int .i64 (dateE (addOk n k))]) := fun h => by unfold addI; rw [h]; rfl
  have NO := Lib.hid no
  have YES := Lib.hid yes
  clear no yes
  by_cases h : isB n = true
  · obtain ⟨h1, h2⟩ := (isB_iff n).1 h
    by_cases h3 : k < -n
    · go_enter Try.func59, Try.ntmps59
      go_wp2_with (go_at_call 52; refine (is_any _ _).mono ?_; rintro e w' ⟨rfl, rfl⟩)
      go_ret2
      exact ⟨NO.out (by rw [T.out]; simp; omega), rfl⟩
    by_cases h4 : 3068037 - n ≤ k
    · go_enter Try.func59, Try.ntmps59
      go_wp2_with (go_at_call 52; refine (is_any _ _).mono ?_; rintro e w' ⟨rfl, rfl⟩)
      go_ret2
      exact ⟨NO.out (by rw [T.out]; simp; omega), rfl⟩
    · go_enter Try.func59, Try.ntmps59
      go_wp2_with (go_at_call 52; refine (is_any _ _).mono ?_; rintro e w' ⟨rfl, rfl⟩)
      go_ret2
      exact ⟨YES.out (by rw [T.out]; simp; omega), rfl⟩
  · have h' : isB n = false := by simpa using h
    have h1 := mt (isB_iff n).2 h
    have NN := Lib.hid h1
    clear h1 h
    go_enter Try.func59, Try.ntmps59
    go_wp2_with (go_at_call 52; refine (is_any _ _).mono ?_; rintro e w' ⟨rfl, rfl⟩)
    go_ret2
    exact ⟨NO.out (by have := NN.out; rw [T.out]; simp; omega), rfl⟩
end Go.Proofs.Yteppoghpfcmhhaa
