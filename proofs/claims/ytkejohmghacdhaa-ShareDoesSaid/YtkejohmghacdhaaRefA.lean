/- Contracts of the reference's chapter 1. -/
import Derived.Test.YtkejohmghacdhaaGcdA
import Derived.Deep.QuietTactic
namespace Go.Proofs.Ytkejohmghacdhaa
set_option linter.unusedVariables false
set_option linter.unusedSimpArgs false
open Go.RowKit
theorem ret_over {v : Int} (h : ¬ In v) : Ending.returned (.tuple #[.int .i64 0, .int .i64 2]) = .returned (.tuple #[.int .i64 (capN v), .int .i64 (errN v)]) := ret_ii (capN_over (fitB_not h)).symm (errN_over (fitB_not h)).symm
theorem ret_fit {r v : Int} (h : In v) (e : r = v) : Ending.returned (.tuple #[.int .i64 r, .int .i64 0]) = .returned (.tuple #[.int .i64 (capN v), .int .i64 (errN v)]) := ret_ii (by rw [capN_fit (fitB_of h), e]) (errN_fit (fitB_of h)).symm
set_option maxHeartbeats 400000 in
theorem r1size (a : Int) (w : World) (ha : In a) :
    Calls Try.prog 42 #[.int .i64 a] w fun e w' => e = .returned (.int .u64 (absI a)) ∧ w = w' := by
  have T := Lib.hid (show absI a = (a.natAbs : Int) from rfl)
  unfold In at ha
  obtain ⟨h1, h2⟩ := ha
  by_cases h : a < 0
  · have e : IntKind.u64.wrap (-(a + 1)) = -(a + 1) := by rw [IntKind.wrap_u64]; omega
    go_enter Try.func42, Try.ntmps42
    go_wp2
    go_ret
    exact ⟨ret_u (by rw [T.out]; omega), rfl⟩
  · go_enter Try.func42, Try.ntmps42
    go_wp2
    go_ret
    exact ⟨ret_u (by rw [T.out]; omega), rfl⟩
set_option maxHeartbeats 1000000 in
theorem r1signed (n : Int) (b : Bool) (w : World) (hn : InU n) :
    Calls Try.prog 92 #[.int .u64 n, .bool b] w fun e w' => e = .returned (.tuple #[.int .i64 (capN (sgn b n)), .int .i64 (errN (sgn b n))]) ∧ w = w' := by
  unfold InU at hn
  obtain ⟨n0, n1⟩ := hn
  have T := Lib.hid (show ∀ b v, sgn b v = if b = true then -v else v from fun _ _ => rfl)
  by_cases h1 : n = 9223372036854775808
  · subst h1
    cases b
    · go_enter Try.func92, Try.ntmps92
      go_wp2
      go_ret2
      exact ⟨ret_over (by rw [sgn_false]; unfold In; omega), rfl⟩
    · go_enter Try.func92, Try.ntmps92
      go_wp2
      go_ret2
      exact ⟨ret_fit (by rw [sgn_true]; unfold In; omega) (by rw [sgn_true]), rfl⟩
  · have h2 : (n == 9223372036854775808) = false := by simpa using h1
    by_cases h3 : 9223372036854775807 < n
    · cases b
      all_goals
        go_enter Try.func92, Try.ntmps92
        go_wp2
        go_ret2
        exact ⟨ret_over (by first | rw [sgn_false] | rw [sgn_true]
                            unfold In; omega), rfl⟩
    · have h4 : n ≤ 9223372036854775807 := by omega
      cases b
      all_goals
        go_enter Try.func92, Try.ntmps92
        go_wp2
        go_ret2
        exact ⟨ret_fit (by first | rw [sgn_false] | rw [sgn_true]
                           unfold In; omega) (by first | rw [sgn_false] | rw [sgn_true]), rfl⟩
theorem gcd_rem {x y : Nat} (h : 0 < y) : Nat.gcd y (x % y) = Nat.gcd x y := by
  rw [Nat.gcd_comm x y, Nat.gcd_rec y x, Nat.gcd_comm]
end Go.Proofs.Ytkejohmghacdhaa
