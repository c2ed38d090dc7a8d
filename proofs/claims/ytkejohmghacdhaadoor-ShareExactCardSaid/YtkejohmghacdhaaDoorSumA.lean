/- wide.Sum of any slice. -/
import Derived.Test.YtkejohmghacdhaaDoorWideD
import Derived.Test.YtkejohmghacdhaaDoorSl
namespace Go.Proofs.YtkejohmghacdhaaDoor
set_option linter.unusedVariables false
set_option linter.unusedSimpArgs false
open Go.RowKit
theorem getD_mem {xs : List Int} {j : Nat} (h : j < xs.length) : xs.getD j 0 = xs[j] := by simp [List.getD, h]
set_option maxHeartbeats 400000 in
theorem wsum_empty (a : Option Addr) (cap : Nat) (w : World) :
    Calls Tryd.prog 71 #[.slice a 0 cap] w fun e w' => e = .returned (.tuple #[.int .i64 0, .int .i64 0]) ∧ Below w.heap.size w w' := by
  go_enter Tryd.func71, Tryd.ntmps71
  go_wp2
  refine wp_loop_rounds 1 ?_
  rw [rounds_succ]
  go_wp2_with fail
  have c := wfit_any 0
  unfold wideA at c
  rw [hi_zero, lo_zero] at c
  refine (c _ InW_zero).mono ?_
  rintro e w1 ⟨rfl, hb1⟩
  go_wp2
  go_ret2
  exact ⟨ret_ii (by decide) (by decide), bl_call (bl_alloc (Below.refl _ _) _) hb1⟩
theorem wsum_any (xs : List Int) (a : Option Addr) (cap : Nat) (w : World) (hn : xs.length ≤ 9223372036854775807) (hx : ∀ k, k < xs.length → In (xs.getD k 0)) (hs : SlI .i64 w a xs) :
    Calls Tryd.prog 71 #[.slice a xs.length cap] w fun e w' => e = .returned (.tuple #[.int .i64 (capN (sumI xs)), .int .i64 (errN (sumI xs))]) ∧ Below w.heap.size w w' := by
  by_cases h : xs = []
  · subst h
    exact wsum_empty a cap w
  · have hl : 0 < xs.length := by cases xs; exact absurd rfl h; simp
    obtain ⟨b, off, rfl, hb, hc⟩ := hs.at 0 hl
    exact wsum_some xs b off cap w hn hx hb hc
/-- .. at a length that the walk has spelled. -/
theorem wsum_len (xs : List Int) (n : Int) (a : Option Addr) (cap : Nat) (w : World) (hl : xs.length = n.toNat) (hn : xs.length ≤ 9223372036854775807) (hx : ∀ k, k < xs.length → In (xs.getD k 0)) (hs : SlI .i64 w a xs) :
    Calls Tryd.prog 71 #[.slice a n.toNat cap] w fun e w' => e = .returned (.tuple #[.int .i64 (capN (sumI xs)), .int .i64 (errN (sumI xs))]) ∧ Below w.heap.size w w' := by
  rw [← hl]; exact wsum_any xs a cap w hn hx hs
end Go.Proofs.YtkejohmghacdhaaDoor
