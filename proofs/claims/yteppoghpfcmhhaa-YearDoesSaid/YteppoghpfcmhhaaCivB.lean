/- Contracts of the package civil: the table. -/
import Derived.Test.YteppoghpfcmhhaaCivA
namespace Go.Proofs.Yteppoghpfcmhhaa
set_option linter.unusedVariables false
set_option linter.unusedSimpArgs false
open Go.RowKit
theorem ahead_of {y m t : Int} (b : Bool) (ht : tabI m = t) (hb : lpB y = b) : aheadI y m = t + if 2 < m ∧ b = true then 1 else 0 := by
  unfold aheadI lpI
  rw [ht, hb]
  by_cases h : 2 < m <;> cases b <;> simp [h]
set_option maxHeartbeats 4000000 in
theorem ahead_any (y m : Int) (w : World) (h1 : 1 ≤ m) (h2 : m ≤ 13) :
    Calls Try.prog 54 #[.int .i64 y, .int .i64 m] w fun e w' => e = .returned (.int .i64 (aheadI y m)) ∧ Below w.heap.size w w' := by
  have hl : lpB y = true ∨ lpB y = false := by cases lpB y <;> simp
  rcases tab_cases m h1 h2 with ⟨rfl, ht⟩ | ⟨rfl, ht⟩ | ⟨rfl, ht⟩ | ⟨rfl, ht⟩ | ⟨rfl, ht⟩ | ⟨rfl, ht⟩ | ⟨rfl, ht⟩ | ⟨rfl, ht⟩ | ⟨rfl, ht⟩ | ⟨rfl, ht⟩ | ⟨rfl, ht⟩ | ⟨rfl, ht⟩ | ⟨rfl, ht⟩
  all_goals
    rcases hl with hl | hl
    all_goals
      have E := Lib.hid (ahead_of _ ht hl)
      clear ht h1 h2
      go_enter Try.func54, Try.ntmps54
      go_wp2_with (go_at_call 75; refine (leap_any _ _).mono ?_; rintro e w' ⟨rfl, rfl⟩)
      go_ret
      exact ⟨ret_i (by rw [E.out]; rfl), (by repeat (with_reducible (first | exact Below.refl _ _ | assumption | refine bl_alloc ?_ _ | refine bl_drewN ?_ _ | refine bl_drew ?_ | refine bl_call ?_ (by assumption) | (refine bl_setCell ?_ _ (Nat.le_refl _)) | (refine bl_setCell ?_ _ (by simp)))))⟩
end Go.Proofs.Yteppoghpfcmhhaa
