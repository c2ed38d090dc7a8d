import Derived.Test.YtnjjihlknkmllaaWhole
namespace Go.Proofs.Ytnjjihlknkmllaa
open Go.RowKit
theorem wb_facts (b : Int) (hb : In b) : (capN (-b) = -b ∧ errN (-b) = 0 ∧ In (-b)) ∨ (capN (-b) = 0 ∧ errN (-b) = 2 ∧ (b == -9223372036854775808) = true) := by
  rcases cap_cases (-b) with h | ⟨h1, h2, h3⟩
  · exact .inl h
  · exact .inr ⟨h1, h2, by unfold In at *; rw [beq_iff_eq]; omega⟩
set_option maxHeartbeats 4000000 in
theorem wholeBack_any (a b : Int) (w : World) (ha : In a) (hb : In b) :
    Calls Try.prog 3 #[.int .i64 a, .int .i64 b] w fun e w' => e = .returned (.bool true) ∧ Below w.heap.size w w' := by
  have ca := capN_fit (fitB_of ha)
  have ea := errN_fit (fitB_of ha)
  have nn : a + -b = a - b := rfl
  rcases wb_facts b hb with ⟨c3, e3, i3⟩ | ⟨c3, e3, i3⟩ <;> rcases cap_cases (a + b) with ⟨c1, e1, i1⟩ | ⟨c1, e1, i1⟩ <;> rcases cap_cases (a - b) with ⟨c2, e2, i2⟩ | ⟨c2, e2, i2⟩
  all_goals
    go_enter Try.func3, Try.ntmps3
    go_wp2_with (first | (go_at_call 14; refine (live1 _).mono ?_; rintro e w' ⟨rfl, hb1⟩) | (go_at_call 15; refine (whole_add _ _ _ (by first | assumption | exact In_capN _ | exact In_zero) (by first | assumption | exact In_capN _ | exact In_zero)).mono ?_; rintro e w' ⟨rfl, rfl⟩) | (go_at_call 16; refine (whole_sub _ _ _ (by first | assumption | exact In_capN _ | exact In_zero) (by first | assumption | exact In_capN _ | exact In_zero)).mono ?_; rintro e w' ⟨rfl, rfl⟩) | (go_at_call 17; refine (whole_neg _ _ (by first | assumption | exact In_capN _ | exact In_zero)).mono ?_; rintro e w' ⟨rfl, rfl⟩))
    go_ret
    exact ⟨rfl, (by repeat (first | exact Below.refl _ _ | assumption | refine bl_alloc ?_ _ | refine bl_drewN ?_ _ | refine bl_drew ?_ | refine bl_call ?_ (by assumption) | (refine bl_setCell ?_ _ ?_; rotate_left; (simp; done); rotate_left)))⟩
end Go.Proofs.Ytnjjihlknkmllaa
