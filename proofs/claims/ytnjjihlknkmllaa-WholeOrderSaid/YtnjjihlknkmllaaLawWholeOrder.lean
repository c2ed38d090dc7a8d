import Derived.Test.YtnjjihlknkmllaaWhole
namespace Go.Proofs.Ytnjjihlknkmllaa
open Go.RowKit
set_option linter.unusedVariables false
set_option maxHeartbeats 4000000 in
theorem wholeOrder_any (a b c : Int) (w : World) (ha : In a) (hb : In b) (hc : In c) :
    Calls Try.prog 5 #[.int .i64 a, .int .i64 b, .int .i64 c] w fun e w' => e = .returned (.bool true) ∧ Below w.heap.size w w' := by
  have x1 : b + a = a + b := Int.add_comm b a
  have x2 : b * a = a * b := Int.mul_comm b a
  have x3 : (a + b) * c = a * c + b * c := Int.add_mul a b c
  have X3 := Lib.hid x3
  clear x3
  rcases cap_cases (a + b) with ⟨c1, e1, i1⟩ | ⟨c1, e1, i1⟩
  rcases cap_cases (a * b) with ⟨c2, e2, i2⟩ | ⟨c2, e2, i2⟩
  rcases cap_cases (a * c) with ⟨c3, e3, i3⟩ | ⟨c3, e3, i3⟩
  rcases cap_cases (b * c) with ⟨c4, e4, i4⟩ | ⟨c4, e4, i4⟩
  rcases cap_cases ((a + b) * c) with ⟨c5, e5, i5⟩ | ⟨c5, e5, i5⟩
  · have c6 : capN (a * c + b * c) = (a + b) * c := by rw [← X3.out]; exact c5
    have e6 : errN (a * c + b * c) = 0 := by rw [← X3.out]; exact e5
    go_enter Try.func5, Try.ntmps5
    go_wp2_with (first | (go_at_call 14; refine (live1 _).mono ?_; rintro e w' ⟨rfl, hb1⟩) | (go_at_call 19; refine (whole_mul _ _ _ (by first | assumption | exact In_capN _ | exact In_zero | exact In_dvQ _ _ | exact In_dvR (by assumption)) (by first | assumption | exact In_capN _ | exact In_zero | exact In_dvQ _ _ | exact In_dvR (by assumption))).mono ?_; rintro e w' ⟨rfl, rfl⟩) | (go_at_call 15; refine (whole_add _ _ _ (by first | assumption | exact In_capN _ | exact In_zero | exact In_dvQ _ _ | exact In_dvR (by assumption)) (by first | assumption | exact In_capN _ | exact In_zero | exact In_dvQ _ _ | exact In_dvR (by assumption))).mono ?_; rintro e w' ⟨rfl, rfl⟩))
    go_ret
    exact ⟨rfl, (by repeat (first | exact Below.refl _ _ | assumption | refine bl_alloc ?_ _ | refine bl_drewN ?_ _ | refine bl_drew ?_ | refine bl_call ?_ (by assumption) | (refine bl_setCell ?_ _ ?_; rotate_left; (simp; done); rotate_left)))⟩
  all_goals
    go_enter Try.func5, Try.ntmps5
    go_wp2_with (first | (go_at_call 14; refine (live1 _).mono ?_; rintro e w' ⟨rfl, hb1⟩) | (go_at_call 19; refine (whole_mul _ _ _ (by first | assumption | exact In_capN _ | exact In_zero | exact In_dvQ _ _ | exact In_dvR (by assumption)) (by first | assumption | exact In_capN _ | exact In_zero | exact In_dvQ _ _ | exact In_dvR (by assumption))).mono ?_; rintro e w' ⟨rfl, rfl⟩) | (go_at_call 15; refine (whole_add _ _ _ (by first | assumption | exact In_capN _ | exact In_zero | exact In_dvQ _ _ | exact In_dvR (by assumption)) (by first | assumption | exact In_capN _ | exact In_zero | exact In_dvQ _ _ | exact In_dvR (by assumption))).mono ?_; rintro e w' ⟨rfl, rfl⟩))
    all_goals
      go_ret
      exact ⟨rfl, (by repeat (first | exact Below.refl _ _ | assumption | refine bl_alloc ?_ _ | refine bl_drewN ?_ _ | refine bl_drew ?_ | refine bl_call ?_ (by assumption) | (refine bl_setCell ?_ _ ?_; rotate_left; (simp; done); rotate_left)))⟩
end Go.Proofs.Ytnjjihlknkmllaa
