import Derived.Test.YtnjjihlknkmllaaWhole
namespace Go.Proofs.Ytnjjihlknkmllaa
open Go.RowKit
set_option linter.unusedVariables false
theorem wd_mul (q r a b : Int) (e : b * q + r = a) (ha : In a) (hm : (0 < b ∧ 0 ≤ r ∧ r < b) ∨ (b < 0 ∧ b < r ∧ r ≤ 0)) (hb : In b) :
    (In (q * b) ∧ capN (q * b) = q * b ∧ errN (q * b) = 0 ∧ capN (q * b + r) = a ∧ errN (q * b + r) = 0) ∨
    (capN (q * b) = 0 ∧ errN (q * b) = 2 ∧ ((0 < b ∧ 0 < r ∧ a < -9223372036854775808 + b) ∨ (b < 0 ∧ r < 0 ∧ 9223372036854775807 + b < a))) := by
  have e' : q * b + r = a := by rw [Int.mul_comm]; exact e
  rcases cap_cases (q * b) with ⟨h1, h2, h3⟩ | ⟨h1, h2, h3⟩
  · exact .inl ⟨h3, h1, h2, by rw [e']; exact capN_fit (fitB_of ha), by rw [e']; exact errN_fit (fitB_of ha)⟩
  · refine .inr ⟨h1, h2, ?_⟩
    generalize q * b = z at *
    unfold In at *
    omega
set_option maxHeartbeats 4000000 in
theorem wholeDivides_any (a b : Int) (w : World) (ha : In a) (hb : In b) :
    Calls Try.prog 4 #[.int .i64 a, .int .i64 b] w fun e w' => e = .returned (.bool true) ∧ Below w.heap.size w w' := by
  by_cases h0 : b = 0
  · subst h0
    obtain ⟨d1, d2, d3⟩ := dvQ_zero a
    go_enter Try.func4, Try.ntmps4
    go_wp2_with (first | (go_at_call 14; refine (live1 _).mono ?_; rintro e w' ⟨rfl, hb1⟩) | (go_at_call 18; refine (whole_div _ _ _ (by first | assumption | exact In_capN _ | exact In_zero | exact In_dvQ _ _ | exact In_dvR (by assumption)) (by first | assumption | exact In_capN _ | exact In_zero | exact In_dvQ _ _ | exact In_dvR (by assumption))).mono ?_; rintro e w' ⟨rfl, hb2⟩))
    go_ret
    exact ⟨rfl, (by repeat (first | exact Below.refl _ _ | assumption | refine bl_alloc ?_ _ | refine bl_drewN ?_ _ | refine bl_drew ?_ | refine bl_call ?_ (by assumption) | (refine bl_setCell ?_ _ ?_; rotate_left; (simp; done); rotate_left)))⟩
  have b0 : (b == 0) = false := by simpa using h0
  have hm := fmod_sign (a := a) h0
  have e := Int.mul_fdiv_add_fmod a b
  rcases dv_cases ha hb h0 with ⟨_, d1, d2, d3⟩ | ⟨x1, x2, d1, d2, d3⟩
  · have HE := Lib.hid e
    clear e
    generalize hq : a.fdiv b = q at *
    generalize hr : a.fmod b = r at *
    clear hq hr
    have HQ : In (dvQ a b) := In_dvQ a b
    have HR : In (dvR a b) := In_dvR hb
    rw [d1] at HQ
    rw [d2] at HR
    rcases wd_mul q r a b HE.out ha hm hb with ⟨m0, m1, m2, m3, m4⟩ | ⟨m1, m2, ⟨m3, m4, m5⟩ | ⟨m3, m4, m5⟩⟩
    · rcases hm with ⟨n1, n2, n3⟩ | ⟨n1, n2, n3⟩
      all_goals
        go_enter Try.func4, Try.ntmps4
        go_wp2_with (first | (go_at_call 14; refine (live1 _).mono ?_; rintro e w' ⟨rfl, hb1⟩) | (go_at_call 18; refine (whole_div _ _ _ (by first | assumption | exact In_capN _ | exact In_zero | exact In_dvQ _ _ | exact In_dvR (by assumption)) (by first | assumption | exact In_capN _ | exact In_zero | exact In_dvQ _ _ | exact In_dvR (by assumption))).mono ?_; rintro e w' ⟨rfl, hb2⟩) | (go_at_call 19; refine (whole_mul _ _ _ (by first | assumption | exact In_capN _ | exact In_zero | exact In_dvQ _ _ | exact In_dvR (by assumption)) (by first | assumption | exact In_capN _ | exact In_zero | exact In_dvQ _ _ | exact In_dvR (by assumption))).mono ?_; rintro e w' ⟨rfl, rfl⟩) | (go_at_call 15; refine (whole_add _ _ _ (by first | assumption | exact In_capN _ | exact In_zero | exact In_dvQ _ _ | exact In_dvR (by assumption)) (by first | assumption | exact In_capN _ | exact In_zero | exact In_dvQ _ _ | exact In_dvR (by assumption))).mono ?_; rintro e w' ⟨rfl, rfl⟩))
        go_ret
        exact ⟨rfl, (by repeat (first | exact Below.refl _ _ | assumption | refine bl_alloc ?_ _ | refine bl_drewN ?_ _ | refine bl_drew ?_ | refine bl_call ?_ (by assumption) | (refine bl_setCell ?_ _ ?_; rotate_left; (simp; done); rotate_left)))⟩
    all_goals
      unfold In at hb ha
      clear hm
      go_enter Try.func4, Try.ntmps4
      go_wp2_with (first | (go_at_call 14; refine (live1 _).mono ?_; rintro e w' ⟨rfl, hb1⟩) | (go_at_call 18; refine (whole_div _ _ _ (by first | assumption | exact In_capN _ | exact In_zero | exact In_dvQ _ _ | exact In_dvR (by assumption)) (by first | assumption | exact In_capN _ | exact In_zero | exact In_dvQ _ _ | exact In_dvR (by assumption))).mono ?_; rintro e w' ⟨rfl, hb2⟩) | (go_at_call 19; refine (whole_mul _ _ _ (by first | assumption | exact In_capN _ | exact In_zero | exact In_dvQ _ _ | exact In_dvR (by assumption)) (by first | assumption | exact In_capN _ | exact In_zero | exact In_dvQ _ _ | exact In_dvR (by assumption))).mono ?_; rintro e w' ⟨rfl, rfl⟩) | (go_at_call 15; refine (whole_add _ _ _ (by first | assumption | exact In_capN _ | exact In_zero | exact In_dvQ _ _ | exact In_dvR (by assumption)) (by first | assumption | exact In_capN _ | exact In_zero | exact In_dvQ _ _ | exact In_dvR (by assumption))).mono ?_; rintro e w' ⟨rfl, rfl⟩))
      go_ways
      go_ret
      exact ⟨rfl, (by repeat (first | exact Below.refl _ _ | assumption | refine bl_alloc ?_ _ | refine bl_drewN ?_ _ | refine bl_drew ?_ | refine bl_call ?_ (by assumption) | (refine bl_setCell ?_ _ ?_; rotate_left; (simp; done); rotate_left)))⟩
  · have y1 : (a == -9223372036854775808) = true := by rw [beq_iff_eq]; exact x1
    have y2 : (b == -1) = true := by rw [beq_iff_eq]; exact x2
    clear x1 x2 hm e h0
    go_enter Try.func4, Try.ntmps4
    go_wp2_with (first | (go_at_call 14; refine (live1 _).mono ?_; rintro e w' ⟨rfl, hb1⟩) | (go_at_call 18; refine (whole_div _ _ _ (by first | assumption | exact In_capN _ | exact In_zero | exact In_dvQ _ _ | exact In_dvR (by assumption)) (by first | assumption | exact In_capN _ | exact In_zero | exact In_dvQ _ _ | exact In_dvR (by assumption))).mono ?_; rintro e w' ⟨rfl, hb2⟩))
    go_ways
    go_ret
    exact ⟨rfl, (by repeat (first | exact Below.refl _ _ | assumption | refine bl_alloc ?_ _ | refine bl_drewN ?_ _ | refine bl_drew ?_ | refine bl_call ?_ (by assumption) | (refine bl_setCell ?_ _ ?_; rotate_left; (simp; done); rotate_left)))⟩
end Go.Proofs.Ytnjjihlknkmllaa
