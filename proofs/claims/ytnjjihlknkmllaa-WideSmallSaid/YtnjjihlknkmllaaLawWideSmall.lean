import Derived.Test.YtnjjihlknkmllaaDivD
import Derived.Test.YtnjjihlknkmllaaWideD
namespace Go.Proofs.Ytnjjihlknkmllaa
set_option linter.unusedVariables false
set_option linter.unusedSimpArgs false
open Go.RowKit
theorem dv_pos {a c : Int} (ha : In a) (hc : In c) (h : 0 < c) : dvQ a c = a / c ∧ dvR a c = a % c ∧ dvE a c = 0 ∧ In (a / c) := by
  have h1 : a.fdiv c = a / c := Int.fdiv_eq_ediv_of_nonneg _ (by omega)
  have h2 : a.fmod c = a % c := Int.fmod_eq_emod_of_nonneg _ (by omega)
  rcases dv_cases ha hc (by omega) with ⟨f, d1, d2, d3⟩ | ⟨_, x, _⟩
  · rw [h1] at f
    exact ⟨by rw [d1, h1], by rw [d2, h2], d3, (fitB_iff _).1 f⟩
  · omega
theorem md_pos {a c : Int} (hc : 0 < c) (h : In (a / c)) : mdQ a c = a / c ∧ mdR a c = a % c ∧ mdE a c = 0 := by
  rcases md_ways a c with ⟨_, _, _, _, _, _, _, g1, g2, g3⟩ | ⟨_, _, _, _, _, _, e3, _⟩ | ⟨h1, _⟩
  · exact ⟨g1, g2, g3⟩
  · exact (e3 h).elim
  · omega
theorem sum2 (a b : Int) : sumI [a, b] = a + b := by simp [sumI]
set_option maxRecDepth 100000 in
set_option maxHeartbeats 8000000 in
theorem wideSmall_any (a b c : Int) (w : World) (ha : In a) (hb : In b) (hc : In c) :
    Calls Try.prog 13 #[.int .i64 a, .int .i64 b, .int .i64 c] w fun e w' => e = .returned (.bool true) ∧ Below w.heap.size w w' := by
  have A := Lib.hid (fun w => whole_mul a b w ha hb)
  have B := Lib.hid (fun w => wmul_any a b w ha hb)
  have F := Lib.hid (fun w => wfit_any (a * b) w (prod_InW ha hb))
  have S := Lib.hid (fun w => whole_add a b w ha hb)
  have hs := wsum_some [a, b]
  rw [sum2] at hs
  have T := Lib.hid hs
  have ina : ∀ k, k < 2 → In ([a, b].getD k 0) := by
    intro k hk
    have : k = 0 ∨ k = 1 := by omega
    rcases this with rfl | rfl
    · exact ha
    · exact hb
  have INA := Lib.hid ina
  have D := whole_div a c
  have M := muldiv_any a 1 c
  rw [Int.mul_one] at M
  clear hs ina
  generalize a * b = p at *
  generalize a + b = s at *
  generalize capN p = p1 at *
  generalize errN p = p2 at *
  generalize capN s = s1 at *
  generalize errN s = s2 at *
  by_cases c1 : c < 1
  · clear D M
    go_enter Try.func13, Try.ntmps13
    go_wp2_with fail
    refine (live2 _).mono ?_
    rintro e w1 ⟨rfl, hb1⟩
    go_wp2_with fail
    refine (A.out _).mono ?_
    rintro e w2 ⟨rfl, rfl⟩
    go_wp2_with fail
    refine (B.out _).mono ?_
    rintro e w1 ⟨rfl, hb1⟩
    go_wp2_with fail
    refine (F.out _).mono ?_
    rintro e w2 ⟨rfl, hb2⟩
    go_wp2_with fail
    refine (S.out _).mono ?_
    rintro e w3 ⟨rfl, rfl⟩
    go_wp2_with fail
    refine (T.out _ 0 2 _ (by simp) INA.out (by simp) ?_).mono ?_
    · intro k hk
      have : k = 0 ∨ k = 1 := by simp at hk; omega
      rcases this with rfl | rfl <;> simp
    rintro e w4 ⟨rfl, hb4⟩
    go_wp2
    go_ret
    exact ⟨ret_b (by first | rfl | (simp; done)), (by repeat (with_reducible (first | exact Below.refl _ _ | assumption | refine bl_alloc ?_ _ | refine bl_drewN ?_ _ | refine bl_drew ?_ | refine bl_call ?_ (by assumption) | (refine bl_setCell ?_ _ (Nat.le_refl _)) | (refine bl_setCell ?_ _ (by simp)))))⟩
  · have c0 : 0 < c := by omega
    obtain ⟨d1, d2, d3, d4⟩ := dv_pos ha hc c0
    obtain ⟨m1, m2, m3⟩ := md_pos (a := a) c0 d4
    rw [d1, d2, d3] at D
    rw [m1, m2, m3] at M
    have D := Lib.hid (fun w => D w ha hc)
    have M := Lib.hid (fun w => M w ha ⟨by decide, by decide⟩ hc)
    clear d1 d2 d3 d4 m1 m2 m3
    generalize a / c = q at *
    generalize a % c = r at *
    go_enter Try.func13, Try.ntmps13
    go_wp2_with fail
    refine (live2 _).mono ?_
    rintro e w1 ⟨rfl, hb1⟩
    go_wp2_with fail
    refine (A.out _).mono ?_
    rintro e w2 ⟨rfl, rfl⟩
    go_wp2_with fail
    refine (B.out _).mono ?_
    rintro e w1 ⟨rfl, hb1⟩
    go_wp2_with fail
    refine (F.out _).mono ?_
    rintro e w2 ⟨rfl, hb2⟩
    go_wp2_with fail
    refine (S.out _).mono ?_
    rintro e w3 ⟨rfl, rfl⟩
    go_wp2_with fail
    refine (T.out _ 0 2 _ (by simp) INA.out (by simp) ?_).mono ?_
    · intro k hk
      have : k = 0 ∨ k = 1 := by simp at hk; omega
      rcases this with rfl | rfl <;> simp
    rintro e w4 ⟨rfl, hb4⟩
    go_wp2_with fail
    refine (D.out _).mono ?_
    rintro e w5 ⟨rfl, hb5⟩
    go_wp2_with fail
    refine (M.out _).mono ?_
    rintro e w6 ⟨rfl, hb6⟩
    go_wp2
    go_ret
    exact ⟨ret_b (by first | rfl | (simp; done)), (by repeat (with_reducible (first | exact Below.refl _ _ | assumption | refine bl_alloc ?_ _ | refine bl_drewN ?_ _ | refine bl_drew ?_ | refine bl_call ?_ (by assumption) | (refine bl_setCell ?_ _ (Nat.le_refl _)) | (refine bl_setCell ?_ _ (by simp)))))⟩
end Go.Proofs.Ytnjjihlknkmllaa
