/- Contracts of the reference's chapter 2: Add. -/
import Derived.Test.YtkejohmghacdhaaRwF
namespace Go.Proofs.Ytkejohmghacdhaa
set_option linter.unusedVariables false
set_option linter.unusedSimpArgs false
open Go.RowKit
theorem touch_set9 {w : World} {b : Nat} {u0 u1 u2 u3 u4 u5 u6 u7 u8 : Value} {t : TypeId} (h : w.heap[b]? = some (.cells #[u0, u1, u2, u3, u4, u5, u6, u7, u8] t)) (v0 v1 v2 v3 v4 v5 v6 v7 v8 : Value) :
    Touch b (.cells #[v0, v1, v2, v3, v4, v5, v6, v7, v8] t) w (((((((((w.setCell ⟨b, 0, none⟩ v0).setCell ⟨b, 1, none⟩ v1).setCell ⟨b, 2, none⟩ v2).setCell ⟨b, 3, none⟩ v3).setCell ⟨b, 4, none⟩ v4).setCell ⟨b, 5, none⟩ v5).setCell ⟨b, 6, none⟩ v6).setCell ⟨b, 7, none⟩ v7).setCell ⟨b, 8, none⟩ v8) := by
  have t0 : Touch b (.cells #[v0, u1, u2, u3, u4, u5, u6, u7, u8] t) w (w.setCell ⟨b, 0, none⟩ v0) := touch_set h 0 v0
  have t1 : Touch b (.cells #[v0, v1, u2, u3, u4, u5, u6, u7, u8] t) (w.setCell ⟨b, 0, none⟩ v0) ((w.setCell ⟨b, 0, none⟩ v0).setCell ⟨b, 1, none⟩ v1) := touch_set t0.here 1 v1
  have t2 : Touch b (.cells #[v0, v1, v2, u3, u4, u5, u6, u7, u8] t) ((w.setCell ⟨b, 0, none⟩ v0).setCell ⟨b, 1, none⟩ v1) (((w.setCell ⟨b, 0, none⟩ v0).setCell ⟨b, 1, none⟩ v1).setCell ⟨b, 2, none⟩ v2) := touch_set t1.here 2 v2
  have t3 : Touch b (.cells #[v0, v1, v2, v3, u4, u5, u6, u7, u8] t) (((w.setCell ⟨b, 0, none⟩ v0).setCell ⟨b, 1, none⟩ v1).setCell ⟨b, 2, none⟩ v2) ((((w.setCell ⟨b, 0, none⟩ v0).setCell ⟨b, 1, none⟩ v1).setCell ⟨b, 2, none⟩ v2).setCell ⟨b, 3, none⟩ v3) := touch_set t2.here 3 v3
  have t4 : Touch b (.cells #[v0, v1, v2, v3, v4, u5, u6, u7, u8] t) ((((w.setCell ⟨b, 0, none⟩ v0).setCell ⟨b, 1, none⟩ v1).setCell ⟨b, 2, none⟩ v2).setCell ⟨b, 3, none⟩ v3) (((((w.setCell ⟨b, 0, none⟩ v0).setCell ⟨b, 1, none⟩ v1).setCell ⟨b, 2, none⟩ v2).setCell ⟨b, 3, none⟩ v3).setCell ⟨b, 4, none⟩ v4) := touch_set t3.here 4 v4
  have t5 : Touch b (.cells #[v0, v1, v2, v3, v4, v5, u6, u7, u8] t) (((((w.setCell ⟨b, 0, none⟩ v0).setCell ⟨b, 1, none⟩ v1).setCell ⟨b, 2, none⟩ v2).setCell ⟨b, 3, none⟩ v3).setCell ⟨b, 4, none⟩ v4) ((((((w.setCell ⟨b, 0, none⟩ v0).setCell ⟨b, 1, none⟩ v1).setCell ⟨b, 2, none⟩ v2).setCell ⟨b, 3, none⟩ v3).setCell ⟨b, 4, none⟩ v4).setCell ⟨b, 5, none⟩ v5) := touch_set t4.here 5 v5
  have t6 : Touch b (.cells #[v0, v1, v2, v3, v4, v5, v6, u7, u8] t) ((((((w.setCell ⟨b, 0, none⟩ v0).setCell ⟨b, 1, none⟩ v1).setCell ⟨b, 2, none⟩ v2).setCell ⟨b, 3, none⟩ v3).setCell ⟨b, 4, none⟩ v4).setCell ⟨b, 5, none⟩ v5) (((((((w.setCell ⟨b, 0, none⟩ v0).setCell ⟨b, 1, none⟩ v1).setCell ⟨b, 2, none⟩ v2).setCell ⟨b, 3, none⟩ v3).setCell ⟨b, 4, none⟩ v4).setCell ⟨b, 5, none⟩ v5).setCell ⟨b, 6, none⟩ v6) := touch_set t5.here 6 v6
  have t7 : Touch b (.cells #[v0, v1, v2, v3, v4, v5, v6, v7, u8] t) (((((((w.setCell ⟨b, 0, none⟩ v0).setCell ⟨b, 1, none⟩ v1).setCell ⟨b, 2, none⟩ v2).setCell ⟨b, 3, none⟩ v3).setCell ⟨b, 4, none⟩ v4).setCell ⟨b, 5, none⟩ v5).setCell ⟨b, 6, none⟩ v6) ((((((((w.setCell ⟨b, 0, none⟩ v0).setCell ⟨b, 1, none⟩ v1).setCell ⟨b, 2, none⟩ v2).setCell ⟨b, 3, none⟩ v3).setCell ⟨b, 4, none⟩ v4).setCell ⟨b, 5, none⟩ v5).setCell ⟨b, 6, none⟩ v6).setCell ⟨b, 7, none⟩ v7) := touch_set t6.here 7 v7
  have t8 : Touch b (.cells #[v0, v1, v2, v3, v4, v5, v6, v7, v8] t) ((((((((w.setCell ⟨b, 0, none⟩ v0).setCell ⟨b, 1, none⟩ v1).setCell ⟨b, 2, none⟩ v2).setCell ⟨b, 3, none⟩ v3).setCell ⟨b, 4, none⟩ v4).setCell ⟨b, 5, none⟩ v5).setCell ⟨b, 6, none⟩ v6).setCell ⟨b, 7, none⟩ v7) (((((((((w.setCell ⟨b, 0, none⟩ v0).setCell ⟨b, 1, none⟩ v1).setCell ⟨b, 2, none⟩ v2).setCell ⟨b, 3, none⟩ v3).setCell ⟨b, 4, none⟩ v4).setCell ⟨b, 5, none⟩ v5).setCell ⟨b, 6, none⟩ v6).setCell ⟨b, 7, none⟩ v7).setCell ⟨b, 8, none⟩ v8) := touch_set t7.here 8 v8
  exact (((((((t0.trans t1).trans t2).trans t3).trans t4).trans t5).trans t6).trans t7).trans t8
/-- What plus makes of two numbers. -/
def Plus (x y : Int) (S : Bool) (K : Int) (ok : Bool) : Prop := 0 ≤ K ∧ K < 340282366920938463463374607431768211456 ∧
  (∀ w, Calls Try.prog 76 #[numA (decide (x < 0)) (absW x), numA (decide (y < 0)) (absW y)] w fun e w' => e = .returned (.tuple #[numA S K, .bool ok]) ∧ Below w.heap.size w w') ∧
  ((InW (x + y) ∧ ok = true ∧ backB S K = true ∧ backV S K = x + y) ∨ (¬ InW (x + y) ∧ ok = true ∧ backB S K = false) ∨ (¬ InW (x + y) ∧ ok = false))
theorem back_t {n : Int} (h0 : 0 ≤ n) (h : n ≤ 170141183460469231731687303715884105728) : backV true n = -n ∧ backB true n = true := by
  unfold backV backB
  by_cases h1 : n = 0
  · subst h1; simp
  · have e : ¬ (true = false ∨ n = 0) := by simp; exact h1
    rw [if_neg e, if_neg e, if_pos h]; exact ⟨rfl, by simpa using h⟩
theorem back_t_over {n : Int} (h : 170141183460469231731687303715884105728 < n) : backB true n = false := by
  unfold backB
  have e : ¬ (true = false ∨ n = 0) := by simp; omega
  rw [if_neg e]; simpa using h
theorem back_f {n : Int} (h0 : 0 ≤ n) (h : n < 170141183460469231731687303715884105728) : backV false n = n ∧ backB false n = true := by
  unfold backV backB
  rw [if_pos (.inl rfl), if_pos (.inl rfl)]; exact ⟨by omega, by simpa using h⟩
theorem back_f_over {n : Int} (h : 170141183460469231731687303715884105728 ≤ n) : backB false n = false := by
  unfold backB
  rw [if_pos (.inl rfl)]; simpa using h
theorem absW_neg {x : Int} (h : x < 0) : absW x = -x := by unfold absW; rw [if_pos h]
theorem absW_pos {x : Int} (h : ¬ x < 0) : absW x = x := by unfold absW; rw [if_neg h]
theorem plus_sum {x y : Int} (hx : InW x) (hy : InW y) : ∃ S K ok, Plus x y S K ok := by
  have bx := InW_bd hx
  have by' := InW_bd hy
  unfold Plus
  by_cases h1 : x < 0 <;> by_cases h2 : y < 0
  · have P := fun w => plus_same true (absW x) (absW y) w bx.1 bx.2 by'.1 by'.2
    rw [absW_neg h1, absW_neg h2] at *
    rw [show decide (x < 0) = true by simpa using h1, show decide (y < 0) = true by simpa using h2]
    refine ⟨true, (-x + -y) % 340282366920938463463374607431768211456, decide (-x + -y < 340282366920938463463374607431768211456), by omega, by omega, P, ?_⟩
    unfold InW at *
    by_cases h3 : -x + -y < 340282366920938463463374607431768211456
    · rw [Int.emod_eq_of_lt (by omega) h3]
      by_cases h4 : -x + -y ≤ 170141183460469231731687303715884105728
      · obtain ⟨e1, e2⟩ := back_t (n := -x + -y) (by omega) h4
        exact .inl ⟨by omega, by simpa using h3, e2, by rw [e1]; omega⟩
      · exact .inr (.inl ⟨by omega, by simpa using h3, back_t_over (by omega)⟩)
    · exact .inr (.inr ⟨by omega, by simp; omega⟩)
  · rw [show decide (x < 0) = true by simpa using h1, show decide (y < 0) = false by simpa using h2]
    by_cases h3 : absW y ≤ absW x
    · have P := fun w => plus_ge true (absW x) (absW y) w bx.1 bx.2 by'.1 by'.2 h3
      rw [absW_neg h1, absW_pos h2] at *
      unfold InW at *
      obtain ⟨e1, e2⟩ := back_t (n := -x - y) (by omega) (by omega)
      exact ⟨true, -x - y, true, by omega, by omega, P, .inl ⟨by omega, rfl, e2, by rw [e1]; omega⟩⟩
    · have P := fun w => plus_lt true (absW x) (absW y) w bx.1 bx.2 by'.1 by'.2 (by omega)
      rw [absW_neg h1, absW_pos h2] at *
      unfold InW at *
      obtain ⟨e1, e2⟩ := back_f (n := y - -x) (by omega) (by omega)
      exact ⟨false, y - -x, true, by omega, by omega, P, .inl ⟨by omega, rfl, e2, by rw [e1]; omega⟩⟩
  · rw [show decide (x < 0) = false by simpa using h1, show decide (y < 0) = true by simpa using h2]
    by_cases h3 : absW y ≤ absW x
    · have P := fun w => plus_ge false (absW x) (absW y) w bx.1 bx.2 by'.1 by'.2 h3
      rw [absW_pos h1, absW_neg h2] at *
      unfold InW at *
      obtain ⟨e1, e2⟩ := back_f (n := x - -y) (by omega) (by omega)
      exact ⟨false, x - -y, true, by omega, by omega, P, .inl ⟨by omega, rfl, e2, by rw [e1]; omega⟩⟩
    · have P := fun w => plus_lt false (absW x) (absW y) w bx.1 bx.2 by'.1 by'.2 (by omega)
      rw [absW_pos h1, absW_neg h2] at *
      unfold InW at *
      obtain ⟨e1, e2⟩ := back_t (n := -y - x) (by omega) (by omega)
      exact ⟨true, -y - x, true, by omega, by omega, P, .inl ⟨by omega, rfl, e2, by rw [e1]; omega⟩⟩
  · have P := fun w => plus_same false (absW x) (absW y) w bx.1 bx.2 by'.1 by'.2
    rw [absW_pos h1, absW_pos h2] at *
    rw [show decide (x < 0) = false by simpa using h1, show decide (y < 0) = false by simpa using h2]
    refine ⟨false, (x + y) % 340282366920938463463374607431768211456, decide (x + y < 340282366920938463463374607431768211456), by omega, by omega, P, ?_⟩
    unfold InW at *
    rw [Int.emod_eq_of_lt (by omega) (by omega)]
    by_cases h4 : x + y < 170141183460469231731687303715884105728
    · obtain ⟨e1, e2⟩ := back_f (n := x + y) (by omega) h4
      exact .inl ⟨by omega, by simp; omega, e2, e1⟩
    · exact .inr (.inl ⟨by omega, by simp; omega, back_f_over (by omega)⟩)
end Go.Proofs.Ytkejohmghacdhaa
