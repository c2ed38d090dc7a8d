/- A product digit by digit, a quotient bit by bit: no program in sight. -/
import Derived.Test.YtkejohmghacdhaaMathY
namespace Go.Proofs.Ytkejohmghacdhaa
set_option linter.unusedVariables false
set_option linter.unusedSimpArgs false
open Go Go.RowKit
def Pm (x y : Int) (i : Nat) : Int := x % pw i * y
def Tm (x y : Int) (i j : Nat) : Int := Pm x y i + dg x i * pw i * (y % pw j)
theorem pw_add : ∀ i j : Nat, i < 4 → j < 4 → pw i * pw j = pw (i + j) := by
  intro i j hi hj
  rcases lt4 hi with rfl | rfl | rfl | rfl <;> rcases lt4 hj with rfl | rfl | rfl | rfl <;> decide
theorem pw_pos : ∀ k : Nat, k ≤ 8 → 0 < pw k := by
  intro k hk
  have : k = 8 ∨ k < 8 := by omega
  rcases this with rfl | h
  · decide
  · rcases lt8 h with rfl | rfl | rfl | rfl | rfl | rfl | rfl | rfl <;> decide
theorem mod_succ (y : Int) (j : Nat) (hj : j < 4) : y % pw (j + 1) = y % pw j + dg y j * pw j := by
  unfold dg
  rcases lt4 hj with rfl | rfl | rfl | rfl <;> simp only [pw] <;> omega
theorem Tm_zero (x y : Int) (i : Nat) : Tm x y i 0 = Pm x y i := by
  unfold Tm; rw [show y % pw 0 = 0 by simp only [pw]; omega, Int.mul_zero]; omega
theorem Tm_succ (x y : Int) (i j : Nat) (hi : i < 4) (hj : j < 4) : Tm x y i (j + 1) = Tm x y i j + dg x i * dg y j * pw (i + j) := by
  unfold Tm
  rw [mod_succ y j hj, Int.mul_add, ← pw_add i j hi hj]
  have : dg x i * pw i * (dg y j * pw j) = dg x i * dg y j * (pw i * pw j) := by
    simp only [Int.mul_assoc, Int.mul_left_comm]
  omega
theorem Tm_four (x y : Int) (i : Nat) (hi : i < 4) (hy : 0 ≤ y) (hy1 : y < 18446744073709551616) : Tm x y i 4 = Pm x y (i + 1) := by
  unfold Tm Pm
  rw [mod_succ x i hi, show y % pw 4 = y by simp only [pw]; omega, Int.add_mul]
theorem Pm_zero (x y : Int) : Pm x y 0 = 0 := by unfold Pm; simp only [pw]; rw [show x % 1 = 0 by omega]; omega
theorem Pm_four {x y : Int} (h0 : 0 ≤ x) (h1 : x < 18446744073709551616) : Pm x y 4 = x * y := by unfold Pm; rw [show x % pw 4 = x by simp only [pw]; omega]
theorem Pm_bd {x y : Int} (i : Nat) (hi : i ≤ 4) (h0 : 0 ≤ x) (hy : 0 ≤ y) (hy1 : y < 18446744073709551616) : 0 ≤ Pm x y i ∧ Pm x y i < pw (i + 4) := by
  unfold Pm
  have h1 : 0 ≤ x % pw i := Int.emod_nonneg _ (by have := pw_pos i (by omega); omega)
  have h2 : x % pw i < pw i := Int.emod_lt_of_pos _ (pw_pos i (by omega))
  refine ⟨Int.mul_nonneg h1 hy, ?_⟩
  have h3 : x % pw i * y ≤ (pw i - 1) * y := Int.mul_le_mul_of_nonneg_right (by omega) hy
  have : i = 0 ∨ i = 1 ∨ i = 2 ∨ i = 3 ∨ i = 4 := by omega
  rcases this with rfl | rfl | rfl | rfl | rfl <;> simp only [pw] at * <;> omega
theorem Tm_bd {x y : Int} (i j : Nat) (hi : i < 4) (hj : j ≤ 4) : Pm x y i ≤ Tm x y i j ∧ Tm x y i j - Pm x y i ≤ 65535 * (pw (i + j) - 1) := by
  unfold Tm
  have d := dg_bd x i
  have h1 : 0 ≤ y % pw j := Int.emod_nonneg _ (by have := pw_pos j (by omega); omega)
  have h2 : y % pw j < pw j := Int.emod_lt_of_pos _ (pw_pos j (by omega))
  have p := pw_pos i (by omega)
  have h3 : 0 ≤ dg x i * pw i * (y % pw j) := Int.mul_nonneg (Int.mul_nonneg d.1 (by omega)) h1
  have h4 : dg x i * pw i * (y % pw j) ≤ 65535 * pw i * (pw j - 1) := Int.mul_le_mul (Int.mul_le_mul_of_nonneg_right (by omega) (by omega)) (by omega) h1 (Int.mul_nonneg (by decide) (by omega))
  have h5 : 65535 * pw i * (pw j - 1) ≤ 65535 * (pw (i + j) - 1) := by
    have : j = 4 ∨ j < 4 := by omega
    rcases this with rfl | hj
    · rcases lt4 hi with rfl | rfl | rfl | rfl <;> decide
    · rcases lt4 hi with rfl | rfl | rfl | rfl <;> rcases lt4 hj with rfl | rfl | rfl | rfl <;> decide
  omega
/-- one digit of the product -/
theorem mul_step {A T m : Int} (k : Nat) (hk : k < 8) (hA : 0 ≤ A) (hT : 0 ≤ T) (hm : 0 ≤ m) :
    (T / pw k - A / pw k + (dg A k + m)) % 65536 = dg (T + m * pw k) k ∧ (T / pw k - A / pw k + (dg A k + m)) / 65536 = (T + m * pw k) / pw (k + 1) - A / pw (k + 1) ∧ (∀ j, j < k → dg (T + m * pw k) j = dg T j) := by
  refine ⟨?_, ?_, fun j hj => ?_⟩
  · unfold dg
    rcases lt8 hk with rfl | rfl | rfl | rfl | rfl | rfl | rfl | rfl <;> simp only [pw] <;> omega
  · unfold dg
    rcases lt8 hk with rfl | rfl | rfl | rfl | rfl | rfl | rfl | rfl <;> simp only [pw] <;> omega
  · unfold dg
    rcases lt8 hk with rfl | rfl | rfl | rfl | rfl | rfl | rfl | rfl <;> rcases lt8 (Nat.lt_trans hj hk) with rfl | rfl | rfl | rfl | rfl | rfl | rfl | rfl <;> first | omega | (simp only [pw]; omega)
theorem carry_bd {A T : Int} (k : Nat) (hk : k ≤ 8) (h : A ≤ T) (h2 : T - A ≤ 65535 * (pw k - 1)) : 0 ≤ T / pw k - A / pw k ∧ T / pw k - A / pw k ≤ 65535 := by
  have : k = 8 ∨ k < 8 := by omega
  rcases this with rfl | hk
  · simp only [pw] at *; omega
  · rcases lt8 hk with rfl | rfl | rfl | rfl | rfl | rfl | rfl | rfl <;> simp only [pw] at * <;> omega
theorem prod_bd {a b : Int} (ha : 0 ≤ a ∧ a < 65536) (hb : 0 ≤ b ∧ b < 65536) : 0 ≤ a * b ∧ a * b ≤ 4294836225 := by
  refine ⟨Int.mul_nonneg ha.1 hb.1, ?_⟩
  have : a * b ≤ 65535 * 65535 := Int.mul_le_mul (by omega) (by omega) hb.1 (by decide)
  omega
/-- the digits at the end of a round -/
theorem mul_end {A T : Int} (i : Nat) (hi : i < 4) (hA : 0 ≤ A) (hA1 : A < pw (i + 4)) (hT : A ≤ T) (hT1 : T < pw (i + 5)) :
    dg A (i + 4) = 0 ∧ T / pw (i + 4) - A / pw (i + 4) = dg T (i + 4) ∧ ∀ k, k < 8 → i + 4 < k → dg A k = dg T k := by
  refine ⟨?_, ?_, fun k hk hk2 => ?_⟩
  · unfold dg; rcases lt4 hi with rfl | rfl | rfl | rfl <;> simp only [pw] at * <;> omega
  · unfold dg; rcases lt4 hi with rfl | rfl | rfl | rfl <;> simp only [pw] at * <;> omega
  · unfold dg; rcases lt4 hi with rfl | rfl | rfl | rfl <;> rcases lt8 hk with rfl | rfl | rfl | rfl | rfl | rfl | rfl | rfl <;> first | omega | (simp only [pw] at *; omega)
end Go.Proofs.Ytkejohmghacdhaa
