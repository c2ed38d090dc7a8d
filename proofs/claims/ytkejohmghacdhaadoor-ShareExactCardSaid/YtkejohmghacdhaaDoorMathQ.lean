/- What divides two numbers: by halves and differences. No program in sight. -/
import Derived.Test.YtkejohmghacdhaaDoorMathA
import Derived.Lib.TrailingZeros
namespace Go.Proofs.YtkejohmghacdhaaDoor
set_option linter.unusedVariables false
set_option linter.unusedSimpArgs false
open Go Go.RowKit
theorem cop2 {x : Nat} (h : x % 2 = 1) (k : Nat) : Nat.Coprime (2 ^ k) x := by
  refine Nat.Coprime.pow_left k ?_
  show Nat.gcd 2 x = 1
  rw [Nat.gcd_rec, h]; decide
theorem ctz_spec {y : Nat} (h0 : 0 < y) (h : y < 18446744073709551616) : ∃ m, y = 2 ^ Lib.ctz 64 y * (2 * m + 1) ∧ Lib.ctz 64 y < 64 ∧ y / 2 ^ Lib.ctz 64 y = 2 * m + 1 := by
  obtain ⟨m, h1, h2⟩ := Lib.ctzFrom_spec 64 y h0 h
  have e : Lib.ctz 64 y = Lib.ctzFrom 64 y := by unfold Lib.ctz; rw [if_neg (by omega)]
  rw [e]
  refine ⟨m, h1, h2, ?_⟩
  have := Nat.mul_div_cancel_left (2 * m + 1) (Nat.two_pow_pos (Lib.ctzFrom 64 y))
  rw [← h1] at this; exact this
/-- an even part of y divides no odd number -/
theorem gcd_shift {x y : Nat} (hx : x % 2 = 1) (h0 : 0 < y) (h : y < 18446744073709551616) :
    Lib.ctz 64 y < 64 ∧ 0 < y / 2 ^ Lib.ctz 64 y ∧ y / 2 ^ Lib.ctz 64 y ≤ y ∧ y / 2 ^ Lib.ctz 64 y % 2 = 1 ∧ Nat.gcd x (y / 2 ^ Lib.ctz 64 y) = Nat.gcd x y := by
  obtain ⟨m, h1, h2, h3⟩ := ctz_spec h0 h
  refine ⟨h2, by omega, Nat.div_le_self _ _, by omega, ?_⟩
  rw [h3]
  have := Nat.Coprime.gcd_mul_left_cancel_right (2 * m + 1) (cop2 hx (Lib.ctz 64 y))
  rw [← h1] at this; exact this.symm
theorem gcd_sub_le {x y : Nat} (h : x ≤ y) : Nat.gcd x (y - x) = Nat.gcd x y := Nat.gcd_sub_self_right h
theorem gcd_sub_ge {x y : Nat} (h : y ≤ x) : Nat.gcd y (x - y) = Nat.gcd x y := by rw [Nat.gcd_sub_self_right h, Nat.gcd_comm]
theorem gcd_start {X Y : Nat} (hX : 0 < X) (hY : 0 < Y) (hx : X < 18446744073709551616) (hy : Y < 18446744073709551616) :
    Lib.ctz 64 (X ||| Y) < 64 ∧ Lib.ctz 64 X < 64 ∧ X / 2 ^ Lib.ctz 64 X % 2 = 1 ∧ X / 2 ^ Lib.ctz 64 X ≤ X ∧ Nat.gcd (X / 2 ^ Lib.ctz 64 X) Y * 2 ^ Lib.ctz 64 (X ||| Y) = Nat.gcd X Y := by
  have hor : X ||| Y < 2 ^ 64 := Nat.or_lt_two_pow hx hy
  have hne : 0 < X ||| Y := by
    rcases Nat.eq_zero_or_pos (X ||| Y) with h | h
    · have := (Nat.or_eq_zero_iff.1 h).1; omega
    · exact h
  obtain ⟨m, e1, l1, d1⟩ := ctz_spec hne hor
  obtain ⟨n, e2, l2, d2⟩ := ctz_spec hX hx
  generalize Lib.ctz 64 (X ||| Y) = t at *
  generalize Lib.ctz 64 X = p at *
  rw [d2]
  have z : (X ||| Y) % 2 ^ t = 0 := by rw [e1]; exact Nat.mul_mod_right _ _
  rw [Nat.or_mod_two_pow] at z
  obtain ⟨z1, z2⟩ := Nat.or_eq_zero_iff.1 z
  have f1 : X = 2 ^ t * (X / 2 ^ t) := by have := Nat.div_add_mod X (2 ^ t); omega
  have f2 : Y = 2 ^ t * (Y / 2 ^ t) := by have := Nat.div_add_mod Y (2 ^ t); omega
  have o : X / 2 ^ t % 2 = 1 ∨ Y / 2 ^ t % 2 = 1 := by
    have h : (X / 2 ^ t ||| Y / 2 ^ t) = 2 * m + 1 := by rw [← Nat.shiftRight_eq_div_pow, ← Nat.shiftRight_eq_div_pow, ← Nat.shiftRight_or_distrib, Nat.shiftRight_eq_div_pow, d1]
    have h2 : (X / 2 ^ t ||| Y / 2 ^ t).testBit 0 = true := by rw [h]; simp [Nat.testBit_zero]
    rw [Nat.testBit_or] at h2
    simp only [Nat.testBit_zero, Bool.or_eq_true, decide_eq_true_eq] at h2
    exact h2
  generalize X / 2 ^ t = X' at *
  generalize Y / 2 ^ t = Y' at *
  have xo : (2 * n + 1) % 2 = 1 := by omega
  refine ⟨l1, l2, by omega, ?_, ?_⟩
  · rw [← d2]; exact Nat.div_le_self _ _
  have g1 : Nat.gcd (2 * n + 1) Y = Nat.gcd (2 * n + 1) Y' := by
    have := Nat.Coprime.gcd_mul_left_cancel_right Y' (cop2 xo t)
    rw [← f2] at this; exact this
  have g2 : Nat.gcd X Y = 2 ^ t * Nat.gcd X' Y' := by
    have := Nat.gcd_mul_left (2 ^ t) X' Y'
    rw [← f1, ← f2] at this; exact this
  rw [g1, g2, Nat.mul_comm]
  congr 1
  rcases o with o | o
  · have a : (2 * n + 1) ∣ X' := by
      refine Nat.Coprime.dvd_of_dvd_mul_left (cop2 xo t).symm ?_
      rw [← f1, e2]; exact Nat.dvd_mul_left _ _
    have b : X' ∣ 2 * n + 1 := by
      refine Nat.Coprime.dvd_of_dvd_mul_left (cop2 o p).symm ?_
      rw [← e2]; rw [f1]; exact Nat.dvd_mul_left _ _
    rw [Nat.dvd_antisymm a b]
  · have a := Nat.Coprime.gcd_mul_left_cancel X' (cop2 o t)
    have b := Nat.Coprime.gcd_mul_left_cancel (2 * n + 1) (cop2 o p)
    rw [← f1] at a
    rw [← e2] at b
    rw [← b, a]
end Go.Proofs.YtkejohmghacdhaaDoor
