/- The library's division of two words by one. -/
import Derived.Test.YtkejohmghacdhaaDoorWideC
import Derived.Test.YtkejohmghacdhaaDoorMathV
import Derived.Lib.BitFns
namespace Go.Proofs.YtkejohmghacdhaaDoor
set_option linter.unusedVariables false
set_option linter.unusedSimpArgs false
open Go.RowKit
theorem bitLen_spec (x : Nat) (h0 : 0 < x) (h : x < 2 ^ 64) : 1 ≤ Lib.bitLen x ∧ Lib.bitLen x ≤ 64 ∧ 2 ^ (Lib.bitLen x - 1) ≤ x ∧ x < 2 ^ Lib.bitLen x := by
  have h1 : 1 ≤ Lib.bitLen x := by rw [Lib.bitLen_half x (by omega) h]; omega
  have h2 : Lib.bitLen x ≤ 64 := Lib.bitLen_le x 64 (by omega) h
  refine ⟨h1, h2, ?_, ?_⟩
  · rcases Nat.lt_or_ge x (2 ^ (Lib.bitLen x - 1)) with h3 | h3
    · have := Lib.bitLen_le x (Lib.bitLen x - 1) (by omega) h3; omega
    · exact h3
  · rcases Nat.lt_or_ge x (2 ^ Lib.bitLen x) with h3 | h3
    · exact h3
    · have h4 := Lib.bitLen_shift (Lib.bitLen x) x h3 h
      have h5 : 0 < x / 2 ^ Lib.bitLen x := Nat.div_pos h3 (Nat.two_pow_pos _)
      have h6 : x / 2 ^ Lib.bitLen x < 2 ^ 64 := Nat.lt_of_le_of_lt (Nat.div_le_self _ _) h
      have h7 : 1 ≤ Lib.bitLen (x / 2 ^ Lib.bitLen x) := by rw [Lib.bitLen_half _ (by omega) h6]; omega
      omega
/-- by how much a word is shifted up -/
theorem shift_up (y : Int) (h0 : 0 < y) (h : y ≤ 18446744073709551615) : ∃ s : Nat, s ≤ 63 ∧ 64 - (Lib.bitLen y.toNat : Int) = s ∧ 9223372036854775808 ≤ y * 2 ^ s ∧ y * 2 ^ s ≤ 18446744073709551615 := by
  obtain ⟨b1, b2, b3, b4⟩ := bitLen_spec y.toNat (by omega) (by omega)
  refine ⟨64 - Lib.bitLen y.toNat, by omega, by omega, ?_, ?_⟩
  · have e : 2 ^ (Lib.bitLen y.toNat - 1) * 2 ^ (64 - Lib.bitLen y.toNat) = 9223372036854775808 := by
      rw [← Nat.pow_add, show Lib.bitLen y.toNat - 1 + (64 - Lib.bitLen y.toNat) = 63 by omega]
    have := Nat.mul_le_mul_right (2 ^ (64 - Lib.bitLen y.toNat)) b3
    rw [e] at this
    have c : ((y.toNat * 2 ^ (64 - Lib.bitLen y.toNat) : Nat) : Int) = y * 2 ^ (64 - Lib.bitLen y.toNat) := by
      rw [Int.natCast_mul, Int.natCast_pow, Int.toNat_of_nonneg (by omega)]; rfl
    rw [← c]; omega
  · have e : 2 ^ Lib.bitLen y.toNat * 2 ^ (64 - Lib.bitLen y.toNat) = 18446744073709551616 := by
      rw [← Nat.pow_add, show Lib.bitLen y.toNat + (64 - Lib.bitLen y.toNat) = 64 by omega]
    have := Nat.mul_lt_mul_of_pos_right b4 (Nat.two_pow_pos (64 - Lib.bitLen y.toNat))
    rw [e] at this
    have c : ((y.toNat * 2 ^ (64 - Lib.bitLen y.toNat) : Nat) : Int) = y * 2 ^ (64 - Lib.bitLen y.toNat) := by
      rw [Int.natCast_mul, Int.natCast_pow, Int.toNat_of_nonneg (by omega)]; rfl
    rw [← c]; omega
/-- the words, shifted up -/
theorem shifted_words (hi lo y : Int) (s : Nat) (hs : s ≤ 63) (h0 : 0 ≤ hi) (h1 : hi < y) (hl : 0 ≤ lo ∧ lo < 18446744073709551616) (hY : y * 2 ^ s ≤ 18446744073709551615) :
    ∃ u : Int, bits .or .u64 (IntKind.u64.wrap (hi * 2 ^ s)) (lo / 2 ^ (64 - (s : Int)).toNat) = u ∧ 0 ≤ u ∧ u < y * 2 ^ s ∧ u * 18446744073709551616 + IntKind.u64.wrap (lo * 2 ^ s) = (hi * 18446744073709551616 + lo) * 2 ^ s := by
  obtain ⟨a, rfl⟩ := Int.eq_ofNat_of_zero_le h0
  obtain ⟨b, rfl⟩ := Int.eq_ofNat_of_zero_le hl.1
  have hb : b < 18446744073709551616 := by omega
  have e64 : (2 : Nat) ^ s * 2 ^ (64 - s) = 18446744073709551616 := by rw [← Nat.pow_add, show s + (64 - s) = 64 by omega]
  have p1 : 0 < (2 : Nat) ^ s := Nat.two_pow_pos s
  have p2 : 0 < (2 : Nat) ^ (64 - s) := Nat.two_pow_pos _
  have es : (64 - (s : Int)).toNat = 64 - s := by omega
  have cs : ((2 : Int) ^ s) = ((2 ^ s : Nat) : Int) := by rw [Int.natCast_pow]; rfl
  have cs2 : ((2 : Int) ^ (64 - s)) = ((2 ^ (64 - s) : Nat) : Int) := by rw [Int.natCast_pow]; rfl
  have q1 : b / 2 ^ (64 - s) < 2 ^ s := Nat.div_lt_of_lt_mul (by rw [Nat.mul_comm, e64]; exact hb)
  have hy' : (a : Int) + 1 ≤ y := by omega
  have m1 : ((a : Int) + 1) * 2 ^ s ≤ y * 2 ^ s := Int.mul_le_mul_of_nonneg_right hy' (by rw [cs]; exact Int.natCast_nonneg _)
  have m2 : (2 : Nat) ^ s * a + 2 ^ s ≤ 18446744073709551615 := by
    rw [Int.add_mul, Int.one_mul, cs, ← Int.natCast_mul] at m1
    have : (2 : Nat) ^ s * a = a * 2 ^ s := Nat.mul_comm _ _
    rw [cs] at hY
    omega
  refine ⟨((2 ^ s * a + b / 2 ^ (64 - s) : Nat) : Int), ?_, Int.natCast_nonneg _, ?_, ?_⟩
  · rw [es, cs, cs2, ← Int.natCast_mul, IntKind.wrap_u64, ← Int.natCast_ediv, Nat.mul_comm a]
    have : (((2 ^ s * a : Nat) : Int) % 18446744073709551616) = ((2 ^ s * a : Nat) : Int) := by omega
    rw [this]
    exact or_u64_add s a (b / 2 ^ (64 - s)) (by omega) q1 (by omega)
  · rw [Int.add_mul, Int.one_mul, cs, ← Int.natCast_mul, Nat.mul_comm a] at m1
    rw [cs]
    omega
  · rw [cs, IntKind.wrap_u64, ← Int.natCast_mul, Int.add_mul]
    have d1 := Nat.div_add_mod b (2 ^ (64 - s))
    -- lo * 2^s = (lo / 2^(64-s)) * 2^64 + rest
    have d2 : b * 2 ^ s = b / 2 ^ (64 - s) * 18446744073709551616 + b % 2 ^ (64 - s) * 2 ^ s := by
      rw [← e64]
      have : b * 2 ^ s = (2 ^ (64 - s) * (b / 2 ^ (64 - s)) + b % 2 ^ (64 - s)) * 2 ^ s := by rw [d1]
      rw [this, Nat.add_mul]
      congr 1
      rw [Nat.mul_comm (2 ^ (64 - s)), Nat.mul_assoc, Nat.mul_comm (2 ^ (64 - s))]
    have d3 : b % 2 ^ (64 - s) * 2 ^ s < 18446744073709551616 := by
      rw [← e64, Nat.mul_comm (2 ^ s)]
      exact Nat.mul_lt_mul_of_pos_right (Nat.mod_lt _ p2) p1
    have d4 : (a : Int) * 18446744073709551616 * ((2 ^ s : Nat) : Int) = ((2 ^ s * a : Nat) : Int) * 18446744073709551616 := by
      rw [Int.mul_right_comm, ← Int.natCast_mul, Nat.mul_comm a]
    rw [d4, ← Int.natCast_mul b, d2]
    generalize b % 2 ^ (64 - s) * 2 ^ s = z at *
    generalize b / 2 ^ (64 - s) = q at *
    generalize 2 ^ s * a = A at *
    omega
end Go.Proofs.YtkejohmghacdhaaDoor
