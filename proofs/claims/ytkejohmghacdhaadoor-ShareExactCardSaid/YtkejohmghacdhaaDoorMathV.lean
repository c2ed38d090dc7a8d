/- The schoolbook division of two words by one, in plain numbers: no program in sight. -/
import Derived.Test.YtkejohmghacdhaaDoorMathW
namespace Go.Proofs.YtkejohmghacdhaaDoor
set_option linter.unusedVariables false
set_option linter.unusedSimpArgs false
open Go Go.RowKit
/-- one digit's quotient -/
def digQ (u d Y : Int) : Int := (u * 4294967296 + d) / Y
def digR (u d Y : Int) : Int := (u * 4294967296 + d) % Y
structure Dig (u d Y y1 y0 : Int) : Prop where
  y : Y = y1 * 4294967296 + y0
  lo : 0 ≤ y0 ∧ y0 < 4294967296
  hi : 2147483648 ≤ y1 ∧ y1 < 4294967296
  u : 0 ≤ u ∧ u < Y
  d : 0 ≤ d ∧ d < 4294967296
theorem Dig.pos {u d Y y1 y0 : Int} (h : Dig u d Y y1 y0) : 0 < Y := by obtain ⟨a, b, c, _, _⟩ := h; omega
theorem Dig.qlt {u d Y y1 y0 : Int} (h : Dig u d Y y1 y0) : 0 ≤ digQ u d Y ∧ digQ u d Y < 4294967296 := by
  have p := h.pos
  obtain ⟨a, b, c, e, f⟩ := h
  unfold digQ
  refine ⟨Int.ediv_nonneg (by omega) (by omega), ?_⟩
  refine Int.ediv_lt_of_lt_mul p ?_
  have : u * 4294967296 + d < (u + 1) * 4294967296 := by omega
  have : (u + 1) * 4294967296 ≤ Y * 4294967296 := by omega
  rw [Int.mul_comm]
  omega
theorem Dig.done {u d Y y1 y0 q r : Int} (h : Dig u d Y y1 y0) (e : q * y1 + r = u) (c : q * y0 ≤ 4294967296 * r + d) (hQ : digQ u d Y ≤ q) : q = digQ u d Y := by
  have p := h.pos
  obtain ⟨a, _, _, _, _⟩ := h
  have h1 : q * Y ≤ u * 4294967296 + d := by
    rw [a, Int.mul_add, ← Int.mul_assoc, ← e, Int.add_mul]; omega
  have h2 : q ≤ digQ u d Y := Int.le_ediv_of_mul_le p h1
  omega
theorem Dig.step {u d Y y1 y0 q r : Int} (h : Dig u d Y y1 y0) (e : q * y1 + r = u) (c : 4294967296 ≤ q ∨ 4294967296 * r + d < q * y0) (hQ : digQ u d Y ≤ q) : digQ u d Y ≤ q - 1 := by
  have p := h.pos
  have l := h.qlt
  rcases c with c | c
  · omega
  · obtain ⟨a, _, _, _, _⟩ := h
    have h1 : u * 4294967296 + d < q * Y := by
      rw [a, Int.mul_add, ← Int.mul_assoc, ← e, Int.add_mul]; omega
    have h2 : digQ u d Y < q := Int.ediv_lt_of_lt_mul p h1
    omega
theorem Dig.start {u d Y y1 y0 : Int} (h : Dig u d Y y1 y0) : digQ u d Y ≤ u / y1 ∧ 0 ≤ u / y1 ∧ u / y1 ≤ 4294967297 ∧ u / y1 * y1 + u % y1 = u ∧ 0 ≤ u % y1 ∧ u % y1 < 4294967296 ∧ u - u / y1 * y1 = u % y1 ∧ 0 ≤ u / y1 * y1 ∧ u / y1 * y1 ≤ u := by
  have p := h.pos
  have l := h.qlt
  obtain ⟨a, b, c, e, f⟩ := h
  have y1p : 0 < y1 := by omega
  have m1 := Int.mul_ediv_add_emod u y1
  have m2 := Int.emod_nonneg u (b := y1) (by omega)
  have m3 := Int.emod_lt_of_pos u y1p
  have mc : y1 * (u / y1) = u / y1 * y1 := Int.mul_comm _ _
  have q0 : 0 ≤ u / y1 := Int.ediv_nonneg e.1 (by omega)
  have q1 : digQ u d Y ≤ u / y1 := by
    refine Int.le_ediv_of_mul_le y1p ?_
    have h1 : digQ u d Y * Y ≤ u * 4294967296 + d := Int.ediv_mul_le _ (by omega)
    have h0 : digQ u d Y * Y = digQ u d Y * y1 * 4294967296 + digQ u d Y * y0 := by generalize digQ u d Y = Q; rw [a, Int.mul_add, ← Int.mul_assoc]
    have h2 : 0 ≤ digQ u d Y * y0 := Int.mul_nonneg l.1 b.1
    have h3 : digQ u d Y * y1 * 4294967296 < (u + 1) * 4294967296 := by omega
    have h4 : digQ u d Y * y1 < u + 1 := Int.lt_of_mul_lt_mul_right h3 (by decide)
    omega
  have q2 : u / y1 ≤ 4294967297 := by
    have h1 : u / y1 < 4294967298 := by
      refine Int.ediv_lt_of_lt_mul y1p ?_
      omega
    omega
  have q3 : 0 ≤ u / y1 * y1 := Int.mul_nonneg q0 (by omega)
  exact ⟨q1, q0, q2, by omega, m2, by omega, by omega, q3, by omega⟩
/-- a digit too great by one or two is set right -/
theorem Dig.low {y0 q : Int} (hq : 0 ≤ q) (hq2 : q ≤ 4294967297) (h : 0 ≤ y0 ∧ y0 < 4294967296) : 0 ≤ q * y0 ∧ q * y0 ≤ 18446744073709551615 := by
  refine ⟨Int.mul_nonneg hq h.1, ?_⟩
  have h1 : q * y0 ≤ 4294967297 * y0 := Int.mul_le_mul_of_nonneg_right hq2 h.1
  omega
theorem Dig.brk {u d Y y1 y0 q r : Int} (h : Dig u d Y y1 y0) (e : q * y1 + r = u) (hq : 0 ≤ q) (hq2 : q ≤ 4294967296) (hr : 4294967296 ≤ r) : q * y0 ≤ 4294967296 * r + d := by
  obtain ⟨_, b, _, _, f⟩ := h
  have h1 : q * y0 ≤ 4294967296 * y0 := Int.mul_le_mul_of_nonneg_right hq2 b.1
  omega
theorem Dig.rem {u d Y y1 y0 : Int} (h : Dig u d Y y1 y0) : u * 4294967296 + d - digQ u d Y * Y = digR u d Y ∧ 0 ≤ digR u d Y ∧ digR u d Y < Y := by
  have p := h.pos
  have m := Int.mul_ediv_add_emod (u * 4294967296 + d) Y
  have c : Y * digQ u d Y = digQ u d Y * Y := Int.mul_comm _ _
  unfold digQ digR at *
  exact ⟨by omega, Int.emod_nonneg _ (by omega), Int.emod_lt_of_pos _ p⟩
theorem wrap_digR {u d Y y1 y0 : Int} (h : Dig u d Y y1 y0) (hY : Y ≤ 18446744073709551615) :
    IntKind.u64.wrap (IntKind.u64.wrap (IntKind.u64.wrap (u * 4294967296) + d) - IntKind.u64.wrap (digQ u d Y * Y)) = digR u d Y := by
  obtain ⟨e, r1, r2⟩ := h.rem
  simp only [IntKind.wrap_u64]
  rw [Int.sub_emod, Int.emod_emod, Int.emod_emod, Int.add_emod, Int.emod_emod, ← Int.add_emod, ← Int.sub_emod, e]
  exact Int.emod_eq_of_lt r1 (by omega)
/-- The whole of it: both digits. 's': by how much all is shifted up. -/
theorem div64_all (hi lo y S : Int) (hS : 0 < S) (h0 : 0 ≤ hi) (h1 : hi < y) (hl : 0 ≤ lo ∧ lo < 18446744073709551616) (u a b Y : Int) (hY : Y = y * S)
    (hu : u * 18446744073709551616 + (a * 4294967296 + b) = (hi * 18446744073709551616 + lo) * S) (ha : 0 ≤ a ∧ a < 4294967296) (hb : 0 ≤ b ∧ b < 4294967296) (hYp : 0 < Y) :
    digQ u a Y * 4294967296 + digQ (digR u a Y) b Y = (hi * 18446744073709551616 + lo) / y ∧ digR (digR u a Y) b Y = (hi * 18446744073709551616 + lo) % y * S := by
  have yp : 0 < y := by omega
  generalize hn : hi * 18446744073709551616 + lo = n at *
  have m1 := Int.mul_ediv_add_emod (u * 4294967296 + a) Y
  have m2 := Int.mul_ediv_add_emod (digR u a Y * 4294967296 + b) Y
  have r2 : 0 ≤ digR (digR u a Y) b Y ∧ digR (digR u a Y) b Y < Y := ⟨Int.emod_nonneg _ (by omega), Int.emod_lt_of_pos _ hYp⟩
  have e : Y * (digQ u a Y * 4294967296 + digQ (digR u a Y) b Y) + digR (digR u a Y) b Y = n * S := by
    rw [← hu, Int.mul_add]
    have : Y * (digQ u a Y * 4294967296) = Y * digQ u a Y * 4294967296 := by rw [Int.mul_assoc]
    rw [this]
    unfold digQ digR at *
    omega
  have k1 := Int.mul_ediv_add_emod n y
  have k2 := Int.emod_nonneg n (b := y) (by omega)
  have k3 := Int.emod_lt_of_pos n yp
  have e2 : Y * (n / y) + n % y * S = n * S := by
    rw [hY, Int.mul_right_comm, ← Int.add_mul, k1]
  have k4 : 0 ≤ n % y * S := Int.mul_nonneg k2 (by omega)
  have k5 : n % y * S < Y := by rw [hY]; exact Int.mul_lt_mul_of_pos_right k3 hS
  generalize digQ u a Y * 4294967296 + digQ (digR u a Y) b Y = Q at *
  generalize digR (digR u a Y) b Y = R at *
  generalize n / y = q at *
  generalize n % y * S = r at *
  have key : Y * (Q - q) = r - R := by rw [Int.mul_sub]; omega
  have hq : Q = q := by
    by_cases hlt : 1 ≤ Q - q
    · have := Int.mul_le_mul_of_nonneg_left hlt (Int.le_of_lt hYp); omega
    · by_cases hgt : Q - q ≤ -1
      · have := Int.mul_le_mul_of_nonneg_left hgt (Int.le_of_lt hYp); omega
      · omega
  subst hq
  exact ⟨rfl, by omega⟩
/-! ### bits of words -/
theorem or_u64_add (s : Nat) (x y : Nat) (hx : 2 ^ s * x < 18446744073709551616) (hy : y < 2 ^ s) (hs : s ≤ 64) : bits .or .u64 ((2 ^ s * x : Nat) : Int) (y : Int) = ((2 ^ s * x + y : Nat) : Int) := by
  have h2 : y < 18446744073709551616 := Nat.lt_of_lt_of_le hy (by
    have := Nat.pow_le_pow_right (n := 2) (by decide) hs; omega)
  have e : (BitVec.ofInt 64 ((2 ^ s * x : Nat) : Int) ||| BitVec.ofInt 64 (y : Int)).toNat = 2 ^ s * x + y := by
    rw [BitVec.toNat_or]
    simp only [BitVec.ofInt_natCast, BitVec.toNat_ofNat]
    rw [Nat.mod_eq_of_lt hx, Nat.mod_eq_of_lt h2, ← Nat.two_pow_add_eq_or_of_lt hy]
  show IntKind.u64.wrap ((BitVec.ofInt 64 ((2 ^ s * x : Nat) : Int) ||| BitVec.ofInt 64 (y : Int)).toNat : Int) = _
  rw [e, IntKind.wrap_u64]
  have : 2 ^ s * x + y < 18446744073709551616 := by
    rw [← e]; exact BitVec.isLt _
  omega
theorem and_u64_low (x : Int) (h : InU x) : bits .and .u64 x 4294967295 = x % 4294967296 := by
  unfold InU at h
  obtain ⟨n, rfl⟩ := Int.eq_ofNat_of_zero_le h.1
  have hn : n < 18446744073709551616 := by omega
  have e : (BitVec.ofInt 64 (n : Int) &&& BitVec.ofInt 64 4294967295).toNat = n % 4294967296 := by
    rw [BitVec.toNat_and]
    rw [show BitVec.ofInt 64 4294967295 = BitVec.ofNat 64 4294967295 from rfl, BitVec.ofInt_natCast]
    simp only [BitVec.toNat_ofNat]
    rw [Nat.mod_eq_of_lt hn, show 4294967295 % 2 ^ 64 = 2 ^ 32 - 1 from rfl, Nat.and_two_pow_sub_one_eq_mod]
  show IntKind.u64.wrap ((BitVec.ofInt 64 (n : Int) &&& BitVec.ofInt 64 4294967295).toNat : Int) = _
  rw [e, IntKind.wrap_u64]
  omega
end Go.Proofs.YtkejohmghacdhaaDoor
