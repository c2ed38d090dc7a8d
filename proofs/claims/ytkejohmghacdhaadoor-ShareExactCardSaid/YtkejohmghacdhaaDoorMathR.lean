/- Ratios in plain numbers. -/
import Derived.Test.YtkejohmghacdhaaDoorWhole
import Derived.Test.YtkejohmghacdhaaDoorWideA
namespace Go.Proofs.YtkejohmghacdhaaDoor
set_option linter.unusedVariables false
set_option linter.unusedSimpArgs false
open Go Go.RowKit
abbrev ratA (n d : Int) : Value := .agg #[.int .i64 n, .int .i64 d]
def gN (n d : Int) : Nat := Nat.gcd n.natAbs d.natAbs
def mX (n d : Int) : Nat := n.natAbs / gN n d
def mY (n d : Int) : Nat := d.natAbs / gN n d
def mkS (n d : Int) : Bool := decide ((n < 0 ∧ 0 < d) ∨ (0 < n ∧ d < 0))
def mkOk (n d : Int) : Bool := decide (d ≠ 0 ∧ mY n d ≤ 9223372036854775807 ∧ (mX n d ≤ 9223372036854775807 ∨ mkS n d = true))
def mkN (n d : Int) : Int := if mkOk n d = true then sgn (mkS n d) (mX n d) else 0
def mkD (n d : Int) : Int := if mkOk n d = true then (mY n d : Int) else 0
def mkE (n d : Int) : Int := if d = 0 then 3 else if mkOk n d = true then 0 else 2
def ckB (n d : Int) : Bool := decide (1 ≤ d ∧ gN n d = 1)
def ckR (n d : Int) : Int := if ckB n d = true then 0 else 1
theorem ck_true {n d : Int} (h : ckB n d = true) : 1 ≤ d ∧ gN n d = 1 ∧ ckR n d = 0 := by
  have := of_decide_eq_true h
  exact ⟨this.1, this.2, by unfold ckR; rw [if_pos h]⟩
theorem ck_false {n d : Int} (h : ckB n d = false) : ¬ (1 ≤ d ∧ gN n d = 1) ∧ ckR n d = 1 := ⟨of_decide_eq_false h, by unfold ckR; rw [h]; rfl⟩
theorem gN_pos {n d : Int} (h : d ≠ 0) : 0 < gN n d := Nat.gcd_pos_of_pos_right _ (by omega)
theorem mX_bd {n d : Int} (h : d ≠ 0) (hn : In n) : mX n d ≤ 9223372036854775808 := by
  have : mX n d ≤ n.natAbs := Nat.div_le_self _ _
  unfold In at hn; omega
theorem mY_bd {n d : Int} (h : d ≠ 0) (hd : In d) : 0 < mY n d ∧ mY n d ≤ 9223372036854775808 := by
  have h1 : mY n d ≤ d.natAbs := Nat.div_le_self _ _
  have h2 : 0 < mY n d := Nat.div_pos (Nat.le_of_dvd (by omega) (Nat.gcd_dvd_right _ _)) (gN_pos h)
  unfold In at hd; omega
theorem mX_mul (n d : Int) : mX n d * gN n d = n.natAbs := Nat.div_mul_cancel (Nat.gcd_dvd_left _ _)
theorem mY_mul (n d : Int) : mY n d * gN n d = d.natAbs := Nat.div_mul_cancel (Nat.gcd_dvd_right _ _)
theorem mX_zero {n d : Int} (h : d ≠ 0) : mX n d = 0 ↔ n = 0 := by
  have e := mX_mul n d
  have p := gN_pos (n := n) h
  constructor
  · intro h0; rw [h0, Nat.zero_mul] at e; omega
  · intro h0; subst h0
    rcases Nat.eq_zero_or_pos (mX 0 d) with h1 | h1
    · exact h1
    · have := Nat.mul_pos h1 p; simp at e; omega
theorem m_coprime {n d : Int} (h : d ≠ 0) : Nat.gcd (mX n d) (mY n d) = 1 := Nat.coprime_div_gcd_div_gcd (gN_pos h)
theorem mkS_xor {n d : Int} (hn : In n) (hd : In d) (h : d ≠ 0) : (decide (bits .xor .i64 n d < 0) && (n != 0)) = mkS n d := by
  have x := xor_neg hn hd
  unfold mkS
  rw [Bool.eq_iff_iff]
  simp only [Bool.and_eq_true, decide_eq_true_eq, bne_iff_ne, ne_eq]
  rw [x]
  omega
/-- what is made is right -/
theorem mk_right {n d : Int} (h : mkOk n d = true) : d ≠ 0 ∧ mkN n d = sgn (mkS n d) (mX n d) ∧ mkD n d = (mY n d : Int) ∧ mkE n d = 0 ∧ ckB (mkN n d) (mkD n d) = true ∧ mkN n d * d = mkD n d * n := by
  have k := of_decide_eq_true h
  obtain ⟨h0, h1, h2⟩ := k
  have e1 : mkN n d = sgn (mkS n d) (mX n d) := by unfold mkN; rw [if_pos h]
  have e2 : mkD n d = (mY n d : Int) := by unfold mkD; rw [if_pos h]
  refine ⟨h0, e1, e2, by unfold mkE; rw [if_neg h0, if_pos h], ?_, ?_⟩
  · rw [e1, e2]
    have p : 0 < mY n d := Nat.div_pos (Nat.le_of_dvd (by omega) (Nat.gcd_dvd_right _ _)) (gN_pos h0)
    have a : (sgn (mkS n d) (mX n d : Int)).natAbs = mX n d := by unfold sgn; split <;> simp
    refine decide_eq_true ⟨by omega, ?_⟩
    unfold gN
    rw [a, Int.natAbs_natCast]
    exact m_coprime h0
  · rw [e1, e2]
    have a := mX_mul n d
    have b := mY_mul n d
    have z := mX_zero (n := n) h0
    have key : (mX n d : Int) * (d.natAbs : Int) = (mY n d : Int) * (n.natAbs : Int) := by
      rw [← a, ← b, Int.natCast_mul, Int.natCast_mul, Int.mul_left_comm]
    by_cases s : mkS n d = true
    · have hs := of_decide_eq_true s
      rw [s, sgn_true]
      rcases hs with ⟨s1, s2⟩ | ⟨s1, s2⟩
      · rw [show (d.natAbs : Int) = d by omega, show (n.natAbs : Int) = -n by omega, Int.mul_neg] at key
        rw [Int.neg_mul]; omega
      · rw [show (d.natAbs : Int) = -d by omega, show (n.natAbs : Int) = n by omega, Int.mul_neg] at key
        rw [Int.neg_mul]; omega
    · have hs : mkS n d = false := by simpa using s
      have hs' := of_decide_eq_false hs
      rw [hs, sgn_false]
      by_cases n0 : n = 0
      · have := z.2 n0; rw [this, n0]; simp
      · have : (0 < n ∧ 0 < d) ∨ (n < 0 ∧ d < 0) := by omega
        rcases this with ⟨s1, s2⟩ | ⟨s1, s2⟩
        · rw [show (d.natAbs : Int) = d by omega, show (n.natAbs : Int) = n by omega] at key; exact key
        · rw [show (d.natAbs : Int) = -d by omega, show (n.natAbs : Int) = -n by omega, Int.mul_neg, Int.mul_neg] at key; omega
/-- a ratio that is right is made as it is -/
theorem mk_same {n d : Int} (hn : In n) (hd : In d) (h : ckB n d = true) : mkN n d = n ∧ mkD n d = d ∧ mkE n d = 0 := by
  obtain ⟨h1, h2, _⟩ := ck_true h
  have hx : mX n d = n.natAbs := by unfold mX; rw [h2, Nat.div_one]
  have hy : mY n d = d.natAbs := by unfold mY; rw [h2, Nat.div_one]
  have s : mkS n d = decide (n < 0) := by unfold mkS; rw [Bool.eq_iff_iff]; simp; omega
  unfold In at hn hd
  have ok : mkOk n d = true := by
    refine decide_eq_true ⟨by omega, by rw [hy]; omega, ?_⟩
    rw [hx, s]
    by_cases h0 : n < 0
    · exact .inr (by simpa using h0)
    · exact .inl (by omega)
  obtain ⟨_, e1, e2, e3, _⟩ := mk_right ok
  refine ⟨?_, by rw [e2, hy]; omega, e3⟩
  rw [e1, s, hx]
  by_cases h0 : n < 0
  · rw [show decide (n < 0) = true by simpa using h0, sgn_true]; omega
  · rw [show decide (n < 0) = false by simpa using h0, sgn_false]; omega
theorem mk_cases (n d : Int) : (d = 0 ∧ mkN n d = 0 ∧ mkD n d = 0 ∧ mkE n d = 3) ∨ (d ≠ 0 ∧ mkOk n d = true ∧ mkN n d = sgn (mkS n d) (mX n d) ∧ mkD n d = (mY n d : Int) ∧ mkE n d = 0) ∨ (d ≠ 0 ∧ mkOk n d = false ∧ mkN n d = 0 ∧ mkD n d = 0 ∧ mkE n d = 2) := by
  by_cases h0 : d = 0
  · have : mkOk n d = false := decide_eq_false (fun h => h.1 h0)
    refine .inl ⟨h0, by unfold mkN; rw [this]; rfl, by unfold mkD; rw [this]; rfl, by unfold mkE; rw [if_pos h0]⟩
  · cases h : mkOk n d
    · exact .inr (.inr ⟨h0, rfl, by unfold mkN; rw [h]; rfl, by unfold mkD; rw [h]; rfl, by unfold mkE; rw [if_neg h0, h]; rfl⟩)
    · have k := mk_right h
      exact .inr (.inl ⟨h0, rfl, k.2.1, k.2.2.1, k.2.2.2.1⟩)
theorem dv_one {a c : Int} (ha : In a) (hc : In c) (h : 1 ≤ c) : dvQ a c = a / c ∧ dvR a c = a % c ∧ dvE a c = 0 ∧ In (a / c) := by
  have h1 : a.fdiv c = a / c := Int.fdiv_eq_ediv_of_nonneg _ (by omega)
  have h2 : a.fmod c = a % c := Int.fmod_eq_emod_of_nonneg _ (by omega)
  rcases dv_cases ha hc (by omega) with ⟨f, d1, d2, d3⟩ | ⟨_, x, _⟩
  · rw [h1] at f
    exact ⟨by rw [d1, h1], by rw [d2, h2], d3, (fitB_iff _).1 f⟩
  · omega
def cpB (n d m c : Int) : Bool := ckB n d && ckB m c
def cpV (n d m c : Int) : Int := if cpB n d m c = true then cmpI (n * c) (m * d) else 0
def cpE (n d m c : Int) : Int := if cpB n d m c = true then 0 else 1
def flV (n d : Int) : Int := if ckB n d = true then n / d else 0
def clV (n d : Int) : Int := if ckB n d = true then (if 1 < d then n / d + 1 else n / d) else 0
theorem half_div {n d : Int} (hn : In n) (h : 1 < d) : -4611686018427387904 ≤ n / d ∧ n / d ≤ 4611686018427387903 := by
  unfold In at hn
  have e := Int.mul_ediv_add_emod n d
  have r0 := Int.emod_nonneg n (show d ≠ 0 by omega)
  have r1 := Int.emod_lt_of_pos n (show 0 < d by omega)
  generalize n / d = q at *
  generalize n % d = r at *
  constructor
  · apply Classical.byContradiction
    intro hq
    have : d * q ≤ d * (-4611686018427387905) := Int.mul_le_mul_of_nonneg_left (by omega) (by omega)
    omega
  · apply Classical.byContradiction
    intro hq
    have : d * 4611686018427387904 ≤ d * q := Int.mul_le_mul_of_nonneg_left (by omega) (by omega)
    omega
end Go.Proofs.YtkejohmghacdhaaDoor
