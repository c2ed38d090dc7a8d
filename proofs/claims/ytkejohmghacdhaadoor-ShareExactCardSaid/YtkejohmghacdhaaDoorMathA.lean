/- Plain lemmas on 64-bit integers: no program in sight. -/
import Derived.WalkKit
import Derived.IntWalk
namespace Go.Proofs.YtkejohmghacdhaaDoor
set_option linter.unusedVariables false
set_option linter.unusedSimpArgs false
open Go Go.RowKit

/-- a number of 64 bits -/
def In (n : Int) : Prop := -9223372036854775808 ≤ n ∧ n ≤ 9223372036854775807
def InU (n : Int) : Prop := 0 ≤ n ∧ n ≤ 18446744073709551615
def fitB (n : Int) : Bool := decide (-9223372036854775808 ≤ n ∧ n ≤ 9223372036854775807)
/-- the number, or 0 -/
def capN (n : Int) : Int := if fitB n = true then n else 0
/-- the error: 2 where it does not fit -/
def errN (n : Int) : Int := if fitB n = true then 0 else 2

theorem fitB_iff (n : Int) : fitB n = true ↔ In n := by unfold fitB In; simp
theorem fitB_of {n : Int} (h : In n) : fitB n = true := (fitB_iff n).2 h
theorem fitB_false {n : Int} (h : fitB n = false) : ¬ In n := by rw [← fitB_iff]; simp [h]
theorem fitB_not {n : Int} (h : ¬ In n) : fitB n = false := by rw [← fitB_iff] at h; simpa using h
theorem capN_fit {n : Int} (h : fitB n = true) : capN n = n := by unfold capN; rw [if_pos h]
theorem capN_over {n : Int} (h : fitB n = false) : capN n = 0 := by unfold capN; rw [if_neg (by simp [h])]
theorem errN_fit {n : Int} (h : fitB n = true) : errN n = 0 := by unfold errN; rw [if_pos h]
theorem errN_over {n : Int} (h : fitB n = false) : errN n = 2 := by unfold errN; rw [if_neg (by simp [h])]
theorem In_capN (n : Int) : In (capN n) := by
  by_cases h : fitB n = true
  · rw [capN_fit h]; exact (fitB_iff n).1 h
  · rw [capN_over (by simpa using h)]; exact ⟨by decide, by decide⟩

theorem cap_cases (n : Int) : (capN n = n ∧ errN n = 0 ∧ In n) ∨ (capN n = 0 ∧ errN n = 2 ∧ ¬ In n) := by
  rcases Bool.eq_false_or_eq_true (fitB n) with h | h
  · exact .inl ⟨capN_fit h, errN_fit h, (fitB_iff _).1 h⟩
  · exact .inr ⟨capN_over h, errN_over h, fitB_false h⟩
theorem In_of_wf {n : Int} (h : (Lit.int .i64 n).wf = true) : In n := by
  simp [Lit.wf, IntKind.min, IntKind.max, IntKind.signed, IntKind.bits] at h; exact h
theorem InU_of_wf {n : Int} (h : (Lit.int .u64 n).wf = true) : InU n := by
  simp [Lit.wf, IntKind.min, IntKind.max, IntKind.signed, IntKind.bits] at h; unfold InU; omega

theorem wrap64_fit {n : Int} (h : fitB n = true) : wrap64 n = n := IntWalk.wrap64_in n ((fitB_iff n).1 h)
theorem wrap64_of {n : Int} (h : In n) : wrap64 n = n := IntWalk.wrap64_in n h

theorem wrapToInt (v : BitVec 64) : IntKind.i64.wrap (v.toNat : Int) = v.toInt := by
  rw [IntKind.wrap_i64, BitVec.toInt_eq_toNat_cond]
  have := v.isLt
  split <;> omega
theorem wrap64_toInt (n : Int) : wrap64 n = (BitVec.ofInt 64 n).toInt := by
  rw [BitVec.toInt_ofInt]; unfold wrap64
  rw [Int.bmod_def]; split <;> omega
theorem ofInt_wrap64 (n : Int) : BitVec.ofInt 64 (wrap64 n) = BitVec.ofInt 64 n := by
  rw [wrap64_toInt, BitVec.ofInt_toInt]
theorem toInt_of_In {n : Int} (h : In n) : (BitVec.ofInt 64 n).toInt = n := by rw [← wrap64_toInt]; exact wrap64_of h
theorem msb_of_In {n : Int} (h : In n) : (BitVec.ofInt 64 n).msb = decide (n < 0) := by
  rw [BitVec.msb_eq_toInt, toInt_of_In h]
theorem bits_and_toInt (x y : Int) : bits .and .i64 x y = (BitVec.ofInt 64 x &&& BitVec.ofInt 64 y).toInt := wrapToInt _
theorem bits_xor_toInt (x y : Int) : bits .xor .i64 x y = (BitVec.ofInt 64 x ^^^ BitVec.ofInt 64 y).toInt := wrapToInt _
theorem bits_or_toInt (x y : Int) : bits .or .i64 x y = (BitVec.ofInt 64 x ||| BitVec.ofInt 64 y).toInt := wrapToInt _
theorem toInt_In (v : BitVec 64) : In v.toInt := by
  have h1 := BitVec.toInt_lt (x := v); have h2 := BitVec.le_toInt (x := v)
  unfold In; simp at h1 h2; omega
theorem toInt_neg_iff (v : BitVec 64) : v.toInt < 0 ↔ v.msb = true := by
  rw [BitVec.msb_eq_toInt]; simp
/-- the sign of x & y -/
theorem and_neg {x y : Int} (hx : In x) (hy : In y) : bits .and .i64 x y < 0 ↔ x < 0 ∧ y < 0 := by
  rw [bits_and_toInt, toInt_neg_iff, BitVec.msb_and, msb_of_In hx, msb_of_In hy]; simp
/-- the sign of x ^ y -/
theorem xor_neg {x y : Int} (hx : In x) (hy : In y) : bits .xor .i64 x y < 0 ↔ ¬ (x < 0 ↔ y < 0) := by
  rw [bits_xor_toInt, toInt_neg_iff, BitVec.msb_xor, msb_of_In hx, msb_of_In hy]
  by_cases h1 : x < 0 <;> by_cases h2 : y < 0 <;> simp [h1, h2]
theorem In_bits_and (x y : Int) : In (bits .and .i64 x y) := by rw [bits_and_toInt]; exact toInt_In _
theorem In_bits_xor (x y : Int) : In (bits .xor .i64 x y) := by rw [bits_xor_toInt]; exact toInt_In _
theorem In_wrap64 (n : Int) : In (wrap64 n) := by unfold wrap64 In; omega

theorem add_over {a b : Int} (ha : In a) (hb : In b) (h : bits .and .i64 (bits .xor .i64 a (wrap64 (a + b))) (bits .xor .i64 b (wrap64 (a + b))) < 0) : fitB (a + b) = false := by
  rw [and_neg (In_bits_xor _ _) (In_bits_xor _ _), xor_neg ha (In_wrap64 _), xor_neg hb (In_wrap64 _)] at h
  apply fitB_not
  unfold In wrap64 at *; omega
theorem add_fit {a b : Int} (ha : In a) (hb : In b) (h : 0 ≤ bits .and .i64 (bits .xor .i64 a (wrap64 (a + b))) (bits .xor .i64 b (wrap64 (a + b)))) : fitB (a + b) = true := by
  have h' := Int.not_lt.2 h
  rw [and_neg (In_bits_xor _ _) (In_bits_xor _ _), xor_neg ha (In_wrap64 _), xor_neg hb (In_wrap64 _)] at h'
  apply fitB_of
  unfold In wrap64 at *; omega
theorem sub_over {a b : Int} (ha : In a) (hb : In b) (h : bits .and .i64 (bits .xor .i64 a b) (bits .xor .i64 a (wrap64 (a - b))) < 0) : fitB (a - b) = false := by
  rw [and_neg (In_bits_xor _ _) (In_bits_xor _ _), xor_neg ha (In_wrap64 _), xor_neg ha hb] at h
  apply fitB_not
  unfold In wrap64 at *; omega
theorem sub_fit {a b : Int} (ha : In a) (hb : In b) (h : 0 ≤ bits .and .i64 (bits .xor .i64 a b) (bits .xor .i64 a (wrap64 (a - b)))) : fitB (a - b) = true := by
  have h' := Int.not_lt.2 h
  rw [and_neg (In_bits_xor _ _) (In_bits_xor _ _), xor_neg ha (In_wrap64 _), xor_neg ha hb] at h'
  apply fitB_of
  unfold In wrap64 at *; omega
/-! ### division -/
def dvQ (a b : Int) : Int := if b = 0 then 0 else capN (a.fdiv b)
def dvR (a b : Int) : Int := if b = 0 then 0 else if fitB (a.fdiv b) = true then a.fmod b else 0
def dvE (a b : Int) : Int := if b = 0 then 3 else errN (a.fdiv b)
theorem tdiv_range {a b : Int} (ha : In a) (h0 : b ≠ 0) (h1 : b ≠ -1) : In (a.tdiv b) := by
  have hn : (a.tdiv b).natAbs = a.natAbs / b.natAbs := Int.natAbs_tdiv a b
  have hle : a.natAbs / b.natAbs ≤ a.natAbs := Nat.div_le_self _ _
  unfold In at *
  by_cases hb : b = 1
  · subst hb; rw [Int.tdiv_one]; exact ha
  · have h2 : 2 ≤ b.natAbs := by omega
    have h3 : a.natAbs / b.natAbs ≤ a.natAbs / 2 := Nat.div_le_div_left h2 (by decide)
    omega
theorem fdiv_of {a b : Int} (h0 : b ≠ 0) (q r : Int) (h : b * q + r = a) (hr : (0 < b ∧ 0 ≤ r ∧ r < b) ∨ (b < 0 ∧ b < r ∧ r ≤ 0)) : a.fdiv b = q ∧ a.fmod b = r := by
  have e := Int.mul_fdiv_add_fmod a b
  have hm : (0 < b → 0 ≤ a.fmod b ∧ a.fmod b < b) ∧ (b < 0 → b < a.fmod b ∧ a.fmod b ≤ 0) := by
    constructor
    · intro hb; exact ⟨Int.fmod_nonneg_of_pos a hb, Int.fmod_lt_of_pos a hb⟩
    · intro hb
      have := Int.fmod_nonneg_of_pos (-a) (b := -b) (by omega)
      have h2 := Int.fmod_lt_of_pos (-a) (b := -b) (by omega)
      have h3 : (-a).fmod (-b) = -(a.fmod b) := Int.neg_fmod_neg _ _
      omega
  generalize a.fdiv b = Q at *
  generalize a.fmod b = R at *
  have key : b * (Q - q) = r - R := by rw [Int.mul_sub]; omega
  have hq : Q = q := by
    rcases hr with ⟨hb, h1, h2⟩ | ⟨hb, h1, h2⟩
    · obtain ⟨m1, m2⟩ := hm.1 hb
      by_cases hlt : Q - q ≥ 1
      · have := Int.mul_le_mul_of_nonneg_left hlt (Int.le_of_lt hb); omega
      · by_cases hgt : Q - q ≤ -1
        · have := Int.mul_le_mul_of_nonneg_left hgt (Int.le_of_lt hb); omega
        · omega
    · obtain ⟨m1, m2⟩ := hm.2 hb
      by_cases hlt : Q - q ≥ 1
      · have := Int.mul_le_mul_of_nonneg_left hlt (show 0 ≤ -b by omega); rw [Int.neg_mul, Int.neg_mul] at this; omega
      · by_cases hgt : Q - q ≤ -1
        · have := Int.mul_le_mul_of_nonneg_left hgt (show 0 ≤ -b by omega); rw [Int.neg_mul, Int.neg_mul] at this; omega
        · omega
  subst hq
  exact ⟨rfl, by omega⟩
theorem tmod_bd (a b : Int) (h0 : b ≠ 0) : b * a.tdiv b + a.tmod b = a ∧ (0 ≤ a → 0 ≤ a.tmod b) ∧ (a ≤ 0 → a.tmod b ≤ 0) ∧ (0 < b → -b < a.tmod b ∧ a.tmod b < b) ∧ (b < 0 → b < a.tmod b ∧ a.tmod b < -b) := by
  refine ⟨Int.mul_tdiv_add_tmod a b, fun h => Int.tmod_nonneg b h, fun h => ?_, fun h => ?_, fun h => ?_⟩
  · have := Int.tmod_nonneg b (a := -a) (by omega); rw [Int.neg_tmod] at this; omega
  · have h1 := Int.tmod_lt_of_pos a h
    have h2 := Int.tmod_lt_of_pos (-a) h
    rw [Int.neg_tmod] at h2; omega
  · have h1 := Int.tmod_lt_of_pos a (b := -b) (by omega)
    have h2 := Int.tmod_lt_of_pos (-a) (b := -b) (by omega)
    rw [Int.neg_tmod] at h2; rw [Int.tmod_neg] at h1 h2; omega
theorem tmod_range {a b : Int} (hb : In b) (h0 : b ≠ 0) : In (a.tmod b) := by
  obtain ⟨_, _, _, h3, h4⟩ := tmod_bd a b h0
  unfold In at *
  omega
/-- the quotient and the rest go as they are -/
theorem div_keep {a b : Int} (h0 : b ≠ 0) (h : a.tmod b = 0 ∨ 0 ≤ bits .xor .i64 (a.tmod b) b) (ha : In a) (hb : In b) : a.fdiv b = a.tdiv b ∧ a.fmod b = a.tmod b := by
  obtain ⟨e, e1, e2, h3, h4⟩ := tmod_bd a b h0
  have hin := tmod_range (a := a) hb h0
  refine fdiv_of h0 _ _ e ?_
  rcases h with h | h
  · omega
  · have := mt (xor_neg hin hb).2 (by omega)
    omega
/-- they are one step further -/
theorem div_step {a b : Int} (h0 : b ≠ 0) (h : ¬ a.tmod b = 0) (h' : bits .xor .i64 (a.tmod b) b < 0) (ha : In a) (hb : In b) : a.fdiv b = a.tdiv b - 1 ∧ a.fmod b = a.tmod b + b := by
  obtain ⟨e, e1, e2, h3, h4⟩ := tmod_bd a b h0
  have hin := tmod_range (a := a) hb h0
  have := (xor_neg hin hb).1 h'
  refine fdiv_of h0 _ _ (by rw [Int.mul_sub]; omega) ?_
  omega
theorem fdiv_range {a b : Int} (ha : In a) (hb : In b) (h0 : b ≠ 0) (h1 : b ≠ -1) : In (a.fdiv b) := by
  have hn := Int.mul_fdiv_add_fmod a b
  by_cases hs : ¬ a.tmod b = 0 ∧ bits .xor .i64 (a.tmod b) b < 0
  · obtain ⟨e, _⟩ := div_step h0 hs.1 hs.2 ha hb
    have ht := tdiv_range ha h0 h1
    obtain ⟨e', e1, e2, h3, h4⟩ := tmod_bd a b h0
    have hx := (xor_neg (tmod_range (a := a) hb h0) hb).1 hs.2
    rw [e]
    by_cases hb1 : b = 1
    · subst hb1; rw [Int.tmod_one] at hs; omega
    · have hn : (a.tdiv b).natAbs = a.natAbs / b.natAbs := Int.natAbs_tdiv a b
      have h2 : 2 ≤ b.natAbs := by omega
      have h3 : a.natAbs / b.natAbs ≤ a.natAbs / 2 := Nat.div_le_div_left h2 (by decide)
      unfold In at *; omega
  · have := div_keep h0 (by by_cases h : a.tmod b = 0; exact .inl h; exact .inr (by have := not_and.1 hs h; omega)) ha hb
    rw [this.1]; exact tdiv_range ha h0 h1
theorem fdiv_neg_one (a : Int) : a.fdiv (-1) = -a ∧ a.fmod (-1) = 0 := fdiv_of (by decide) _ _ (by omega) (by omega)
theorem dvQ_zero (a : Int) : dvQ a 0 = 0 ∧ dvR a 0 = 0 ∧ dvE a 0 = 3 := ⟨rfl, rfl, rfl⟩
theorem dv_of {a b q r : Int} (h0 : b ≠ 0) (hq : a.fdiv b = q ∧ a.fmod b = r) (hf : In q) : dvQ a b = q ∧ dvR a b = r ∧ dvE a b = 0 := by
  have hfit := fitB_of hf
  unfold dvQ dvR dvE
  rw [if_neg h0, if_neg h0, if_neg h0, hq.1, hq.2, capN_fit hfit, errN_fit hfit, if_pos hfit]
  exact ⟨rfl, rfl, rfl⟩
theorem dv_neg_one (a : Int) : dvQ a (-1) = capN (-a) ∧ dvR a (-1) = 0 ∧ dvE a (-1) = errN (-a) := by
  unfold dvQ dvR dvE
  rw [(fdiv_neg_one a).1, (fdiv_neg_one a).2]
  refine ⟨rfl, by simp, rfl⟩
theorem dv_cases {a b : Int} (ha : In a) (hb : In b) (h0 : b ≠ 0) : (fitB (a.fdiv b) = true ∧ dvQ a b = a.fdiv b ∧ dvR a b = a.fmod b ∧ dvE a b = 0) ∨ (a = -9223372036854775808 ∧ b = -1 ∧ dvQ a b = 0 ∧ dvR a b = 0 ∧ dvE a b = 2) := by
  by_cases hf : fitB (a.fdiv b) = true
  · exact .inl ⟨hf, dv_of h0 ⟨rfl, rfl⟩ ((fitB_iff _).1 hf)⟩
  · have hf' : fitB (a.fdiv b) = false := by simpa using hf
    refine .inr ?_
    have h1 : b = -1 := Classical.byContradiction fun h => hf (fitB_of (fdiv_range ha hb h0 h))
    subst h1
    have hx := fitB_false hf'
    rw [(fdiv_neg_one a).1] at hx
    refine ⟨by unfold In at *; omega, rfl, ?_⟩
    unfold dvQ dvR dvE
    rw [if_neg h0, if_neg h0, if_neg h0, capN_over hf', errN_over hf', if_neg hf]
    exact ⟨rfl, rfl, rfl⟩
theorem In_dvQ (a b : Int) : In (dvQ a b) := by
  unfold dvQ; split
  · exact ⟨by decide, by decide⟩
  · exact In_capN _
theorem In_zero : In 0 := ⟨by decide, by decide⟩
theorem fmod_sign {a b : Int} (h0 : b ≠ 0) : (0 < b ∧ 0 ≤ a.fmod b ∧ a.fmod b < b) ∨ (b < 0 ∧ b < a.fmod b ∧ a.fmod b ≤ 0) := by
  rcases Int.lt_or_gt_of_ne h0 with h | h
  · refine .inr ⟨h, ?_⟩
    have := Int.fmod_nonneg_of_pos (-a) (b := -b) (by omega)
    have h2 := Int.fmod_lt_of_pos (-a) (b := -b) (by omega)
    have h3 : (-a).fmod (-b) = -(a.fmod b) := Int.neg_fmod_neg _ _
    omega
  · exact .inl ⟨h, Int.fmod_nonneg_of_pos a h, Int.fmod_lt_of_pos a h⟩
theorem In_dvR {a b : Int} (hb : In b) : In (dvR a b) := by
  unfold dvR; split
  · exact In_zero
  · split
    · rename_i h0 _; have := fmod_sign (a := a) h0; unfold In at *; omega
    · exact In_zero
end Go.Proofs.YtkejohmghacdhaaDoor
