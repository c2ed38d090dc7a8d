/- Numbers of 128 bits: no program in sight. -/
import Derived.Test.YtkejohmghacdhaaDoorMathA
namespace Go.Proofs.YtkejohmghacdhaaDoor
set_option linter.unusedVariables false
set_option linter.unusedSimpArgs false
open Go Go.RowKit
/-- the upper word, and the lower one -/
def hiW (n : Int) : Int := n / 18446744073709551616
def loW (n : Int) : Int := n % 18446744073709551616
/-- two words' number -/
def valW (h l : Int) : Int := h * 18446744073709551616 + l
def InW (n : Int) : Prop := -170141183460469231731687303715884105728 ≤ n ∧ n ≤ 170141183460469231731687303715884105727
def fitW (n : Int) : Bool := decide (-170141183460469231731687303715884105728 ≤ n ∧ n ≤ 170141183460469231731687303715884105727)
def capW (n : Int) : Int := if fitW n = true then n else 0
def errW (n : Int) : Int := if fitW n = true then 0 else 2
theorem fitW_iff (n : Int) : fitW n = true ↔ InW n := by unfold fitW InW; simp
theorem capW_cases (n : Int) : (capW n = n ∧ errW n = 0 ∧ InW n ∧ fitW n = true) ∨ (capW n = 0 ∧ errW n = 2 ∧ ¬ InW n ∧ fitW n = false) := by
  rcases Bool.eq_false_or_eq_true (fitW n) with h | h
  · exact .inl ⟨by unfold capW; rw [if_pos h], by unfold errW; rw [if_pos h], (fitW_iff n).1 h, h⟩
  · exact .inr ⟨by unfold capW; rw [h]; rfl, by unfold errW; rw [h]; rfl, by rw [← fitW_iff]; simp [h], h⟩
theorem capW_of {n : Int} (h : InW n) : capW n = n ∧ errW n = 0 := by
  have h' := (fitW_iff n).2 h
  exact ⟨by unfold capW; rw [if_pos h'], by unfold errW; rw [if_pos h']⟩
theorem capW_not {n : Int} (h : ¬ InW n) : capW n = 0 ∧ errW n = 2 := by
  have h' := mt (fitW_iff n).1 h
  exact ⟨by unfold capW; rw [if_neg h'], by unfold errW; rw [if_neg h']⟩
theorem InW_zero : InW 0 := by unfold InW; omega
theorem InW_capW (n : Int) : InW (capW n) := by
  rcases capW_cases n with ⟨h, _, h', _⟩ | ⟨h, _⟩
  · rw [h]; exact h'
  · rw [h]; exact InW_zero
theorem hi_valW {h l : Int} (hl : InU l) : hiW (valW h l) = h := by unfold hiW valW InU at *; omega
theorem lo_valW {h l : Int} (hl : InU l) : loW (valW h l) = l := by unfold loW valW InU at *; omega
theorem valW_hilo (n : Int) : valW (hiW n) (loW n) = n := by unfold valW hiW loW; omega
theorem InU_lo (n : Int) : InU (loW n) := by unfold InU loW; omega
theorem In_hi {n : Int} (h : InW n) : In (hiW n) := by unfold In hiW InW at *; omega
theorem InW_valW {h l : Int} (hh : In h) (hl : InU l) : InW (valW h l) := by unfold InW valW In InU at *; omega
theorem InW_of_In {n : Int} (h : In n) : InW n := by unfold InW In at *; omega
theorem hi_small {n : Int} (h : In n) : hiW n = if n < 0 then -1 else 0 := by unfold hiW In at *; split <;> omega
theorem hilo_inj {m n : Int} (h : hiW m = hiW n) (h' : loW m = loW n) : m = n := by
  rw [← valW_hilo m, h, h', valW_hilo]
theorem lo_i64 {n : Int} (h : InW n) : In (wrap64 (loW n)) := In_wrap64 _
/-- 'Fit' -/
theorem fit_same {n : Int} (h : In n) : wrap64 (loW n) = n := by unfold wrap64 loW In at *; omega
theorem fit_test (n : Int) (h : InW n) : (In n ↔ wrap64 (loW n) = n) := by
  constructor
  · exact fit_same
  · intro e; rw [← e]; exact In_wrap64 _
/-- the signs of 'Add' -/
theorem wadd_arith (h1 l1 h2 l2 : Int) (i1 : In h1) (i2 : In h2) (j1 : InU l1) (j2 : InU l2) :
    valW (h1 + h2 + (l1 + l2) / 18446744073709551616) ((l1 + l2) % 18446744073709551616) = valW h1 l1 + valW h2 l2 := by
  unfold valW InU at *; omega
def cmpI (a b : Int) : Int := if a < b then -1 else if b < a then 1 else 0
theorem cmpW (m n : Int) : cmpI m n = if cmpI (hiW m) (hiW n) = 0 then cmpI (loW m) (loW n) else cmpI (hiW m) (hiW n) := by
  unfold cmpI hiW loW
  repeat (first | omega | split)
def sumLo (a b c : Int) : Int := (a + b + c) % 18446744073709551616
def sumCy (a b c : Int) : Int := (a + b + c) / 18446744073709551616
theorem InU_sumLo (a b c : Int) : InU (sumLo a b c) := by unfold InU sumLo; omega
theorem sumCy_01 {a b c : Int} (ha : InU a) (hb : InU b) (h0 : 0 ≤ c) (h1 : c ≤ 1) : 0 ≤ sumCy a b c ∧ sumCy a b c ≤ 1 := by unfold InU sumCy at *; omega
theorem InU_wrap (a : Int) : InU (IntKind.u64.wrap a) := by rw [IntKind.wrap_u64]; unfold InU; omega
/-- the upper word of a sum -/
def hiSum (x y : Int) : Int := wrap64 (sumLo (IntKind.u64.wrap (hiW x)) (IntKind.u64.wrap (hiW y)) (sumCy (loW x) (loW y) 0))
theorem hiSum_eq (x y : Int) : hiSum x y = wrap64 (hiW x + hiW y + sumCy (loW x) (loW y) 0) := by
  unfold hiSum sumLo
  generalize sumCy (loW x) (loW y) 0 = c
  generalize hiW x = a
  generalize hiW y = b
  rw [IntKind.wrap_u64, IntKind.wrap_u64]; unfold wrap64; omega
theorem wsum_eq (x y : Int) : x + y = valW (hiW x + hiW y + sumCy (loW x) (loW y) 0) (sumLo (loW x) (loW y) 0) := by
  unfold valW hiW loW sumCy sumLo; omega
theorem wsum_hi (x y : Int) : hiW (x + y) = hiW x + hiW y + sumCy (loW x) (loW y) 0 := by
  rw [wsum_eq x y]; exact hi_valW (InU_sumLo _ _ _)
theorem wsum_lo (x y : Int) : loW (x + y) = sumLo (loW x) (loW y) 0 := by
  rw [wsum_eq x y]; exact lo_valW (InU_sumLo _ _ _)
theorem InW_hi {n : Int} (h : In (hiW n)) : InW n := by unfold In hiW InW at *; omega
theorem wadd_test {x y : Int} (hx : InW x) (hy : InW y) : (bits .and .i64 (bits .xor .i64 (hiW x) (hiSum x y)) (bits .xor .i64 (hiW y) (hiSum x y)) < 0) ↔ ¬ InW (x + y) := by
  have h1 := In_hi hx
  have h2 := In_hi hy
  have c := sumCy_01 (InU_lo x) (InU_lo y) (c := 0) (by decide) (by decide)
  have e : InW (x + y) ↔ In (hiW x + hiW y + sumCy (loW x) (loW y) 0) := by
    rw [← wsum_hi]; exact ⟨In_hi, InW_hi⟩
  rw [e, hiSum_eq, and_neg (In_bits_xor _ _) (In_bits_xor _ _), xor_neg h1 (In_wrap64 _), xor_neg h2 (In_wrap64 _)]
  generalize sumCy (loW x) (loW y) 0 = c' at *
  generalize hiW x = a at *
  generalize hiW y = b at *
  unfold In wrap64 at *
  omega
theorem hiSum_fit {x y : Int} (h : InW (x + y)) : hiSum x y = hiW (x + y) := by
  have h1 := In_hi h
  rw [wsum_hi] at *
  rw [hiSum_eq, wrap64_of h1]
theorem not_i64 {h : Int} (hh : In h) : bits .xor .i64 (-1) h = -1 - h := by
  rw [bits_xor_toInt]
  have e : BitVec.ofInt 64 (-1) = BitVec.allOnes 64 := by decide
  rw [e, BitVec.allOnes_xor, BitVec.toInt_not, BitVec.toNat_ofInt]
  rw [Int.bmod_def]
  unfold In at hh
  split <;> omega
theorem not_u64 {l : Int} (hl : InU l) : bits .xor .u64 IntKind.u64.max l = 18446744073709551615 - l := by
  have e1 : IntKind.u64.max = 18446744073709551615 := by decide
  rw [e1]
  have e2 : bits .xor .u64 18446744073709551615 l = IntKind.u64.wrap ((BitVec.ofInt 64 18446744073709551615 ^^^ BitVec.ofInt 64 l).toNat : Int) := rfl
  have e : BitVec.ofInt 64 18446744073709551615 = BitVec.allOnes 64 := by decide
  rw [e2, e, BitVec.allOnes_xor, BitVec.toNat_not, BitVec.toNat_ofInt, IntKind.wrap_u64]
  unfold InU at hl
  omega
theorem not_hi {x : Int} (h : InW x) : bits .xor .i64 (-1) (hiW x) = hiW (-x - 1) := by
  rw [not_i64 (In_hi h)]; unfold hiW; omega
theorem not_lo (x : Int) : bits .xor .u64 IntKind.u64.max (loW x) = loW (-x - 1) := by
  rw [not_u64 (InU_lo x)]; unfold loW; omega
theorem hi_one : hiW 1 = 0 := by decide
theorem lo_one : loW 1 = 1 := by decide
theorem hi_zero : hiW 0 = 0 := by decide
theorem lo_zero : loW 0 = 0 := by decide
theorem InW_not {x : Int} (h : InW x) : InW (-x - 1) := by unfold InW at *; omega
theorem InW_one : InW 1 := by unfold InW; omega
theorem fit_cases {x : Int} (h : InW x) : (wrap64 (loW x) = x ∧ capN x = x ∧ errN x = 0) ∨ ((hiW (wrap64 (loW x)) == hiW x) = false ∧ capN x = 0 ∧ errN x = 2) := by
  rcases cap_cases x with ⟨h1, h2, h3⟩ | ⟨h1, h2, h3⟩
  · exact .inl ⟨fit_same h3, h1, h2⟩
  · refine .inr ⟨?_, h1, h2⟩
    rw [beq_eq_false_iff_ne]
    intro e
    refine h3 ?_
    rw [fit_test x h]
    refine hilo_inj e ?_
    unfold loW wrap64; omega
end Go.Proofs.YtkejohmghacdhaaDoor
