/- Division of a number of two words, in plain numbers. -/
import Derived.Test.YtkejohmghacdhaaDoorMathV
namespace Go.Proofs.YtkejohmghacdhaaDoor
set_option linter.unusedVariables false
set_option linter.unusedSimpArgs false
open Go Go.RowKit
def wdQ (x c : Int) : Int := if 0 < c then x / c else 0
def wdR (x c : Int) : Int := if 0 < c then x % c else 0
def wdE (c : Int) : Int := if c = 0 then 3 else if c < 0 then 1 else 0
theorem wd_pos (x c : Int) (h : 0 < c) : wdQ x c = x / c ∧ wdR x c = x % c ∧ wdE c = 0 :=
  ⟨by unfold wdQ; rw [if_pos h], by unfold wdR; rw [if_pos h], by unfold wdE; rw [if_neg (by omega), if_neg (by omega)]⟩
theorem wd_zero (x : Int) : wdQ x 0 = 0 ∧ wdR x 0 = 0 ∧ wdE 0 = 3 := ⟨rfl, rfl, rfl⟩
theorem wd_neg (x c : Int) (h : c < 0) : wdQ x c = 0 ∧ wdR x c = 0 ∧ wdE c = 1 :=
  ⟨by unfold wdQ; rw [if_neg (by omega)], by unfold wdR; rw [if_neg (by omega)], by unfold wdE; rw [if_neg (by omega), if_pos h]⟩
theorem ediv_one {a c q r : Int} (hc : 0 < c) (e : c * q + r = a) (h : 0 ≤ r ∧ r < c) : a / c = q ∧ a % c = r := by
  have m1 := Int.mul_ediv_add_emod a c
  have m2 := Int.emod_nonneg a (b := c) (by omega)
  have m3 := Int.emod_lt_of_pos a hc
  generalize a / c = Q at *
  generalize a % c = R at *
  have key : c * (Q - q) = r - R := by rw [Int.mul_sub]; omega
  have hq : Q = q := by
    by_cases hlt : 1 ≤ Q - q
    · have := Int.mul_le_mul_of_nonneg_left hlt (Int.le_of_lt hc); omega
    · by_cases hgt : Q - q ≤ -1
      · have := Int.mul_le_mul_of_nonneg_left hgt (Int.le_of_lt hc); omega
      · omega
  subst hq
  exact ⟨rfl, by omega⟩
theorem tdiv_floor (a c : Int) (hc : 0 < c) : (a.tmod c < 0 ∧ a.tdiv c - 1 = a / c ∧ a.tmod c + c = a % c) ∨ (0 ≤ a.tmod c ∧ a.tdiv c = a / c ∧ a.tmod c = a % c) := by
  obtain ⟨e, _, _, h3, _⟩ := tmod_bd a c (by omega)
  have h3 := h3 hc
  by_cases h : a.tmod c < 0
  · have := ediv_one hc (a := a) (q := a.tdiv c - 1) (r := a.tmod c + c) (by rw [Int.mul_sub]; omega) (by omega)
    exact .inl ⟨h, this.1.symm, this.2.symm⟩
  · have := ediv_one hc (a := a) (q := a.tdiv c) (r := a.tmod c) e (by omega)
    exact .inr ⟨by omega, this.1.symm, this.2.symm⟩
theorem wide_div {x c : Int} (hx : InW x) (hc : 0 < c) (hc2 : c ≤ 9223372036854775807) :
    hiW (x / c) = hiW x / c ∧ loW (x / c) = (hiW x % c * 18446744073709551616 + loW x) / c ∧ x % c = (hiW x % c * 18446744073709551616 + loW x) % c ∧ InW (x / c) ∧ In (x % c) ∧ 0 ≤ hiW x % c ∧ hiW x % c < c ∧ In (hiW x / c) := by
  have m1 := Int.mul_ediv_add_emod (hiW x) c
  have m2 := Int.emod_nonneg (hiW x) (b := c) (by omega)
  have m3 := Int.emod_lt_of_pos (hiW x) hc
  have n1 := Int.mul_ediv_add_emod (hiW x % c * 18446744073709551616 + loW x) c
  have n2 := Int.emod_nonneg (hiW x % c * 18446744073709551616 + loW x) (b := c) (by omega)
  have n3 := Int.emod_lt_of_pos (hiW x % c * 18446744073709551616 + loW x) hc
  have lu := InU_lo x
  have hh := In_hi hx
  have v := valW_hilo x
  unfold valW at v
  have l1 : 0 ≤ (hiW x % c * 18446744073709551616 + loW x) / c := Int.ediv_nonneg (by unfold InU at lu; omega) (by omega)
  have l2 : (hiW x % c * 18446744073709551616 + loW x) / c < 18446744073709551616 := by
    refine Int.ediv_lt_of_lt_mul hc ?_
    have : (hiW x % c + 1) * 18446744073709551616 ≤ c * 18446744073709551616 := by omega
    rw [Int.mul_comm]
    unfold InU at lu; omega
  have hin : In (hiW x / c) := by
    have a1 : hiW x / c ≤ 9223372036854775807 := by
      by_cases h : 0 ≤ hiW x
      · have := Int.ediv_le_self c h; unfold In at hh; omega
      · have : hiW x / c < 0 := Int.ediv_neg_of_neg_of_pos (by omega) hc
        omega
    have a2 : -9223372036854775808 ≤ hiW x / c := by
      refine Int.le_ediv_of_mul_le hc ?_
      unfold In at hh; omega
    exact ⟨a2, a1⟩
  generalize hP : (hiW x % c * 18446744073709551616 + loW x) = P at *
  have big := ediv_one hc (a := x) (q := hiW x / c * 18446744073709551616 + P / c) (r := P % c) (by
    have : c * (hiW x / c * 18446744073709551616 + P / c) = c * (hiW x / c) * 18446744073709551616 + c * (P / c) := by rw [Int.mul_add, ← Int.mul_assoc]
    rw [this]; omega) ⟨n2, n3⟩
  rw [big.1, big.2]
  have iw : InW (hiW x / c * 18446744073709551616 + P / c) := InW_valW (h := hiW x / c) (l := P / c) hin ⟨l1, by omega⟩
  refine ⟨?_, ?_, rfl, iw, ?_, m2, m3, hin⟩
  · unfold hiW; unfold hiW at *; omega
  · unfold loW; omega
  · unfold In; omega
end Go.Proofs.YtkejohmghacdhaaDoor
