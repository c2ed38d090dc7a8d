/- Digits to the base 65536 in plain numbers: no program in sight. -/
import Derived.Test.YtkejohmghacdhaaMathX
namespace Go.Proofs.Ytkejohmghacdhaa
set_option linter.unusedVariables false
set_option linter.unusedSimpArgs false
open Go Go.RowKit
/-- 65536 to the k, up to 8 -/
def pw : Nat → Int
  | 0 => 1
  | 1 => 65536
  | 2 => 4294967296
  | 3 => 281474976710656
  | 4 => 18446744073709551616
  | 5 => 1208925819614629174706176
  | 6 => 79228162514264337593543950336
  | 7 => 5192296858534827628530496329220096
  | _ => 340282366920938463463374607431768211456
/-- digit number k -/
def dg (n : Int) (k : Nat) : Int := n / pw k % 65536
theorem lt8 {k : Nat} (h : k < 8) : k = 0 ∨ k = 1 ∨ k = 2 ∨ k = 3 ∨ k = 4 ∨ k = 5 ∨ k = 6 ∨ k = 7 := by omega
theorem lt4 {k : Nat} (h : k < 4) : k = 0 ∨ k = 1 ∨ k = 2 ∨ k = 3 := by omega
theorem dg_bd (n : Int) (k : Nat) : 0 ≤ dg n k ∧ dg n k < 65536 := by unfold dg; omega
theorem dg_words {h l : Int} (h0 : 0 ≤ h) (l0 : 0 ≤ l) (l1 : l < 18446744073709551616) (k : Nat) (hk : k < 4) : dg (h * 18446744073709551616 + l) k = l / pw k % 65536 ∧ dg (h * 18446744073709551616 + l) (4 + k) = h / pw k % 65536 := by
  unfold dg
  rcases lt4 hk with rfl | rfl | rfl | rfl <;> simp only [pw] <;> omega
theorem word_step {x : Int} (k : Nat) (hk : k < 8) : x / pw (k + 1) * 65536 + x / pw k % 65536 = x / pw k := by
  rcases lt8 hk with rfl | rfl | rfl | rfl | rfl | rfl | rfl | rfl <;> simp only [pw] <;> omega
theorem word_div {x : Int} (k : Nat) (hk : k < 8) : x / pw k / 65536 = x / pw (k + 1) := by
  rcases lt8 hk with rfl | rfl | rfl | rfl | rfl | rfl | rfl | rfl <;> simp only [pw] <;> omega
/-- carry into digit k of a sum -/
def cyA (n m : Int) (k : Nat) : Int := (n % pw k + m % pw k) / pw k
theorem cyA_zero (n m : Int) : cyA n m 0 = 0 := by simp only [cyA, pw]; omega
theorem cyA_bd {n m : Int} (k : Nat) (hk : k ≤ 8) : 0 ≤ cyA n m k ∧ cyA n m k ≤ 1 := by
  unfold cyA
  have : k = 8 ∨ k < 8 := by omega
  rcases this with rfl | h
  · simp only [pw]; omega
  · rcases lt8 h with rfl | rfl | rfl | rfl | rfl | rfl | rfl | rfl <;> simp only [pw] <;> omega
theorem add_step {n m : Int} (h0 : 0 ≤ n) (m0 : 0 ≤ m) (k : Nat) (hk : k < 8) : (cyA n m k + (dg n k + dg m k)) % 65536 = dg (n + m) k ∧ (cyA n m k + (dg n k + dg m k)) / 65536 = cyA n m (k + 1) := by
  unfold cyA dg
  rcases lt8 hk with rfl | rfl | rfl | rfl | rfl | rfl | rfl | rfl <;> simp only [pw] <;> omega
/-- what is lacking at digit k of a difference -/
def lkA (n m : Int) (k : Nat) : Int := if n % pw k < m % pw k then 1 else 0
theorem lkA_zero (n m : Int) : lkA n m 0 = 0 := by simp only [lkA, pw]; omega
theorem lkA_bd (n m : Int) (k : Nat) : 0 ≤ lkA n m k ∧ lkA n m k ≤ 1 := by unfold lkA; omega
theorem sub_step {n m : Int} (h0 : 0 ≤ n) (m0 : 0 ≤ m) (hm : m ≤ n) (k : Nat) (hk : k < 8) :
    (dg n k + 65536 - dg m k - lkA n m k) % 65536 = dg (n - m) k ∧ 1 - (dg n k + 65536 - dg m k - lkA n m k) / 65536 = lkA n m (k + 1) ∧ 0 ≤ dg n k + 65536 - dg m k - lkA n m k ∧ dg n k + 65536 - dg m k - lkA n m k < 131072 := by
  unfold lkA dg
  rcases lt8 hk with rfl | rfl | rfl | rfl | rfl | rfl | rfl | rfl <;> simp only [pw] <;> split <;> split <;> omega
/-- higher digits the same: the digit decides -/
theorem cmp_step {n m : Int} (h0 : 0 ≤ n) (m0 : 0 ≤ m) (k : Nat) (hk : k < 8) (h : n / pw (k + 1) = m / pw (k + 1)) :
    (dg n k < dg m k → n < m) ∧ (dg m k < dg n k → m < n) ∧ (¬ dg n k < dg m k → ¬ dg m k < dg n k → n / pw k = m / pw k) := by
  unfold dg
  rcases lt8 hk with rfl | rfl | rfl | rfl | rfl | rfl | rfl | rfl <;> simp only [pw] at * <;> omega
theorem top0 {n : Int} (h0 : 0 ≤ n) (h1 : n < 340282366920938463463374607431768211456) : n / pw 8 = 0 := by simp only [pw]; omega
theorem quot_bd {x : Int} (h0 : 0 ≤ x) (h1 : x ≤ 18446744073709551615) (k : Nat) (hk : k < 8) : 0 ≤ x / pw k ∧ x / pw k ≤ 18446744073709551615 := by
  rcases lt8 hk with rfl | rfl | rfl | rfl | rfl | rfl | rfl | rfl <;> simp only [pw] <;> omega
theorem dg_mod (n : Int) (k : Nat) (hk : k < 8) : dg n k = dg (n % 340282366920938463463374607431768211456) k := by
  unfold dg
  rcases lt8 hk with rfl | rfl | rfl | rfl | rfl | rfl | rfl | rfl <;> simp only [pw] <;> omega
theorem cy_eight {n m : Int} (h0 : 0 ≤ n) (h1 : n < 340282366920938463463374607431768211456) (m0 : 0 ≤ m) (m1 : m < 340282366920938463463374607431768211456) : (cyA n m 8 == 0) = decide (n + m < 340282366920938463463374607431768211456) := by
  unfold cyA; simp only [pw]
  rw [Bool.eq_iff_iff]; simp only [beq_iff_eq, decide_eq_true_eq]; omega
end Go.Proofs.Ytkejohmghacdhaa
