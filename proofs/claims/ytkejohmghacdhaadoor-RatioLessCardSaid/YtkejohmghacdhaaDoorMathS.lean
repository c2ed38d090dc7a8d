/- What ratios obey, in plain numbers. -/
import Derived.Test.YtkejohmghacdhaaDoorMathT
namespace Go.Proofs.YtkejohmghacdhaaDoor
set_option linter.unusedVariables false
set_option linter.unusedSimpArgs false
open Go Go.RowKit
theorem ar_eq {p q p' q' k k' : Int} (hk : 0 < k) (hk' : 0 < k') (h1 : p * k = p' * k') (h2 : q * k = q' * k') :
    arN p q = arN p' q' ∧ arD p q = arD p' q' ∧ arE p q = arE p' q' := by
  obtain ⟨a1, a2, a3⟩ := ar_scale p q hk
  obtain ⟨b1, b2, b3⟩ := ar_scale p' q' hk'
  rw [← a1, ← a2, ← a3, ← b1, ← b2, ← b3, h1, h2]
  exact ⟨rfl, rfl, rfl⟩
theorem cpB_comm (n d m c : Int) : cpB m c n d = cpB n d m c := by unfold cpB; rw [Bool.and_comm]
theorem cpB_true {n d m c : Int} : cpB n d m c = true ↔ ckB n d = true ∧ ckB m c = true := by unfold cpB; rw [Bool.and_eq_true]
theorem smP_comm (n d m c : Int) : smP false m c n d = smP false n d m c := by
  show m * d + n * c = n * c + m * d; omega
/-- a result that is right -/
theorem vE_zero {v : Bool} {e : Int} (h : vE v e = 0) : v = true ∧ e = 0 := by
  cases v
  · rw [vE_no] at h; omega
  · exact ⟨rfl, h⟩
theorem op_right {v : Bool} {p q : Int} (hq : 0 < q) (h : vE v (arE p q) = 0) : ∃ g : Int, 0 < g ∧ In (vN v (arN p q)) ∧ In (vN v (arD p q)) ∧ p = vN v (arN p q) * g ∧ q = vN v (arD p q) * g ∧ ckB (vN v (arN p q)) (vN v (arD p q)) = true := by
  obtain ⟨rfl, h0⟩ := vE_zero h
  obtain ⟨a1, a2, a3, a4, a5⟩ := ar_yes hq h0
  exact ⟨_, gN_pos_q hq, a1, a2, a3, a4, a5⟩
theorem add_add {n d m c k f s t u v g h : Int} (hg : 0 < g) (hh : 0 < h) (e1 : smP false n d m c = s * g) (e2 : d * c = t * g) (e3 : smP false m c k f = u * h) (e4 : c * f = v * h) :
    arN (smP false s t k f) (t * f) = arN (smP false n d u v) (d * v) ∧ arD (smP false s t k f) (t * f) = arD (smP false n d u v) (d * v) ∧ arE (smP false s t k f) (t * f) = arE (smP false n d u v) (d * v) := by
  change n * c + m * d = s * g at e1
  change m * f + k * c = u * h at e3
  refine ar_eq hg hh ?_ ?_
  · show (s * f + k * t) * g = (n * v + u * d) * h
    have a1 : (s * f + k * t) * g = (s * g) * f + k * (t * g) := by simp only [Int.mul_add, Int.add_mul, Int.neg_mul, Int.mul_neg, Int.mul_comm, Int.mul_left_comm, Int.mul_assoc]
    have a2 : (n * v + u * d) * h = n * (v * h) + (u * h) * d := by simp only [Int.mul_add, Int.add_mul, Int.neg_mul, Int.mul_neg, Int.mul_comm, Int.mul_left_comm, Int.mul_assoc]
    rw [a1, a2, ← e1, ← e2, ← e3, ← e4]
    simp only [Int.mul_add, Int.add_mul, Int.neg_mul, Int.mul_neg, Int.mul_comm, Int.mul_left_comm, Int.mul_assoc]
    omega
  · have a1 : t * f * g = (t * g) * f := by simp only [Int.mul_comm, Int.mul_left_comm, Int.mul_assoc]
    have a2 : d * v * h = d * (v * h) := by simp only [Int.mul_comm, Int.mul_left_comm, Int.mul_assoc]
    rw [a1, a2, ← e2, ← e4, Int.mul_assoc]
theorem mul_add {n d m c k f p q u v x y g h j : Int} (hd : 0 < d) (hg : 0 < g) (hh : 0 < h) (hj : 0 < j) (e1 : n * m = p * g) (e2 : d * c = q * g) (e3 : n * k = x * h) (e4 : d * f = y * h) (e5 : smP false m c k f = u * j) (e6 : c * f = v * j) :
    arN (n * u) (d * v) = arN (smP false p q x y) (q * y) ∧ arD (n * u) (d * v) = arD (smP false p q x y) (q * y) ∧ arE (n * u) (d * v) = arE (smP false p q x y) (q * y) := by
  change m * f + k * c = u * j at e5
  refine ar_eq (k := j * d) (k' := g * h) (Int.mul_pos hj hd) (Int.mul_pos hg hh) ?_ ?_
  · show n * u * (j * d) = (p * y + x * q) * (g * h)
    have a1 : n * u * (j * d) = n * (u * j) * d := by simp only [Int.mul_comm, Int.mul_left_comm, Int.mul_assoc]
    have a2 : (p * y + x * q) * (g * h) = (p * g) * (y * h) + (x * h) * (q * g) := by simp only [Int.mul_add, Int.add_mul, Int.neg_mul, Int.mul_neg, Int.mul_comm, Int.mul_left_comm, Int.mul_assoc]
    rw [a1, a2, ← e1, ← e2, ← e3, ← e4, ← e5]
    simp only [Int.mul_add, Int.add_mul, Int.neg_mul, Int.mul_neg, Int.mul_comm, Int.mul_left_comm, Int.mul_assoc]
  · have a1 : d * v * (j * d) = d * (v * j) * d := by simp only [Int.mul_comm, Int.mul_left_comm, Int.mul_assoc]
    have a2 : q * y * (g * h) = (q * g) * (y * h) := by simp only [Int.mul_comm, Int.mul_left_comm, Int.mul_assoc]
    rw [a1, a2, ← e2, ← e4, ← e6]
    simp only [Int.mul_comm, Int.mul_left_comm, Int.mul_assoc]
theorem add_back {n d m c s t g : Int} (hn : In n) (hd : In d) (hk : ckB n d = true) (hc : 0 < c) (hg : 0 < g) (e1 : smP false n d m c = s * g) (e2 : d * c = t * g) :
    arN (smP true s t m c) (t * c) = n ∧ arD (smP true s t m c) (t * c) = d ∧ arE (smP true s t m c) (t * c) = 0 := by
  change n * c + m * d = s * g at e1
  obtain ⟨l1, l2, l3⟩ := ar_low hn hd hk
  have := ar_eq (p := smP true s t m c) (q := t * c) (p' := n) (q' := d) (k := g) (k' := c * c) hg (Int.mul_pos hc hc) (by
    show (s * c + -m * t) * g = n * (c * c)
    have a1 : (s * c + -m * t) * g = (s * g) * c + -m * (t * g) := by simp only [Int.mul_add, Int.add_mul, Int.neg_mul, Int.mul_neg, Int.mul_comm, Int.mul_left_comm, Int.mul_assoc]
    rw [a1, ← e1, ← e2]
    simp only [Int.mul_add, Int.add_mul, Int.neg_mul, Int.mul_neg, Int.mul_comm, Int.mul_left_comm, Int.mul_assoc]
    omega) (by
    have a1 : t * c * g = (t * g) * c := by simp only [Int.mul_comm, Int.mul_left_comm, Int.mul_assoc]
    rw [a1, ← e2, Int.mul_assoc])
  rw [l1, l2, l3] at this
  exact this
theorem mul_back {n d m c p q g : Int} (hn : In n) (hd : In d) (hk : ckB n d = true) (hc : 0 < c) (hm : m ≠ 0) (hg : 0 < g) (e1 : n * m = p * g) (e2 : d * c = q * g) :
    bN p q m c = n ∧ bD p q m c = d ∧ bE p q m c = 0 := by
  obtain ⟨l1, l2, l3⟩ := ar_low hn hd hk
  have am : 0 < (m.natAbs : Int) := by omega
  have := ar_eq (p := dvP p m c) (q := dvD q m) (p' := n) (q' := d) (k := g) (k' := (m.natAbs : Int) * c) hg (Int.mul_pos am hc) (by
    have a1 : p * c * g = (p * g) * c := by simp only [Int.mul_comm, Int.mul_left_comm, Int.mul_assoc]
    unfold dvP
    by_cases h : m < 0
    · rw [if_pos h, Int.neg_mul, a1, ← e1, show (m.natAbs : Int) = -m by omega]
      simp only [Int.neg_mul, Int.mul_neg, Int.mul_assoc]
    · rw [if_neg h, a1, ← e1, show (m.natAbs : Int) = m by omega, Int.mul_assoc]) (by
    unfold dvD
    have a1 : q * (m.natAbs : Int) * g = (q * g) * (m.natAbs : Int) := by simp only [Int.mul_comm, Int.mul_left_comm, Int.mul_assoc]
    rw [a1, ← e2]
    simp only [Int.mul_comm, Int.mul_left_comm, Int.mul_assoc])
  rw [l1, l2, l3] at this
  unfold bN bD bE
  rw [if_neg hm, if_neg hm, if_neg hm]
  exact this
/-- two ratios in lowest terms are the same just if they are the same number -/
theorem low_same {n d m c : Int} (k1 : ckB n d = true) (k2 : ckB m c = true) (h : n * c = m * d) : n = m ∧ d = c := by
  obtain ⟨d1, g1, _⟩ := ck_true k1
  obtain ⟨c1, g2, _⟩ := ck_true k2
  have hh : n.natAbs * c.natAbs = m.natAbs * d.natAbs := by rw [← Int.natAbs_mul, ← Int.natAbs_mul, h]
  have dc : d.natAbs ∣ c.natAbs := by
    have : d.natAbs ∣ n.natAbs * c.natAbs := ⟨m.natAbs, by rw [hh, Nat.mul_comm]⟩
    exact Nat.Coprime.dvd_of_dvd_mul_left (show Nat.Coprime d.natAbs n.natAbs from by rw [Nat.Coprime, Nat.gcd_comm]; exact g1) this
  have cd : c.natAbs ∣ d.natAbs := by
    have : c.natAbs ∣ m.natAbs * d.natAbs := ⟨n.natAbs, by rw [← hh, Nat.mul_comm]⟩
    exact Nat.Coprime.dvd_of_dvd_mul_left (show Nat.Coprime c.natAbs m.natAbs from by rw [Nat.Coprime, Nat.gcd_comm]; exact g2) this
  have e := Nat.dvd_antisymm dc cd
  have e' : d = c := by omega
  subst e'
  exact ⟨Int.eq_of_mul_eq_mul_right (by omega) h, rfl⟩
theorem sub_sign {n d m c g s : Int} (hg : 0 < g) (e1 : smP true n d m c = s * g) :
    (n * c < m * d → s < 0) ∧ (n * c = m * d → s = 0) ∧ (m * d < n * c → 0 < s) := by
  have e : n * c - m * d = s * g := by rw [← e1]; show n * c - m * d = n * c + -m * d; rw [Int.neg_mul]; omega
  refine ⟨fun h => ?_, fun h => ?_, fun h => ?_⟩
  · apply Classical.byContradiction
    intro hs
    have := Int.mul_nonneg (show 0 ≤ s by omega) (show 0 ≤ g by omega)
    omega
  · have : s * g = 0 := by omega
    rcases Int.mul_eq_zero.1 this with h | h
    · exact h
    · omega
  · apply Classical.byContradiction
    intro hs
    have := Int.mul_nonpos_of_nonpos_of_nonneg (show s ≤ 0 by omega) (show 0 ≤ g by omega)
    omega
end Go.Proofs.YtkejohmghacdhaaDoor
