/- Sums, products and quotients of ratios in plain numbers. -/
import Derived.Test.YtkejohmghacdhaaDoorMathR
namespace Go.Proofs.YtkejohmghacdhaaDoor
set_option linter.unusedVariables false
set_option linter.unusedSimpArgs false
open Go Go.RowKit
def arOk (p q : Int) : Bool := fitB (p / (gN p q : Int)) && fitB (q / (gN p q : Int))
theorem arOk_iff (p q : Int) : arOk p q = true ↔ In (p / (gN p q : Int)) ∧ In (q / (gN p q : Int)) := by
  unfold arOk; rw [Bool.and_eq_true, fitB_iff, fitB_iff]
def arN (p q : Int) : Int := if arOk p q = true then p / (gN p q : Int) else 0
def arD (p q : Int) : Int := if arOk p q = true then q / (gN p q : Int) else 0
def arE (p q : Int) : Int := if arOk p q = true then 0 else 2
def vN (v : Bool) (x : Int) : Int := if v = true then x else 0
def vE (v : Bool) (e : Int) : Int := if v = true then e else 1
theorem vN_no (x : Int) : vN false x = 0 := rfl
theorem vE_no (x : Int) : vE false x = 1 := rfl
theorem vN_yes (x : Int) : vN true x = x := rfl
theorem vE_yes (x : Int) : vE true x = x := rfl
def dvP (n m c : Int) : Int := if m < 0 then -(n * c) else n * c
def dvD (d m : Int) : Int := d * (m.natAbs : Int)
def bN (n d m c : Int) : Int := if m = 0 then 0 else arN (dvP n m c) (dvD d m)
def bD (n d m c : Int) : Int := if m = 0 then 0 else arD (dvP n m c) (dvD d m)
def bE (n d m c : Int) : Int := if m = 0 then 3 else arE (dvP n m c) (dvD d m)
theorem u64_in {a : Int} (h0 : 0 ≤ a) (h1 : a ≤ 9223372036854775807) : IntKind.u64.wrap a = a := by rw [IntKind.wrap_u64]; omega
theorem dvd_mk {x g X : Nat} (h : x * g = X) : x ∣ X := ⟨g, h.symm⟩
theorem ar_no {p q : Int} (h : arOk p q = false) : arN p q = 0 ∧ arD p q = 0 ∧ arE p q = 2 := by
  refine ⟨?_, ?_, ?_⟩
  · unfold arN; rw [h]; rfl
  · unfold arD; rw [h]; rfl
  · unfold arE; rw [h]; rfl
theorem ar_of {p q g a b : Int} (hg : (gN p q : Int) = g) (h0 : 0 < g) (ha : p = a * g) (hb : q = b * g) :
    (In a ∧ In b → arN p q = a ∧ arD p q = b ∧ arE p q = 0) ∧ (¬ (In a ∧ In b) → arN p q = 0 ∧ arD p q = 0 ∧ arE p q = 2) := by
  have e1 : p / g = a := by rw [ha]; exact Int.mul_ediv_cancel _ (by omega)
  have e2 : q / g = b := by rw [hb]; exact Int.mul_ediv_cancel _ (by omega)
  constructor
  · intro h
    have k : arOk p q = true := (arOk_iff p q).2 (by rw [hg, e1, e2]; exact h)
    refine ⟨?_, ?_, ?_⟩
    · unfold arN; rw [if_pos k, hg, e1]
    · unfold arD; rw [if_pos k, hg, e2]
    · unfold arE; rw [if_pos k]
  · intro h
    refine ar_no ?_
    cases k : arOk p q
    · rfl
    · have := (arOk_iff p q).1 k; rw [hg, e1, e2] at this; exact absurd this h
theorem gN_pos_q {p q : Int} (h : 0 < q) : 0 < (gN p q : Int) := by
  have := gN_pos (n := p) (d := q) (by omega)
  omega
theorem gN_dvd (p q : Int) : (gN p q : Int) ∣ p ∧ (gN p q : Int) ∣ q := by
  refine ⟨?_, ?_⟩
  · exact Int.ofNat_dvd_left.2 (Nat.gcd_dvd_left _ _)
  · exact Int.ofNat_dvd_left.2 (Nat.gcd_dvd_right _ _)
theorem ar_yes {p q : Int} (hq : 0 < q) (h : arE p q = 0) :
    In (arN p q) ∧ In (arD p q) ∧ p = arN p q * (gN p q : Int) ∧ q = arD p q * (gN p q : Int) ∧ ckB (arN p q) (arD p q) = true := by
  have k : arOk p q = true := by
    cases e : arOk p q
    · have := (ar_no e).2.2; omega
    · rfl
  obtain ⟨i1, i2⟩ := (arOk_iff p q).1 k
  obtain ⟨d1, d2⟩ := gN_dvd p q
  have gp := gN_pos_q (p := p) hq
  have e1 : arN p q = p / (gN p q : Int) := by unfold arN; rw [if_pos k]
  have e2 : arD p q = q / (gN p q : Int) := by unfold arD; rw [if_pos k]
  rw [e1, e2]
  refine ⟨i1, i2, (Int.ediv_mul_cancel d1).symm, (Int.ediv_mul_cancel d2).symm, ?_⟩
  have m2 : q / (gN p q : Int) * (gN p q : Int) = q := Int.ediv_mul_cancel d2
  refine decide_eq_true ⟨?_, ?_⟩
  · apply Classical.byContradiction
    intro h
    have : q / (gN p q : Int) * (gN p q : Int) ≤ 0 := Int.mul_nonpos_of_nonpos_of_nonneg (by omega) (by omega)
    omega
  · have a1 : (p / (gN p q : Int)).natAbs = p.natAbs / gN p q := by rw [Int.natAbs_ediv_of_dvd d1]; rw [Int.natAbs_natCast]
    have a2 : (q / (gN p q : Int)).natAbs = q.natAbs / gN p q := by rw [Int.natAbs_ediv_of_dvd d2]; rw [Int.natAbs_natCast]
    show Nat.gcd _ _ = 1
    rw [a1, a2]
    exact Nat.coprime_div_gcd_div_gcd (gN_pos (n := p) (d := q) (by omega))
theorem gN_scale (p q : Int) {k : Int} (h : 0 < k) : (gN (p * k) (q * k) : Int) = (gN p q : Int) * k := by
  unfold gN
  rw [Int.natAbs_mul, Int.natAbs_mul, Nat.gcd_mul_right, Int.natCast_mul]
  rw [Int.natAbs_of_nonneg (by omega)]
theorem ar_scale (p q : Int) {k : Int} (h : 0 < k) : arN (p * k) (q * k) = arN p q ∧ arD (p * k) (q * k) = arD p q ∧ arE (p * k) (q * k) = arE p q := by
  have e : arOk (p * k) (q * k) = arOk p q := by
    unfold arOk
    rw [gN_scale p q h, Int.mul_ediv_mul_of_pos_left _ _ h, Int.mul_ediv_mul_of_pos_left _ _ h]
  refine ⟨?_, ?_, ?_⟩
  · unfold arN; rw [e, gN_scale p q h, Int.mul_ediv_mul_of_pos_left _ _ h]
  · unfold arD; rw [e, gN_scale p q h, Int.mul_ediv_mul_of_pos_left _ _ h]
  · unfold arE; rw [e]
theorem ar_low {n d : Int} (hn : In n) (hd : In d) (h : ckB n d = true) : arN n d = n ∧ arD n d = d ∧ arE n d = 0 := by
  obtain ⟨h1, h2, _⟩ := ck_true h
  exact (ar_of (g := 1) (by rw [h2]; rfl) (by omega) (by omega) (by omega)).1 ⟨hn, hd⟩
theorem ar_mk {n d : Int} (h : 0 < d) : gN n d = 0 → False := by
  intro e; have := gN_pos (n := n) (d := d) (by omega); omega
/-- a number that divides what both have in common -/
theorem dvd_one_of {x a b : Nat} (h : Nat.gcd a b = 1) (h1 : x ∣ a) (h2 : x ∣ b) : x = 1 := by
  have := Nat.dvd_gcd h1 h2
  rw [h] at this
  exact Nat.eq_one_of_dvd_one this
theorem sum_gcd {n m s : Int} {d c g A B : Nat} (hd : Nat.gcd n.natAbs d = 1) (hc : Nat.gcd m.natAbs c = 1) (hs : s.natAbs = m.natAbs)
    (eA : d = g * A) (eB : c = g * B) (hAB : Nat.gcd A B = 1) :
    Nat.gcd ((n * B + s * A) * g).natAbs (d * c) = g * Nat.gcd (n * B + s * A).natAbs g := by
  obtain ⟨t, ht⟩ : ∃ t : Int, n * B + s * A = t := ⟨_, rfl⟩
  rw [ht]
  have tA : Nat.gcd t.natAbs A = 1 := by
    obtain ⟨x, hx⟩ : ∃ x, Nat.gcd t.natAbs A = x := ⟨_, rfl⟩
    rw [hx]
    have x1 : (x : Int) ∣ t := Int.ofNat_dvd_left.2 (by rw [← hx]; exact Nat.gcd_dvd_left _ _)
    have x2 : x ∣ A := by rw [← hx]; exact Nat.gcd_dvd_right _ _
    have x3 : (x : Int) ∣ n * B := by
      have : n * B = t - s * A := by omega
      rw [this]
      exact Int.dvd_sub x1 (Int.dvd_trans (Int.ofNat_dvd.2 x2) (Int.dvd_mul_left _ _))
    have x4 : x ∣ n.natAbs * B := by
      have := Int.ofNat_dvd_left.1 x3
      rw [Int.natAbs_mul, Int.natAbs_natCast] at this
      exact this
    have x5 : Nat.Coprime x B := Nat.Coprime.coprime_dvd_left x2 hAB
    have x6 : x ∣ n.natAbs := x5.dvd_of_dvd_mul_right x4
    exact dvd_one_of hd x6 (by rw [eA]; exact Nat.dvd_trans x2 (Nat.dvd_mul_left _ _))
  have tB : Nat.gcd t.natAbs B = 1 := by
    obtain ⟨x, hx⟩ : ∃ x, Nat.gcd t.natAbs B = x := ⟨_, rfl⟩
    rw [hx]
    have x1 : (x : Int) ∣ t := Int.ofNat_dvd_left.2 (by rw [← hx]; exact Nat.gcd_dvd_left _ _)
    have x2 : x ∣ B := by rw [← hx]; exact Nat.gcd_dvd_right _ _
    have x3 : (x : Int) ∣ s * A := by
      have : s * A = t - n * B := by omega
      rw [this]
      exact Int.dvd_sub x1 (Int.dvd_trans (Int.ofNat_dvd.2 x2) (Int.dvd_mul_left _ _))
    have x4 : x ∣ m.natAbs * A := by
      have := Int.ofNat_dvd_left.1 x3
      rw [Int.natAbs_mul, Int.natAbs_natCast, hs] at this
      exact this
    have x5 : Nat.Coprime x A := Nat.Coprime.coprime_dvd_left x2 (Nat.Coprime.symm hAB)
    have x6 : x ∣ m.natAbs := x5.dvd_of_dvd_mul_right x4
    exact dvd_one_of hc x6 (by rw [eB]; exact Nat.dvd_trans x2 (Nat.dvd_mul_left _ _))
  rw [Int.natAbs_mul, Int.natAbs_natCast]
  have r1 : t.natAbs * g = g * t.natAbs := Nat.mul_comm _ _
  have r2 : d * c = g * (A * (g * B)) := by rw [eA, eB, Nat.mul_assoc]
  rw [r1, r2, Nat.gcd_mul_left]
  congr 1
  rw [Nat.Coprime.gcd_mul_left_cancel_right _ (Nat.Coprime.symm tA), Nat.Coprime.gcd_mul_right_cancel_right _ (Nat.Coprime.symm tB)]
theorem cross_gcd {X d Y c g h : Nat} (hX : Nat.gcd X d = 1) (hY : Nat.gcd Y c = 1) (eg : Nat.gcd X c = g) (eh : Nat.gcd Y d = h) (c0 : 0 < c) (d0 : 0 < d) :
    Nat.gcd (X * Y) (d * c) = g * h ∧ X * Y = (X / g) * (Y / h) * (g * h) ∧ d * c = (d / h) * (c / g) * (g * h) ∧ 0 < g ∧ 0 < h := by
  have g0 : 0 < g := by rw [← eg]; exact Nat.gcd_pos_of_pos_right _ c0
  have h0 : 0 < h := by rw [← eh]; exact Nat.gcd_pos_of_pos_right _ d0
  have x1 : X / g * g = X := Nat.div_mul_cancel (by rw [← eg]; exact Nat.gcd_dvd_left _ _)
  have x2 : c / g * g = c := Nat.div_mul_cancel (by rw [← eg]; exact Nat.gcd_dvd_right _ _)
  have x3 : Y / h * h = Y := Nat.div_mul_cancel (by rw [← eh]; exact Nat.gcd_dvd_left _ _)
  have x4 : d / h * h = d := Nat.div_mul_cancel (by rw [← eh]; exact Nat.gcd_dvd_right _ _)
  have p1 : Nat.gcd (X / g) (c / g) = 1 := by rw [← eg]; exact Nat.coprime_div_gcd_div_gcd (by rw [eg]; exact g0)
  have p2 : Nat.gcd (Y / h) (d / h) = 1 := by rw [← eh]; exact Nat.coprime_div_gcd_div_gcd (by rw [eh]; exact h0)
  generalize X / g = x at *
  generalize c / g = c' at *
  generalize Y / h = y at *
  generalize d / h = d' at *
  have p3 : Nat.Coprime x d' := Nat.Coprime.coprime_dvd_left (dvd_mk x1) (Nat.Coprime.coprime_dvd_right (dvd_mk x4) hX)
  have p4 : Nat.Coprime y c' := Nat.Coprime.coprime_dvd_left (dvd_mk x3) (Nat.Coprime.coprime_dvd_right (dvd_mk x2) hY)
  have e1 : X * Y = x * y * (g * h) := by rw [← x1, ← x3]; simp only [Nat.mul_comm, Nat.mul_left_comm, Nat.mul_assoc]
  have e2 : d * c = d' * c' * (g * h) := by rw [← x2, ← x4]; simp only [Nat.mul_comm, Nat.mul_left_comm, Nat.mul_assoc]
  refine ⟨?_, e1, e2, g0, h0⟩
  rw [e1, e2, Nat.gcd_mul_right]
  have k : Nat.Coprime (x * y) (d' * c') := Nat.Coprime.mul_left (Nat.Coprime.mul_right p3 p1) (Nat.Coprime.mul_right p2 p4)
  rw [k, Nat.one_mul]
theorem sgn_abs (b : Bool) (k : Nat) : (sgn b (k : Int)).natAbs = k := by unfold sgn; split <;> omega
theorem sgn_mul (b : Bool) (x y : Int) : sgn b (x * y) = sgn b x * y := by
  cases b
  · rw [sgn_false, sgn_false]
  · rw [sgn_true, sgn_true, Int.neg_mul]
theorem cross_ar {X d Y c g h : Nat} (b : Bool) (hX : Nat.gcd X d = 1) (hY : Nat.gcd Y c = 1) (eg : Nat.gcd X c = g) (eh : Nat.gcd Y d = h) (c0 : 0 < c) (d0 : 0 < d) {N D : Nat} (hN : (X / g) * (Y / h) = N) (hD : (d / h) * (c / g) = D) {p q : Int} (hp : p = sgn b ((X * Y : Nat) : Int)) (hq : q = ((d * c : Nat) : Int)) :
    (In (sgn b (N : Int)) ∧ In (D : Int) → arN p q = sgn b (N : Int) ∧ arD p q = (D : Int) ∧ arE p q = 0) ∧ (¬ (In (sgn b (N : Int)) ∧ In (D : Int)) → arN p q = 0 ∧ arD p q = 0 ∧ arE p q = 2) := by
  obtain ⟨k1, k2, k3, k4, k5⟩ := cross_gcd hX hY eg eh c0 d0
  rw [hN] at k2
  rw [hD] at k3
  refine ar_of (g := ((g * h : Nat) : Int)) ?_ (by exact_mod_cast Nat.mul_pos k4 k5) ?_ ?_
  · rw [hp, hq]
    unfold gN
    rw [sgn_abs, Int.natAbs_natCast, k1]
  · rw [hp, k2, Int.natCast_mul, sgn_mul]
  · rw [hq, k3, Int.natCast_mul]
theorem low_gcd {n d c g h : Nat} (eg : Nat.gcd n d = g) (eh : Nat.gcd (n / g) c = h) (d0 : 0 < d) :
    Nat.gcd n (d * c) = g * h ∧ 0 < g := by
  have g0 : 0 < g := by rw [← eg]; exact Nat.gcd_pos_of_pos_right _ d0
  have x1 : n / g * g = n := Nat.div_mul_cancel (by rw [← eg]; exact Nat.gcd_dvd_left _ _)
  have x4 : d / g * g = d := Nat.div_mul_cancel (by rw [← eg]; exact Nat.gcd_dvd_right _ _)
  have p2 : Nat.Coprime (n / g) (d / g) := by rw [← eg]; exact Nat.coprime_div_gcd_div_gcd (by rw [eg]; exact g0)
  generalize n / g = x at *
  generalize d / g = d' at *
  refine ⟨?_, g0⟩
  rw [← x1, ← x4, Nat.mul_comm x g, Nat.mul_comm d' g, Nat.mul_assoc, Nat.gcd_mul_left]
  congr 1
  rw [Nat.Coprime.gcd_mul_left_cancel_right _ p2.symm]
  exact eh
theorem gN_mod (t : Int) {g : Int} (h : 0 < g) : Nat.gcd (t % g).natAbs g.natAbs = gN t g := by
  unfold gN
  have e := Int.emod_add_mul_ediv t g
  refine Nat.dvd_antisymm ?_ ?_
  · refine Nat.dvd_gcd ?_ (Nat.gcd_dvd_right _ _)
    refine Int.ofNat_dvd_left.1 ?_
    have a := Int.dvd_add (Int.ofNat_dvd_left.2 (Nat.gcd_dvd_left (t % g).natAbs g.natAbs)) (Int.dvd_trans (Int.ofNat_dvd_left.2 (Nat.gcd_dvd_right (t % g).natAbs g.natAbs)) (Int.dvd_mul_right g (t / g)))
    rw [e] at a
    exact a
  · refine Nat.dvd_gcd ?_ (Nat.gcd_dvd_right _ _)
    refine Int.ofNat_dvd_left.1 ?_
    have a := Int.dvd_sub (Int.ofNat_dvd_left.2 (Nat.gcd_dvd_left t.natAbs g.natAbs)) (Int.dvd_trans (Int.ofNat_dvd_left.2 (Nat.gcd_dvd_right t.natAbs g.natAbs)) (Int.dvd_mul_right g (t / g)))
    rw [show t - g * (t / g) = t % g by omega] at a
    exact a
theorem sum_ar {n d m s c A B t : Int} {G K : Nat} (hd : 1 ≤ d) (hc : 1 ≤ c) (g1 : gN n d = 1) (g2 : gN m c = 1) (hs : s.natAbs = m.natAbs)
    (eG : Nat.gcd d.natAbs c.natAbs = G) (eA : d / (G : Int) = A) (eB : c / (G : Int) = B) (et : n * B + s * A = t) (eK : Nat.gcd (t % (G : Int)).natAbs G = K) :
    0 < G ∧ (G : Int) ≤ d ∧ 0 < K ∧ K ≤ G ∧ 1 ≤ A ∧ A ≤ d ∧ 1 ≤ B ∧ B ≤ c ∧ 0 ≤ c / (K : Int) ∧ c / (K : Int) ≤ c ∧
    (In (t / (K : Int)) ∧ In (A * (c / (K : Int))) → arN (n * c + s * d) (d * c) = t / (K : Int) ∧ arD (n * c + s * d) (d * c) = A * (c / (K : Int)) ∧ arE (n * c + s * d) (d * c) = 0) ∧
    (¬ (In (t / (K : Int)) ∧ In (A * (c / (K : Int)))) → arN (n * c + s * d) (d * c) = 0 ∧ arD (n * c + s * d) (d * c) = 0 ∧ arE (n * c + s * d) (d * c) = 2) := by
  obtain ⟨D, rfl⟩ := Int.eq_ofNat_of_zero_le (show 0 ≤ d by omega)
  obtain ⟨C, rfl⟩ := Int.eq_ofNat_of_zero_le (show 0 ≤ c by omega)
  unfold gN at g1 g2
  rw [Int.natAbs_natCast] at g1 g2
  rw [Int.natAbs_natCast, Int.natAbs_natCast] at eG
  have G0 : 0 < G := by rw [← eG]; exact Nat.gcd_pos_of_pos_right _ (by omega)
  have x1 : D / G * G = D := Nat.div_mul_cancel (by rw [← eG]; exact Nat.gcd_dvd_left _ _)
  have x2 : C / G * G = C := Nat.div_mul_cancel (by rw [← eG]; exact Nat.gcd_dvd_right _ _)
  have co : Nat.gcd (D / G) (C / G) = 1 := by rw [← eG]; exact Nat.coprime_div_gcd_div_gcd (by rw [eG]; exact G0)
  have lA : D / G ≤ D := Nat.div_le_self _ _
  have lB : C / G ≤ C := Nat.div_le_self _ _
  rw [show (D : Int) / (G : Int) = ((D / G : Nat) : Int) from (Int.natCast_ediv _ _).symm] at eA
  rw [show (C : Int) / (G : Int) = ((C / G : Nat) : Int) from (Int.natCast_ediv _ _).symm] at eB
  generalize D / G = A' at *
  generalize C / G = B' at *
  have A0 : 0 < A' := by rcases Nat.eq_zero_or_pos A' with h | h; (rw [h, Nat.zero_mul] at x1; omega); exact h
  have B0 : 0 < B' := by rcases Nat.eq_zero_or_pos B' with h | h; (rw [h, Nat.zero_mul] at x2; omega); exact h
  have K0 : 0 < K := by rw [← eK]; exact Nat.gcd_pos_of_pos_right _ G0
  have KG : K ∣ G := by rw [← eK]; exact Nat.gcd_dvd_right _ _
  have KC : K ∣ C := Nat.dvd_trans KG ⟨B', by rw [Nat.mul_comm]; exact x2.symm⟩
  have GD : G ∣ D := ⟨A', by rw [Nat.mul_comm]; exact x1.symm⟩
  have gt : gN t (G : Int) = K := by
    have := gN_mod t (g := (G : Int)) (by omega)
    rw [Int.natAbs_natCast, eK] at this
    exact this.symm
  have Kt : (K : Int) ∣ t := by rw [← gt]; exact (gN_dvd t (G : Int)).1
  have sg := sum_gcd (n := n) (m := m) (s := s) (d := D) (c := C) (g := G) (A := A') (B := B') g1 g2 hs (by rw [Nat.mul_comm]; exact x1.symm) (by rw [Nat.mul_comm]; exact x2.symm) co
  subst eA eB
  rw [et] at sg
  have gt' : Nat.gcd t.natAbs G = K := by have := gt; unfold gN at this; rwa [Int.natAbs_natCast] at this
  rw [gt'] at sg
  have p1 : n * (C : Int) + s * (D : Int) = t * (G : Int) := by
    rw [← et, ← x1, ← x2, Int.natCast_mul, Int.natCast_mul, Int.add_mul, Int.mul_assoc, Int.mul_assoc]
  have gg : (gN (n * (C : Int) + s * (D : Int)) ((D : Int) * (C : Int)) : Int) = ((G * K : Nat) : Int) := by
    rw [p1]
    unfold gN
    rw [show (D : Int) * (C : Int) = ((D * C : Nat) : Int) by rw [Int.natCast_mul], Int.natAbs_natCast, sg]
  have e1 : n * (C : Int) + s * (D : Int) = t / (K : Int) * ((G * K : Nat) : Int) := by
    rw [p1, Int.natCast_mul, Int.mul_comm (G : Int), ← Int.mul_assoc, Int.ediv_mul_cancel Kt]
  have e2 : (D : Int) * (C : Int) = (A' : Int) * ((C : Int) / (K : Int)) * ((G * K : Nat) : Int) := by
    have cK : (C : Int) / (K : Int) * (K : Int) = (C : Int) := Int.ediv_mul_cancel (by exact Int.ofNat_dvd.2 KC)
    have dG : (A' : Int) * (G : Int) = (D : Int) := by rw [← x1, Int.natCast_mul]
    rw [← dG]
    conv => lhs; rw [← cK]
    rw [Int.natCast_mul]
    simp only [Int.mul_comm, Int.mul_left_comm, Int.mul_assoc]
  have A := ar_of gg (by rw [Int.natCast_mul]; exact Int.mul_pos (by omega) (by omega)) e1 e2
  have lK : C / K ≤ C := Nat.div_le_self _ _
  have lK' : (C : Int) / (K : Int) = ((C / K : Nat) : Int) := (Int.natCast_ediv _ _).symm
  have GleD := Nat.le_of_dvd (by omega) GD
  exact ⟨G0, by omega, K0, Nat.le_of_dvd G0 KG, by omega, by omega, by omega, by omega, Int.ediv_nonneg (by omega) (by omega), by rw [lK']; exact_mod_cast lK, A.1, A.2⟩
/-- what r03's lowest reckons: n is cut by what it has in common with d, then with c -/
theorem low_ar {n d c : Int} {g h : Nat} (d0 : 0 < d) (c0 : 0 < c) (eg : gN n d = g) (eh : gN (n / (g : Int)) c = h) :
    0 < g ∧ (g : Int) ≤ d ∧ 0 < h ∧ (h : Int) ≤ c ∧
    (In (n / (g : Int) / (h : Int)) ∧ In (d / (g : Int) * (c / (h : Int))) → arN n (d * c) = n / (g : Int) / (h : Int) ∧ arD n (d * c) = d / (g : Int) * (c / (h : Int)) ∧ arE n (d * c) = 0) ∧
    (¬ (In (n / (g : Int) / (h : Int)) ∧ In (d / (g : Int) * (c / (h : Int)))) → arN n (d * c) = 0 ∧ arD n (d * c) = 0 ∧ arE n (d * c) = 2) := by
  have g0 : 0 < (g : Int) := by rw [← eg]; exact gN_pos_q d0
  have h0 : 0 < (h : Int) := by rw [← eh]; exact gN_pos_q c0
  have dn := gN_dvd n d
  have dm := gN_dvd (n / (g : Int)) c
  rw [eg] at dn
  rw [eh] at dm
  have na : (n / (g : Int)).natAbs = n.natAbs / g := by rw [Int.natAbs_ediv_of_dvd dn.1, Int.natAbs_natCast]
  have k := low_gcd (n := n.natAbs) (d := d.natAbs) (c := c.natAbs) (g := g) (h := h) eg (by rw [← na]; exact eh) (by omega)
  have gg : (gN n (d * c) : Int) = ((g * h : Nat) : Int) := by
    unfold gN
    rw [Int.natAbs_mul, k.1]
  have e1 : n = n / (g : Int) / (h : Int) * ((g * h : Nat) : Int) := by
    rw [Int.natCast_mul, Int.mul_comm (g : Int), ← Int.mul_assoc, Int.ediv_mul_cancel dm.1, Int.ediv_mul_cancel dn.1]
  have e2 : d * c = d / (g : Int) * (c / (h : Int)) * ((g * h : Nat) : Int) := by
    have a1 : d / (g : Int) * (g : Int) = d := Int.ediv_mul_cancel dn.2
    have a2 : c / (h : Int) * (h : Int) = c := Int.ediv_mul_cancel dm.2
    rw [Int.natCast_mul]
    conv => lhs; rw [← a1, ← a2]
    simp only [Int.mul_comm, Int.mul_left_comm, Int.mul_assoc]
  have A := ar_of gg (by rw [Int.natCast_mul]; exact Int.mul_pos g0 h0) e1 e2
  exact ⟨by omega, Int.le_of_dvd d0 dn.2, by omega, Int.le_of_dvd c0 dm.2, A.1, A.2⟩
def smP (less : Bool) (n d m c : Int) : Int := n * c + (if less = true then -m else m) * d
/-- an odd number by 2^63 -/
theorem ar_odd {p d : Int} (d0 : 0 < d) (h : ¬ p % 2 = 0) : arN p (d * 9223372036854775808) = 0 ∧ arD p (d * 9223372036854775808) = 0 ∧ arE p (d * 9223372036854775808) = 2 := by
  refine ar_no ?_
  cases k : arOk p (d * 9223372036854775808)
  · rfl
  exfalso
  have i2 := ((arOk_iff _ _).1 k).2
  obtain ⟨D, rfl⟩ := Int.eq_ofNat_of_zero_le (show 0 ≤ d by omega)
  have gd := gN_dvd p ((D : Int) * 9223372036854775808)
  have gp := gN_pos_q (p := p) (q := (D : Int) * 9223372036854775808) (by omega)
  generalize gN p ((D : Int) * 9223372036854775808) = g at *
  have c2 : Nat.gcd g 2 = 1 := by
    have h2 : Nat.gcd g 2 ∣ 2 := Nat.gcd_dvd_right _ _
    have h3 : Nat.gcd g 2 ≤ 2 := Nat.le_of_dvd (by omega) h2
    have h4 : 0 < Nat.gcd g 2 := Nat.gcd_pos_of_pos_right _ (by omega)
    rcases (show Nat.gcd g 2 = 1 ∨ Nat.gcd g 2 = 2 by omega) with e | e
    · exact e
    · have h5 : 2 ∣ g := by rw [← e]; exact Nat.gcd_dvd_left _ _
      have h6 : (2 : Int) ∣ p := Int.dvd_trans (Int.ofNat_dvd.2 h5) gd.1
      exact absurd (Int.emod_eq_zero_of_dvd h6) h
  have c3 : Nat.Coprime g (2 ^ 63) := Nat.Coprime.pow_right 63 c2
  have g1 : g ∣ D * 9223372036854775808 := by
    have := gd.2
    rw [show (D : Int) * 9223372036854775808 = ((D * 9223372036854775808 : Nat) : Int) by rw [Int.natCast_mul]; rfl] at this
    exact Int.ofNat_dvd.1 this
  have g2 : g ∣ D := c3.dvd_of_dvd_mul_right g1
  obtain ⟨q, rfl⟩ := g2
  have e : ((g * q : Nat) : Int) * 9223372036854775808 / (g : Int) = (q : Int) * 9223372036854775808 := by
    rw [Int.natCast_mul, Int.mul_assoc, Int.mul_ediv_cancel_left _ (by omega)]
  rw [e] at i2
  have q0 : 0 < q := by
    rcases Nat.eq_zero_or_pos q with h | h
    · rw [h] at d0; simp at d0
    · exact h
  have := i2.2
  omega
end Go.Proofs.YtkejohmghacdhaaDoor
