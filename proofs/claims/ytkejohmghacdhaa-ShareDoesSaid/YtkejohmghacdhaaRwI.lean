/- Contracts of the reference's chapter 2: Mul. -/
import Derived.Test.YtkejohmghacdhaaRwH
import Derived.Test.YtkejohmghacdhaaMathM
namespace Go.Proofs.Ytkejohmghacdhaa
set_option linter.unusedVariables false
set_option linter.unusedSimpArgs false
open Go.RowKit
theorem dg0 (j : Nat) (hj : j < 8) : dg 0 j = 0 := by unfold dg; rcases lt8 hj with rfl | rfl | rfl | rfl | rfl | rfl | rfl | rfl <;> simp [pw]
/-- What the rounds of Mul keep: three numbers in three blocks, the result still empty. -/
structure MW (w : World) (c d e : Nat) (x y : Int) (s : Bool) (f : Nat → Int) (wr : World) : Prop where
  below : Below w.heap.size w wr
  s1 : w.heap.size < c
  s2 : c < d
  s3 : d < e
  s4 : e < wr.heap.size
  dx : Digs wr c 1 (dg x)
  dy : Digs wr d 1 (dg y)
  e0 : wr.cell? ⟨e, 0, none⟩ = some (.bool s)
  de : Digs wr e 1 f
  fe : ∀ o, wr.frozen? ⟨e, o, none⟩ = false
  r0 : wr.cell? ⟨w.heap.size, 0, none⟩ = some (.int .i64 0)
  r1 : wr.cell? ⟨w.heap.size, 1, none⟩ = some (.int .u64 0)
  fr : ∀ o, wr.frozen? ⟨w.heap.size, o, none⟩ = false
theorem MW.set {w wr : World} {c d e : Nat} {x y : Int} {s : Bool} {f g : Nat → Int} (h : MW w c d e x y s f wr) (n k : Nat) (hk : k < 8) (v : Int) (hv : g k = v) (hg : ∀ j, j < 8 → j ≠ k → g j = f j) :
    MW w c d e x y s g ((wr.drewN n).setCell ⟨e, 1 + k, none⟩ (.int .u64 v)) := by
  have h1 := h.s1
  have h2 := h.s2
  have h3 := h.s3
  exact ⟨bl_setCell (bl_drewN h.below n) _ (by first | omega | (simp; done) | (simp; omega)), h.s1, h.s2, h.s3, by simpa using h.s4, Digs.other (w := wr.drewN n) (fun j hj => h.dx j hj) (by first | omega | (simp; done) | (simp; omega)) _, Digs.other (w := wr.drewN n) (fun j hj => h.dy j hj) (by first | omega | (simp; done) | (simp; omega)) _,
    by rw [World.cell?_setCell_other _ _ _ _ (by simp)]; exact h.e0, Digs.set (w := wr.drewN n) (f := f) (fun j hj => h.de j hj) k hk v hv hg, fun o => by simpa using h.fe o,
    by rw [World.cell?_setCell_other _ _ _ _ (by first | omega | (simp; done) | (simp; omega))]; exact h.r0, by rw [World.cell?_setCell_other _ _ _ _ (by first | omega | (simp; done) | (simp; omega))]; exact h.r1, fun o => by simpa using h.fr o⟩
theorem MW.set0 {w wr : World} {c d e : Nat} {x y : Int} {s : Bool} {f g : Nat → Int} (h : MW w c d e x y s f wr) (k : Nat) (hk : k < 8) (v : Int) (hv : g k = v) (hg : ∀ j, j < 8 → j ≠ k → g j = f j) :
    MW w c d e x y s g (wr.setCell ⟨e, 1 + k, none⟩ (.int .u64 v)) := by
  have h1 := h.s1
  have h2 := h.s2
  have h3 := h.s3
  exact ⟨bl_setCell h.below _ (by first | omega | (simp; done) | (simp; omega)), h.s1, h.s2, h.s3, by simpa using h.s4, Digs.other h.dx (by first | omega | (simp; done) | (simp; omega)) _, Digs.other h.dy (by first | omega | (simp; done) | (simp; omega)) _,
    by rw [World.cell?_setCell_other _ _ _ _ (by simp)]; exact h.e0, Digs.set h.de k hk v hv hg, fun o => by simpa using h.fe o,
    by rw [World.cell?_setCell_other _ _ _ _ (by first | omega | (simp; done) | (simp; omega))]; exact h.r0, by rw [World.cell?_setCell_other _ _ _ _ (by first | omega | (simp; done) | (simp; omega))]; exact h.r1, fun o => by simpa using h.fr o⟩
theorem MW.fn {w wr : World} {c d e : Nat} {x y : Int} {s : Bool} {f g : Nat → Int} (h : MW w c d e x y s f wr) (hg : ∀ j, j < 8 → g j = f j) : MW w c d e x y s g wr :=
  ⟨h.below, h.s1, h.s2, h.s3, h.s4, h.dx, h.dy, h.e0, fun j hj => by rw [hg j hj]; exact h.de j hj, h.fe, h.r0, h.r1, h.fr⟩
/-- the carry -/
def cyM (x y : Int) (i j : Nat) : Int := Tm x y i j / pw (i + j) - Pm x y i / pw (i + j)
/-- the digits in a round -/
def dM (x y : Int) (i j : Nat) : Nat → Int := fun k => if k < i + j then dg (Tm x y i j) k else dg (Pm x y i) k
/-- one inner round, in plain numbers -/
theorem mul_in {x y : Int} (i j : Nat) (hi : i < 4) (hj : j < 4) (h0 : 0 ≤ x) (hy : 0 ≤ y) (hy1 : y < 18446744073709551616) :
    0 ≤ cyM x y i j ∧ cyM x y i j ≤ 65535 ∧ dM x y i j (i + j) = dg (Pm x y i) (i + j) ∧
    (cyM x y i j + (dg (Pm x y i) (i + j) + dg x i * dg y j)) % 65536 = dM x y i (j + 1) (i + j) ∧ (cyM x y i j + (dg (Pm x y i) (i + j) + dg x i * dg y j)) / 65536 = cyM x y i (j + 1) ∧ (∀ k, k < 8 → k ≠ i + j → dM x y i (j + 1) k = dM x y i j k) := by
  have p := Pm_bd (y := y) i (by omega) h0 hy hy1
  have t := Tm_bd (x := x) (y := y) i j hi (by omega)
  have c := carry_bd (i + j) (by omega) t.1 t.2
  have m := prod_bd (dg_bd x i) (dg_bd y j)
  obtain ⟨a1, a2, a3⟩ := mul_step (A := Pm x y i) (T := Tm x y i j) (m := dg x i * dg y j) (i + j) (by omega) p.1 (by omega) m.1
  rw [← Tm_succ x y i j hi hj] at a1 a2 a3
  unfold cyM dM
  refine ⟨c.1, c.2, by rw [if_neg (by omega)], ?_, a2, fun k hk hn => ?_⟩
  · rw [if_pos (by omega)]; exact a1
  · by_cases h : k < i + j
    · rw [if_pos (by omega), if_pos h]; exact a3 k h
    · rw [if_neg (by omega), if_neg h]
/-- the last step of an outer round -/
theorem mul_out {x y : Int} (i : Nat) (hi : i < 4) (h0 : 0 ≤ x) (hy : 0 ≤ y) (hy1 : y < 18446744073709551616) :
    dM x y i 4 (i + 4) = 0 ∧ 0 ≤ cyM x y i 4 ∧ cyM x y i 4 ≤ 65535 ∧ cyM x y i 4 = dg (Pm x y (i + 1)) (i + 4) ∧ (∀ k, k < 8 → k ≠ i + 4 → dg (Pm x y (i + 1)) k = dM x y i 4 k) := by
  have p := Pm_bd (y := y) i (by omega) h0 hy hy1
  have p2 := Pm_bd (y := y) (i + 1) (by omega) h0 hy hy1
  have t := Tm_bd (x := x) (y := y) i 4 hi (by omega)
  have c := carry_bd (i + 4) (by omega) t.1 t.2
  rw [← Tm_four x y i hi hy hy1] at p2 ⊢
  obtain ⟨a1, a2, a3⟩ := mul_end i hi p.1 p.2 t.1 (by rw [show i + 5 = i + 1 + 4 by omega]; exact p2.2)
  unfold cyM dM
  refine ⟨by rw [if_neg (by omega)]; exact a1, c.1, c.2, a2, fun k hk hn => ?_⟩
  by_cases h : k < i + 4
  · rw [if_pos h]
  · rw [if_neg h]; exact (a3 k hk (by omega)).symm
theorem mul_abs {a b : Int} (ha : In a) (hb : In b) : 0 ≤ absW a * absW b ∧ absW a * absW b < 340282366920938463463374607431768211456 ∧ absW (a * b) = absW a * absW b ∧
    backV (decide (a < 0) != decide (b < 0)) (absW a * absW b) = a * b ∧ backB (decide (a < 0) != decide (b < 0)) (absW a * absW b) = true := by
  have hp := prod_InW ha hb
  have bd := absW_bd hp
  have e : absW (a * b) = absW a * absW b := by
    unfold absW
    by_cases h1 : a < 0 <;> by_cases h2 : b < 0
    · rw [if_pos h1, if_pos h2, if_neg (Int.not_lt.2 (Int.mul_nonneg_of_nonpos_of_nonpos (by omega) (by omega)))]; rw [Int.neg_mul_neg]
    · by_cases h3 : b = 0
      · subst h3; simp
      · rw [if_pos h1, if_neg h2, if_pos (Int.mul_neg_of_neg_of_pos h1 (by omega)), Int.neg_mul]
    · by_cases h3 : a = 0
      · subst h3; simp
      · rw [if_neg h1, if_pos h2, if_pos (Int.mul_neg_of_pos_of_neg (by omega) h2), Int.mul_neg]
    · rw [if_neg h1, if_neg h2, if_neg (Int.not_lt.2 (Int.mul_nonneg (by omega) (by omega)))]
  rw [← e]
  have bd2 : absW (a * b) < 340282366920938463463374607431768211456 := by omega
  refine ⟨bd.1, bd2, rfl, ?_⟩
  by_cases h0 : a * b = 0
  · rw [h0, show absW 0 = 0 by decide]
    have := back_t (n := 0) (by decide) (by decide)
    have g := back_f (n := 0) (by decide) (by decide)
    cases (decide (a < 0) != decide (b < 0))
    · exact g
    · exact this
  · have s : (decide (a < 0) != decide (b < 0)) = decide (a * b < 0) := by
      by_cases h1 : a < 0 <;> by_cases h2 : b < 0
      · have : ¬ a * b < 0 := Int.not_lt.2 (Int.mul_nonneg_of_nonpos_of_nonpos (by omega) (by omega))
        simp [h1, h2, this]
      · have h3 : b ≠ 0 := fun h => h0 (by rw [h]; simp)
        have : a * b < 0 := Int.mul_neg_of_neg_of_pos h1 (by omega)
        simp [h1, h2, this]
      · have h3 : a ≠ 0 := fun h => h0 (by rw [h]; simp)
        have : a * b < 0 := Int.mul_neg_of_pos_of_neg (by omega) h2
        simp [h1, h2, this]
      · have : ¬ a * b < 0 := Int.not_lt.2 (Int.mul_nonneg (by omega) (by omega))
        simp [h1, h2, this]
    rw [s]
    exact back_of hp
set_option maxRecDepth 100000 in
set_option maxHeartbeats 8000000 in
theorem rmul_any (a b : Int) (w : World) (ha : In a) (hb : In b) :
    Calls Try.prog 45 #[.int .i64 a, .int .i64 b] w fun e w' => e = .returned (wideA (a * b)) ∧ Below w.heap.size w w' := by
  have SA := Lib.hid (fun w => rsize_any a w ha)
  have SB := Lib.hid (fun w => rsize_any b w hb)
  have ba := absW_bd (InW_of_In ha)
  have bb := absW_bd (InW_of_In hb)
  have ba2 : absW a < 18446744073709551616 := by unfold absW In at *; omega
  have bb2 : absW b < 18446744073709551616 := by unfold absW In at *; omega
  have PA := fun w => put_any (decide (a < 0)) 0 (absW a) w ⟨by decide, by decide⟩ ⟨ba.1, by omega⟩
  have PB := fun w => put_any (decide (b < 0)) 0 (absW b) w ⟨by decide, by decide⟩ ⟨bb.1, by omega⟩
  rw [Int.zero_mul, Int.zero_add] at PA PB
  have PA := Lib.hid PA
  have PB := Lib.hid PB
  obtain ⟨m1, m2, m3, m4, m5⟩ := mul_abs ha hb
  have B := fun w => back_any (decide (a < 0) != decide (b < 0)) (absW a * absW b) w m1 m2
  rw [m4, m5] at B
  have B := Lib.hid B
  have X0 := Lib.hid ba.1
  have Y0 := Lib.hid bb.1
  have X1 := Lib.hid ba2
  have Y1 := Lib.hid bb2
  clear m1 m2 m3 m4 m5 ba bb ba2 bb2 ha hb
  generalize a * b = p at *
  generalize absW a = x at *
  generalize absW b = y at *
  generalize ea : decide (a < 0) = sa at *
  generalize eb : decide (b < 0) = sb at *
  go_enter Try.func45, Try.ntmps45
  go_wp2_with fail
  refine (SA.out _).mono ?_
  rintro e w1 ⟨rfl, rfl⟩
  go_wp2_with fail
  refine (PA.out _).mono ?_
  rintro e w1 ⟨rfl, hb1⟩
  obtain ⟨hc1, hf1, hz1⟩ := own_stays hb1 (b := w.heap.size) (by go_simp)
  go_wp2_with fail
  refine (SB.out _).mono ?_
  rintro e w2 ⟨rfl, rfl⟩
  go_wp2_with fail
  refine (PB.out _).mono ?_
  rintro e w2 ⟨rfl, hb2⟩
  obtain ⟨hc2, hf2, hz2⟩ := own_stays hb2 (b := w.heap.size) (by simp; omega)
  obtain ⟨hd2, hg2, hy2⟩ := own_stays hb2 (b := w1.heap.size) (by simp)
  go_wp2
  go_loopw [29] (fun i wr => ∃ k : Nat, k ≤ 4 ∧ i = .int .i64 k ∧ MW w w1.heap.size w2.heap.size (w2.heap.size + 1) x y (sa != sb) (dg (Pm x y k)) wr) (fun i _ => 4 - (intOf i).toNat)
  case atStart =>
    refine ⟨0, by omega, rfl, ⟨(by repeat (with_reducible (first | exact Below.refl _ _ | assumption | refine bl_alloc ?_ _ | refine bl_drewN ?_ _ | refine bl_drew ?_ | refine bl_call ?_ (by assumption) | (refine bl_setCell ?_ _ (Nat.le_refl _)) | (refine bl_setCell ?_ _ (by first | omega | (simp; done) | (simp; omega)))))), hz1, hy2, by omega, by go_simp, ?_, ?_, (by go_simp; cases sa <;> cases sb <;> rfl), ?_, by go_simp, by go_simp, by go_simp, by go_simp⟩⟩
    · intro j hj; rcases lt8 hj with rfl | rfl | rfl | rfl | rfl | rfl | rfl | rfl <;> go_simp
    · intro j hj; rcases lt8 hj with rfl | rfl | rfl | rfl | rfl | rfl | rfl | rfl <;> go_simp
    · intro j hj; rw [Pm_zero, dg0 j hj]; rcases lt8 hj with rfl | rfl | rfl | rfl | rfl | rfl | rfl | rfl <;> go_simp
  case round =>
    clear hc1 hf1 hb1 hb2 hc2 hf2 hd2 hg2 ea eb
    generalize w1.heap.size = c at *
    generalize w2.heap.size = d at *
    obtain ⟨i, hi, rfl, hM⟩ := hrel
    have HM := Lib.hid hM
    clear hM
    by_cases hlt : i < 4
    · have hlt' : (i : Int) < 4 := by omega
      go_wp2
      go_loopw [9, 32] (fun l j wr => ∃ q : Nat, q ≤ 4 ∧ j = .int .i64 q ∧ l = .int .u64 (cyM x y i q) ∧ MW w c d (d + 1) x y (sa != sb) (dM x y i q) wr) (fun _ j _ => 4 - (intOf j).toNat)
      case atStart =>
        exact ⟨0, by omega, rfl, by unfold cyM; rw [Tm_zero]; simp, HM.out.fn (fun j hj => by unfold dM; rw [Tm_zero]; simp)⟩
      case round =>
        clear HM
        obtain ⟨j, hj, rfl, rfl, hM⟩ := hrel
        have HM := Lib.hid hM
        clear hM
        by_cases hjt : j < 4
        · obtain ⟨g1, g2, g3, g4, g5, g6⟩ := mul_in i j hlt hjt X0.out Y0.out Y1.out
          have hjt' : (j : Int) < 4 := by omega
          have ij : ((i : Int) + (j : Int)).toNat = i + j := by omega
          have ij2 : (i : Int) + (j : Int) < 8 := by omega
          have c1 := HM.out.de (i + j) (by omega)
          have c2 := HM.out.dx i (by omega)
          have c3 := HM.out.dy j (by omega)
          rw [g3] at c1
          have z1 := HM.out.s4
          have fe := HM.out.fe
          have m := prod_bd (dg_bd x i) (dg_bd y j)
          have m1 := m.1
          have m2 := m.2
          have dd := dg_bd (Pm x y i) (i + j)
          have d1 := dd.1
          have d2 := dd.2
          have e1 : IntKind.u64.wrap (dg x i * dg y j) = dg x i * dg y j := by rw [IntKind.wrap_u64]; omega
          have e2 : IntKind.u64.wrap (dg (Pm x y i) (i + j) + dg x i * dg y j) = dg (Pm x y i) (i + j) + dg x i * dg y j := by rw [IntKind.wrap_u64]; omega
          have e3 : IntKind.u64.wrap (cyM x y i j + (dg (Pm x y i) (i + j) + dg x i * dg y j)) = cyM x y i j + (dg (Pm x y i) (i + j) + dg x i * dg y j) := by rw [IntKind.wrap_u64]; omega
          have e4 : 0 ≤ cyM x y i j + (dg (Pm x y i) (i + j) + dg x i * dg y j) := by omega
          have G4 := Lib.hid g4
          have G5 := Lib.hid g5
          have G6 := Lib.hid g6
          clear g3 g4 g5 g6 m dd
          generalize cyM x y i j = cy at *
          generalize dg x i = xi at *
          generalize dg y j = yj at *
          go_wp2_with fail
          go_quiet (fail)
          clear e1 e2 e3
          go_wp2
          go_roundw
          case rel => exact ⟨j + 1, by omega, by go_num, by rw [← G5.out], HM.out.set _ (i + j) (by omega) _ G4.out.symm G6.out⟩
          case measure => simp [intOf]; omega
        · obtain rfl : j = 4 := by omega
          obtain ⟨g1, g2, g3, g4, g5⟩ := mul_out i hlt X0.out Y0.out Y1.out
          have i4 : ((i : Int) + 4).toNat = i + 4 := by omega
          have c1 := HM.out.de (i + 4) (by omega)
          rw [g1] at c1
          have z1 := HM.out.s4
          have fe := HM.out.fe
          have G4 := Lib.hid g4
          have G5 := Lib.hid g5
          clear g1 g4 g5
          generalize cyM x y i 4 = cy at *
          go_wp2
          go_roundw
          case rel => exact ⟨i + 1, by omega, by go_num, HM.out.set0 (i + 4) (by omega) _ G4.out.symm G5.out⟩
          case measure => simp [intOf]; omega
    · obtain rfl : i = 4 := by omega
      have P4 := Lib.hid (Pm_four (y := y) X0.out X1.out)
      have e0 := HM.out.e0
      have qs := HM.out.de
      rw [P4.out] at qs
      have r0 := HM.out.r0
      have r1 := HM.out.r1
      have fr := HM.out.fr
      have hz := HM.out.s4
      have HB := Lib.hid HM.out.below
      have Z := Lib.hid (show w.heap.size < wr.heap.size by have := HM.out.s1; have := HM.out.s2; have := HM.out.s3; omega)
      have t0 := qs 0 (by omega)
      have t1 := qs 1 (by omega)
      have t2 := qs 2 (by omega)
      have t3 := qs 3 (by omega)
      have t4 := qs 4 (by omega)
      have t5 := qs 5 (by omega)
      have t6 := qs 6 (by omega)
      have t7 := qs 7 (by omega)
      clear qs HM P4
      go_wp2_with fail
      refine (B.out _).mono ?_
      rintro e w3 ⟨rfl, hb3⟩
      obtain ⟨hc3, hf3, hz3⟩ := own_stays hb3 (b := w.heap.size) Z.out
      go_wp2
      have q0 : w3.cell? ⟨w.heap.size, 0, none⟩ = some (.int .i64 0) := by rw [hc3]; exact r0
      have q1 : w3.cell? ⟨w.heap.size, 1, none⟩ = some (.int .u64 0) := by rw [hc3]; exact r1
      obtain ⟨u0, u1⟩ := set2 (.int .i64 (hiW p)) (.int .u64 (loW p)) q0 q1
      have hb := HB.out
      refine bodyPost_ret (v := wideA p) (by simp [results, Try.results45, go_sem, u0, u1, hz3]) rfl ⟨rfl, ?_⟩
      exact (by repeat (with_reducible (first | exact Below.refl _ _ | assumption | refine bl_alloc ?_ _ | refine bl_drewN ?_ _ | refine bl_drew ?_ | refine bl_call ?_ (by assumption) | (refine bl_setCell ?_ _ (Nat.le_refl _)) | (refine bl_setCell ?_ _ (by first | omega | (simp; done) | (simp; omega))))))
end Go.Proofs.Ytkejohmghacdhaa
