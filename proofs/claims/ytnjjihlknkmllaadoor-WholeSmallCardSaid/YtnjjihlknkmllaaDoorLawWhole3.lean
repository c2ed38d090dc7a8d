import Derived.Test.YtnjjihlknkmllaaDoorRefB
namespace Go.Proofs.YtnjjihlknkmllaaDoor
set_option linter.unusedVariables false
set_option linter.unusedSimpArgs false
open Go.RowKit
theorem gI_comm (a b : Int) : gI b a = gI a b := by unfold gI; rw [Nat.gcd_comm]
theorem gI_neg (a b : Int) : gI (-a) b = gI a b := by unfold gI; rw [Int.natAbs_neg]
theorem gI_bd {a b : Int} (ha : In a) (hb : In b) : 0 ≤ gI a b ∧ gI a b ≤ 9223372036854775808 := by
  unfold gI In at *
  refine ⟨by omega, ?_⟩
  by_cases h : a.natAbs = 0
  · rw [h, Nat.gcd_zero_left]; omega
  · have := Nat.le_of_dvd (by omega) (Nat.gcd_dvd_left a.natAbs b.natAbs); omega
/-- too great: both are the least number, or 0 -/
theorem gI_over {a b : Int} (ha : In a) (hb : In b) (h : ¬ In (gI a b)) : (a = -9223372036854775808 ∨ a = 0) ∧ (b = -9223372036854775808 ∨ b = 0) := by
  have bd := gI_bd ha hb
  have e : gI a b = 9223372036854775808 := by unfold In at h; omega
  unfold gI at e
  have e' : Nat.gcd a.natAbs b.natAbs = 9223372036854775808 := by omega
  have d1 := Nat.gcd_dvd_left a.natAbs b.natAbs
  have d2 := Nat.gcd_dvd_right a.natAbs b.natAbs
  rw [e'] at d1 d2
  unfold In at ha hb
  have z : ∀ n : Nat, n ≤ 9223372036854775808 → 9223372036854775808 ∣ n → n = 0 ∨ n = 9223372036854775808 := fun n hn hd => by
    obtain ⟨k, rfl⟩ := hd
    omega
  have z1 := z _ (by omega) d1
  have z2 := z _ (by omega) d2
  omega
theorem gI_zero {a b : Int} (h : gI a b = 0) : a = 0 ∧ b = 0 := by
  unfold gI at h
  have : Nat.gcd a.natAbs b.natAbs = 0 := by omega
  obtain ⟨h1, h2⟩ := Nat.gcd_eq_zero_iff.1 this
  omega
theorem exact_div {a g : Int} (hg : 0 < g) (hd : g.natAbs ∣ a.natAbs) : a.fdiv g = a / g ∧ a.fmod g = 0 ∧ (a / g).natAbs = a.natAbs / g.natAbs := by
  have d : g ∣ a := Int.natAbs_dvd_natAbs.1 hd
  obtain ⟨q, rfl⟩ := d
  have h1 : (g * q).fdiv g = g * q / g := Int.fdiv_eq_ediv_of_nonneg _ (by omega)
  have h2 : (g * q).fmod g = g * q % g := Int.fmod_eq_emod_of_nonneg _ (by omega)
  refine ⟨h1, by rw [h2]; exact Int.mul_emod_right _ _, ?_⟩
  rw [Int.mul_ediv_cancel_left _ (by omega), Int.natAbs_mul, Nat.mul_div_cancel_left _ (by omega)]
theorem gI_parts {a b : Int} (ha : In a) (hb : In b) (h : 0 < gI a b) : dvQ a (gI a b) = a / gI a b ∧ dvR a (gI a b) = 0 ∧ dvE a (gI a b) = 0 ∧ In (a / gI a b) ∧
    dvQ b (gI a b) = b / gI a b ∧ dvR b (gI a b) = 0 ∧ dvE b (gI a b) = 0 ∧ In (b / gI a b) ∧ gI (a / gI a b) (b / gI a b) = 1 := by
  have hn : (gI a b).natAbs = Nat.gcd a.natAbs b.natAbs := by unfold gI; rw [Int.natAbs_natCast]
  obtain ⟨p1, p2, p3⟩ := exact_div (a := a) h (by rw [hn]; exact Nat.gcd_dvd_left _ _)
  obtain ⟨q1, q2, q3⟩ := exact_div (a := b) h (by rw [hn]; exact Nat.gcd_dvd_right _ _)
  have i1 : In (a / gI a b) := by
    have : (a / gI a b).natAbs ≤ a.natAbs := by rw [p3]; exact Nat.div_le_self _ _
    have s : 0 ≤ a → 0 ≤ a / gI a b := fun h' => Int.ediv_nonneg h' (by omega)
    have s2 : a < 0 → a / gI a b < 0 := fun h' => Int.ediv_neg_of_neg_of_pos h' h
    unfold In at *; omega
  have i2 : In (b / gI a b) := by
    have : (b / gI a b).natAbs ≤ b.natAbs := by rw [q3]; exact Nat.div_le_self _ _
    have s : 0 ≤ b → 0 ≤ b / gI a b := fun h' => Int.ediv_nonneg h' (by omega)
    have s2 : b < 0 → b / gI a b < 0 := fun h' => Int.ediv_neg_of_neg_of_pos h' h
    unfold In at *; omega
  obtain ⟨x1, x2, x3⟩ := dv_of (a := a) (b := gI a b) (by omega) ⟨p1, p2⟩ i1
  obtain ⟨y1, y2, y3⟩ := dv_of (a := b) (b := gI a b) (by omega) ⟨q1, q2⟩ i2
  refine ⟨x1, x2, x3, i1, y1, y2, y3, i2, ?_⟩
  unfold gI at h
  have hg : 0 < Nat.gcd a.natAbs b.natAbs := by omega
  rw [show gI (a / gI a b) (b / gI a b) = (Nat.gcd (a / gI a b).natAbs (b / gI a b).natAbs : Int) from rfl, p3, q3, hn]
  have c : Nat.gcd (a.natAbs / Nat.gcd a.natAbs b.natAbs) (b.natAbs / Nat.gcd a.natAbs b.natAbs) = 1 := Nat.coprime_div_gcd_div_gcd hg
  rw [c]; rfl
set_option maxRecDepth 100000 in
set_option maxHeartbeats 8000000 in
theorem wholeDoes_any (a b : Int) (w : World) (ha : In a) (hb : In b) (hT : Tab w) :
    Calls Tryd.prog 4 #[.int .i64 a, .int .i64 b] w fun e w' => e = .returned (.bool true) ∧ Below w.heap.size w w' := by
  have A := Lib.hid (fun w => whole_add a b w ha hb)
  have RA := Lib.hid (fun w => r1add a b w ha hb)
  have S := Lib.hid (fun w => whole_sub a b w ha hb)
  have RS := Lib.hid (fun w => r1sub a b w ha hb)
  have M := Lib.hid (fun w => whole_mul a b w ha hb)
  have RM := Lib.hid (fun w => r1mul a b w ha hb)
  have N := Lib.hid (fun w => whole_neg a w ha)
  have RN := Lib.hid (fun w => r1neg a w ha)
  have D := Lib.hid (fun w => whole_div a b w ha hb)
  have RD := Lib.hid (fun w => r1div a b w ha hb)
  have G := Lib.hid (fun w h => whole_gcd a b w ha hb h)
  have RG := Lib.hid (fun w => r1gcd a b w ha hb)
  have TT := Lib.hid hT
  clear hT ha hb
  generalize capN (a + b) = v1 at *
  generalize errN (a + b) = e1 at *
  generalize capN (a - b) = v2 at *
  generalize errN (a - b) = e2 at *
  generalize capN (a * b) = v3 at *
  generalize errN (a * b) = e3 at *
  generalize capN (-a) = v4 at *
  generalize errN (-a) = e4 at *
  generalize dvQ a b = v5 at *
  generalize dvR a b = v6 at *
  generalize dvE a b = e5 at *
  generalize capN (gI a b) = v7 at *
  generalize errN (gI a b) = e7 at *
  go_enter Tryd.func4, Tryd.ntmps4
  go_wp2_with fail
  refine (live1 _).mono ?_
  rintro e w1 ⟨rfl, hb1⟩
  go_wp2_with fail
  refine (A.out _).mono ?_
  rintro e w2 ⟨rfl, rfl⟩
  go_wp2_with fail
  refine (RA.out _).mono ?_
  rintro e w2 ⟨rfl, rfl⟩
  go_wp2_with fail
  refine (S.out _).mono ?_
  rintro e w2 ⟨rfl, rfl⟩
  go_wp2_with fail
  refine (RS.out _).mono ?_
  rintro e w2 ⟨rfl, rfl⟩
  go_wp2_with fail
  refine (M.out _).mono ?_
  rintro e w2 ⟨rfl, rfl⟩
  go_wp2_with fail
  refine (RM.out _).mono ?_
  rintro e w2 ⟨rfl, rfl⟩
  go_wp2_with fail
  refine (N.out _).mono ?_
  rintro e w2 ⟨rfl, rfl⟩
  go_wp2_with fail
  refine (RN.out _).mono ?_
  rintro e w2 ⟨rfl, rfl⟩
  go_wp2_with fail
  refine (D.out _).mono ?_
  rintro e w2 ⟨rfl, hb2⟩
  go_wp2_with fail
  refine (RD.out _).mono ?_
  rintro e w3 ⟨rfl, hb3⟩
  have HB := Lib.hid (bl_call (bl_call hb1 hb2) hb3)
  clear hb1 hb2 hb3
  go_wp2_with fail
  refine (G.out _ (TT.out.go HB.out)).mono ?_
  rintro e w4 ⟨rfl, rfl⟩
  go_wp2_with fail
  refine (RG.out _).mono ?_
  rintro e w4 ⟨rfl, hb4⟩
  go_wp2
  go_ret
  exact ⟨ret_b (by first | rfl | (simp; done)), bl_call HB.out hb4⟩
theorem eqb_or {a : Int} (h : a = -9223372036854775808 ∨ a = 0) : ((a == -9223372036854775808) || (a == 0)) = true := by rcases h with rfl | rfl <;> decide
set_option maxRecDepth 100000 in
set_option maxHeartbeats 8000000 in
theorem wholeCommon_any (a b : Int) (w : World) (ha : In a) (hb : In b) (hT : Tab w) :
    Calls Tryd.prog 3 #[.int .i64 a, .int .i64 b] w fun e w' => e = .returned (.bool true) ∧ Below w.heap.size w w' := by
  have G := fun w h => whole_gcd a b w ha hb h
  have G2 := fun w h => whole_gcd b a w hb ha h
  rw [gI_comm] at G2
  have TT := Lib.hid hT
  clear hT
  have bd := gI_bd ha hb
  rcases cap_cases (gI a b) with ⟨c1, c2, c3⟩ | ⟨c1, c2, c3⟩
  · rw [c1, c2] at G G2
    have G := Lib.hid G
    have G2 := Lib.hid G2
    clear c1 c2
    by_cases hz : gI a b = 0
    · obtain ⟨rfl, rfl⟩ := gI_zero hz
      rw [hz] at G G2
      clear hz bd c3
      go_enter Tryd.func3, Tryd.ntmps3
      go_wp2_with fail
      refine (live1 _).mono ?_
      rintro e w1 ⟨rfl, hb1⟩
      go_wp2_with fail
      refine (G.out _ (TT.out.go hb1)).mono ?_
      rintro e w2 ⟨rfl, rfl⟩
      go_wp2_with fail
      refine (G2.out _ (TT.out.go hb1)).mono ?_
      rintro e w2 ⟨rfl, rfl⟩
      go_wp2
      go_ret
      exact ⟨ret_b (by first | rfl | (simp; done)), hb1⟩
    · have hp : 0 < gI a b := by omega
      obtain ⟨x1, x2, x3, x4, y1, y2, y3, y4, z⟩ := gI_parts ha hb hp
      have D1 := fun w => whole_div a (gI a b) w ha c3
      have D2 := fun w => whole_div b (gI a b) w hb c3
      rw [x1, x2, x3] at D1
      rw [y1, y2, y3] at D2
      have D1 := Lib.hid D1
      have D2 := Lib.hid D2
      have G3 := fun w h => whole_gcd (a / gI a b) (b / gI a b) w x4 y4 h
      rw [z, show capN 1 = 1 by decide, show errN 1 = 0 by decide] at G3
      have G3 := Lib.hid G3
      have N := fun w => whole_neg a w ha
      have NN := cap_cases (-a)
      have G4 := fun w (h : In (-a)) h2 => whole_gcd (-a) b w h hb h2
      rw [gI_neg, capN_fit (fitB_of c3), errN_fit (fitB_of c3)] at G4
      have G4 := Lib.hid G4
      clear x1 x2 x3 y1 y2 y3 z bd hz c3
      generalize a / gI a b = x at *
      generalize b / gI a b = y at *
      generalize gI a b = g at *
      have nz : (g == 0) = false := by simp; omega
      have nz2 : ¬ g < 0 := by omega
      rcases NN with ⟨n1, n2, n3⟩ | ⟨n1, n2, n3⟩
      all_goals
        rw [n1, n2] at N
        have N := Lib.hid N
        have N3 := Lib.hid n3
        clear n1 n2 n3
        go_enter Tryd.func3, Tryd.ntmps3
        go_wp2_with fail
        refine (live1 _).mono ?_
        rintro e w1 ⟨rfl, hb1⟩
        go_wp2_with fail
        refine (G.out _ (TT.out.go hb1)).mono ?_
        rintro e w2 ⟨rfl, rfl⟩
        go_wp2_with fail
        refine (G2.out _ (TT.out.go hb1)).mono ?_
        rintro e w2 ⟨rfl, rfl⟩
        go_wp2_with fail
        refine (D1.out _).mono ?_
        rintro e w2 ⟨rfl, hb2⟩
        go_wp2_with fail
        refine (D2.out _).mono ?_
        rintro e w3 ⟨rfl, hb3⟩
        have HB := Lib.hid (bl_call (bl_call hb1 hb2) hb3)
        clear hb1 hb2 hb3
        go_wp2_with fail
        refine (G3.out _ (TT.out.go HB.out)).mono ?_
        rintro e w4 ⟨rfl, rfl⟩
        go_wp2_with fail
        refine (N.out _).mono ?_
        rintro e w4 ⟨rfl, rfl⟩
      · go_wp2_with fail
        refine (G4.out _ N3.out (TT.out.go HB.out)).mono ?_
        rintro e w4 ⟨rfl, rfl⟩
        go_wp2
        go_ret
        exact ⟨ret_b (by first | rfl | (simp; done)), HB.out⟩
      · go_wp2
        go_ret
        exact ⟨ret_b (by first | rfl | (simp; done)), HB.out⟩
  · rw [c1, c2] at G G2
    have G := Lib.hid G
    have G2 := Lib.hid G2
    obtain ⟨o1, o2⟩ := gI_over ha hb c3
    clear c1 c2 c3 bd ha hb
    rcases o1 with rfl | rfl <;> rcases o2 with rfl | rfl
    all_goals
      go_enter Tryd.func3, Tryd.ntmps3
      go_wp2_with fail
      refine (live1 _).mono ?_
      rintro e w1 ⟨rfl, hb1⟩
      go_wp2_with fail
      refine (G.out _ (TT.out.go hb1)).mono ?_
      rintro e w2 ⟨rfl, rfl⟩
      go_wp2_with fail
      refine (G2.out _ (TT.out.go hb1)).mono ?_
      rintro e w2 ⟨rfl, rfl⟩
      go_wp2
      go_ret
      exact ⟨ret_b (by first | rfl | (simp; done)), hb1⟩
theorem gI_small {a b : Int} (ha : -2147483648 ≤ a ∧ a ≤ 2147483647) (hb : -2147483648 ≤ b ∧ b ≤ 2147483647) : In (gI a b) := by
  unfold gI In
  by_cases h : a.natAbs = 0
  · rw [h, Nat.gcd_zero_left]; omega
  · have := Nat.le_of_dvd (by omega) (Nat.gcd_dvd_left a.natAbs b.natAbs); omega
theorem prod_small {a b : Int} (ha : -2147483648 ≤ a ∧ a ≤ 2147483647) (hb : -2147483648 ≤ b ∧ b ≤ 2147483647) : -4611686018427387904 ≤ a * b ∧ a * b ≤ 4611686018427387904 := by
  have h1 : (a * b).natAbs ≤ 2147483648 * 2147483648 := by rw [Int.natAbs_mul]; exact Nat.mul_le_mul (by omega) (by omega)
  omega
theorem dvE_small {a b : Int} (ha : -2147483648 ≤ a ∧ a ≤ 2147483647) (hb : -2147483648 ≤ b ∧ b ≤ 2147483647) : (b = 0 ∧ dvE a b = 3) ∨ (b ≠ 0 ∧ dvE a b = 0) := by
  by_cases h : b = 0
  · subst h; exact .inl ⟨rfl, rfl⟩
  · rcases dv_cases (a := a) (b := b) (by unfold In; omega) (by unfold In; omega) h with ⟨_, _, _, h3⟩ | ⟨h1, _⟩
    · exact .inr ⟨h, h3⟩
    · omega
set_option maxRecDepth 100000 in
set_option maxHeartbeats 8000000 in
theorem wholeSmall_any (a b : Int) (w : World) (ha : -2147483648 ≤ a ∧ a ≤ 2147483647) (hb : -2147483648 ≤ b ∧ b ≤ 2147483647) (hT : Tab w) :
    Calls Tryd.prog 5 #[.int .i32 a, .int .i32 b] w fun e w' => e = .returned (.bool true) ∧ Below w.heap.size w w' := by
  have ia : In a := by unfold In; omega
  have ib : In b := by unfold In; omega
  have pb := prod_small ha hb
  have A := fun w => whole_add a b w ia ib
  have S := fun w => whole_sub a b w ia ib
  have M := fun w => whole_mul a b w ia ib
  have D := fun w => whole_div a b w ia ib
  have G := fun w h => whole_gcd a b w ia ib h
  have f1 : fitB (a + b) = true := fitB_of (by unfold In; omega)
  have f2 : fitB (a - b) = true := fitB_of (by unfold In; omega)
  have f3 : fitB (a * b) = true := fitB_of (by unfold In; omega)
  have f4 : fitB (gI a b) = true := fitB_of (gI_small ha hb)
  rw [capN_fit f1, errN_fit f1] at A
  rw [capN_fit f2, errN_fit f2] at S
  rw [capN_fit f3, errN_fit f3] at M
  rw [capN_fit f4, errN_fit f4] at G
  have A := Lib.hid A
  have S := Lib.hid S
  have M := Lib.hid M
  have G := Lib.hid G
  have TT := Lib.hid hT
  have E := dvE_small ha hb
  have wm : wrap64 (a * b) = a * b := wrap64_of (by unfold In; omega)
  have wm2 : IntKind.i64.wrap (a * b) = a * b := IntWalk.i64_in _ ⟨by omega, by omega⟩
  obtain ⟨a0, a1⟩ := ha
  obtain ⟨b0, b1⟩ := hb
  obtain ⟨p0, p1⟩ := pb
  clear f1 f2 f3 f4 ia ib hT
  generalize dvQ a b = v5 at *
  generalize dvR a b = v6 at *
  rcases E with ⟨rfl, e⟩ | ⟨hz, e⟩
  · rw [e] at D
    have D := Lib.hid D
    clear e
    go_enter Tryd.func5, Tryd.ntmps5
    go_wp2_with fail
    refine (live1 _).mono ?_
    rintro e w1 ⟨rfl, hb1⟩
    go_wp2_with fail
    refine (A.out _).mono ?_
    rintro e w2 ⟨rfl, rfl⟩
    go_wp2_with fail
    refine (S.out _).mono ?_
    rintro e w2 ⟨rfl, rfl⟩
    go_wp2_with fail
    refine (M.out _).mono ?_
    rintro e w2 ⟨rfl, rfl⟩
    go_wp2_with fail
    refine (D.out _).mono ?_
    rintro e w2 ⟨rfl, hb2⟩
    go_wp2_with fail
    refine (G.out _ (TT.out.go (bl_call hb1 hb2))).mono ?_
    rintro e w4 ⟨rfl, rfl⟩
    go_wp2
    go_ret
    exact ⟨ret_b (by first | rfl | (simp; done)), bl_call hb1 hb2⟩
  · rw [e] at D
    have D := Lib.hid D
    have hz1 : (b == 0) = false := by simpa using hz
    have hz2 : (b != 0) = true := by simpa using hz
    clear e hz
    go_enter Tryd.func5, Tryd.ntmps5
    go_wp2_with fail
    refine (live1 _).mono ?_
    rintro e w1 ⟨rfl, hb1⟩
    go_wp2_with fail
    refine (A.out _).mono ?_
    rintro e w2 ⟨rfl, rfl⟩
    go_wp2_with fail
    refine (S.out _).mono ?_
    rintro e w2 ⟨rfl, rfl⟩
    go_wp2_with fail
    refine (M.out _).mono ?_
    rintro e w2 ⟨rfl, rfl⟩
    go_wp2_with fail
    refine (D.out _).mono ?_
    rintro e w2 ⟨rfl, hb2⟩
    go_wp2_with fail
    refine (G.out _ (TT.out.go (bl_call hb1 hb2))).mono ?_
    rintro e w4 ⟨rfl, rfl⟩
    go_wp2
    go_ret
    exact ⟨ret_b (by first | rfl | (simp; done)), bl_call hb1 hb2⟩
end Go.Proofs.YtnjjihlknkmllaaDoor
