import Derived.Test.YtkejohmghacdhaaLawShareSum
namespace Go.Proofs.Ytkejohmghacdhaa
set_option linter.unusedVariables false
set_option linter.unusedSimpArgs false
open Go Go.RowKit
/-- one more to split: a part is less by 1 at most, more by 2 at most; of no weight there is no part -/
theorem q_next {a x S : Int} (hS : 0 < S) (h0 : 0 ≤ x) (h1 : x ≤ S) : a * x / S ≤ (a + 1) * x / S ∧ (a + 1) * x / S ≤ a * x / S + 1 := by
  have e1 := Int.mul_ediv_add_emod (a * x) S
  have r1 := Int.emod_nonneg (a * x) (b := S) (by omega)
  have r2 := Int.emod_lt_of_pos (a * x) hS
  have e2 := Int.mul_ediv_add_emod ((a + 1) * x) S
  have r3 := Int.emod_nonneg ((a + 1) * x) (b := S) (by omega)
  have r4 := Int.emod_lt_of_pos ((a + 1) * x) hS
  have e3 : (a + 1) * x = a * x + x := by rw [Int.add_mul, Int.one_mul]
  rw [e3] at e2 r3 r4 ⊢
  generalize a * x = p at *
  generalize p / S = q at *
  generalize (p + x) / S = q' at *
  generalize p % S = r at *
  generalize (p + x) % S = r' at *
  constructor
  · rcases Int.lt_or_le q' q with h | h
    · have := Int.mul_le_mul_of_nonneg_left (show q' + 1 ≤ q by omega) (Int.le_of_lt hS)
      rw [Int.mul_add] at this; omega
    · exact h
  · rcases Int.lt_or_le (q + 1) q' with h | h
    · have := Int.mul_le_mul_of_nonneg_left (show q + 2 ≤ q' by omega) (Int.le_of_lt hS)
      rw [Int.mul_add] at this; omega
    · exact h
theorem WOk.zero {ws : List Int} (h : WOk ws) (a : Int) {k : Nat} (hk : k < ws.length) (h0 : ws.getD k 0 = 0) : (shL a ws).getD k 0 = 0 := by
  rcases h.parts a hk with h1 | ⟨h1, h2⟩
  · rw [h1, at_shQ hk, h0]; simp
  · rw [at_shR hk, h0] at h2; simp at h2
theorem WOk.more {ws : List Int} (h : WOk ws) (a : Int) {k : Nat} (hk : k < ws.length) : -1 ≤ (shL (a + 1) ws).getD k 0 - (shL a ws).getD k 0 ∧ (shL (a + 1) ws).getD k 0 - (shL a ws).getD k 0 ≤ 2 := by
  have n := q_next (a := a) h.sum (h.x_bd hk).1 (h.x_bd hk).2
  have e1 := at_shL (a := a) hk
  have e2 := at_shL (a := a + 1) hk
  rw [at_shQ hk] at e1 e2
  have := took_01 (shR a ws) (shM a ws).toNat k
  have := took_01 (shR (a + 1) ws) (shM (a + 1) ws).toNat k
  omega
set_option maxRecDepth 100000 in
set_option maxHeartbeats 4000000 in
theorem shareMore_any (a : Int) (xs : List Int) (ad : Option Addr) (cap : Nat) (w : World) (ha : In a) (hn : xs.length ≤ 9223372036854775807) (hx : ∀ k, k < xs.length → In (xs.getD k 0)) (hs : SlI .i64 w ad xs) :
    Calls Try.prog 10 #[.int .i64 a, .slice ad xs.length cap] w fun e w' => e = .returned (.bool true) ∧ Below w.heap.size w w' := by
  by_cases h : 60 < xs.length
  · have hz : (60 : Int) < (xs.length : Int) := by omega
    have hz' : decide ((60 : Int) < (xs.length : Int)) = true := decide_eq_true hz
    clear hx hs
    generalize xs.length = n at *
    go_enter Try.func10, Try.ntmps10
    go_wp2_with fail
    refine (live4 _).mono ?_
    rintro e w1 ⟨rfl, hb1⟩
    go_wp2_with fail
    go_ret
    exact ⟨rfl, (by repeat (with_reducible (first | exact Below.refl _ _ | assumption | refine bl_alloc ?_ _ | refine bl_drewN ?_ _ | refine bl_drew ?_ | refine bl_call ?_ (by assumption) | (refine bl_setCell ?_ _ (Nat.le_refl _)) | (refine bl_setCell ?_ _ (by first | omega | (simp; done) | (simp; omega))))))⟩
  have hz : ¬ (60 : Int) < (xs.length : Int) := by omega
  have hz' : decide ((60 : Int) < (xs.length : Int)) = false := decide_eq_false hz
  by_cases h9 : a = 9223372036854775807
  · subst h9
    clear hx hs
    generalize xs.length = n at *
    go_enter Try.func10, Try.ntmps10
    go_wp2_with fail
    refine (live4 _).mono ?_
    rintro e w1 ⟨rfl, hb1⟩
    go_wp2_with fail
    go_ret
    exact ⟨rfl, (by repeat (with_reducible (first | exact Below.refl _ _ | assumption | refine bl_alloc ?_ _ | refine bl_drewN ?_ _ | refine bl_drew ?_ | refine bl_call ?_ (by assumption) | (refine bl_setCell ?_ _ (Nat.le_refl _)) | (refine bl_setCell ?_ _ (by first | omega | (simp; done) | (simp; omega))))))⟩
  have h9' : (a == 9223372036854775807) = false := by simpa using h9
  have ha' := ha
  unfold In at ha'
  have ha1 : In (a + 1) := by unfold In; omega
  have hw1 : IntKind.i64.wrap (a + 1) = a + 1 := by rw [IntKind.wrap_i64]; omega
  by_cases hE : allE xs = 0
  · obtain ⟨WO, hN⟩ := wok_of hE
    obtain ⟨sb, so, rfl, hsb, hcell⟩ := hs.at 0 WO.nonempty
    have C1 := Lib.hid (fun w hs => split_yes a xs (some ⟨sb, so, none⟩) cap w hn hx hs ha hE)
    have C2 := Lib.hid (fun w hs => split_yes (a + 1) xs (some ⟨sb, so, none⟩) cap w hn hx hs ha1 hE)
    have hl := len_shL (a + 1) xs
    have C3 := Lib.hid (fun (b : Nat) w hs => by
      have := wsum_ok (shL (a + 1) xs) (some ⟨b, 0, none⟩) xs.length w (by rw [hl]; exact hn) (fun k hk => WO.l_in ha1 (by rw [hl] at hk; exact hk)) hs (by rw [WO.sumL]; exact ha1)
      rwa [hl, WO.sumL] at this)
    have D := Lib.hid (fun k hk => WO.more a (k := k) hk)
    have Z := Lib.hid (fun k hk => WO.zero a (k := k) hk)
    have Z1 := Lib.hid (fun k hk => WO.zero (a + 1) (k := k) hk)
    have HS := Lib.hid hs
    have HC := Lib.hid hcell
    have SL : Hid (∀ b W, RowF W b xs.length (fun j => (shL (a + 1) xs).getD j 0) → SlI .i64 W (some ⟨b, 0, none⟩) (shL (a + 1) xs)) := fun b W h => RowF.sl (by rw [hl]; exact h)
    have LB : Hid (∀ k, k < xs.length → In ((shL a xs).getD k 0) ∧ In ((shL (a + 1) xs).getD k 0)) := fun k hk => ⟨WO.l_in ha hk, WO.l_in ha1 hk⟩
    unfold SplitOk at C1 C2
    clear hx hs hcell WO hN hE hl
    generalize shL a xs = X at *
    generalize shL (a + 1) xs = Y at *
    generalize hxx : (fun k => X.getD k 0) = x
    generalize hyy : (fun k => Y.getD k 0) = y
    generalize hww : (fun k => xs.getD k 0) = v
    have ex : ∀ k, X.getD k 0 = x k := fun k => by rw [← hxx]
    have ey : ∀ k, Y.getD k 0 = y k := fun k => by rw [← hyy]
    have ev : ∀ k, xs.getD k 0 = v k := fun k => by rw [← hww]
    have D : Hid (∀ k, k < xs.length → -1 ≤ y k - x k ∧ y k - x k ≤ 2) := fun k hk => by have := D.out k hk; rwa [ex, ey] at this
    have Z : Hid (∀ k, k < xs.length → v k = 0 → x k = 0 ∧ y k = 0) := fun k hk h0 => by
      have h1 := Z.out k hk
      have h2 := Z1.out k hk
      rw [ev, ex] at h1; rw [ev, ey] at h2
      exact ⟨h1 h0, h2 h0⟩
    have HC : Hid (∀ j, j < xs.length → w.cell? ⟨sb, so + j, none⟩ = some (.int .i64 (v j))) := fun j hj => by have := HC.out j hj; rwa [ev] at this
    have LB : Hid (∀ k, k < xs.length → In (x k) ∧ In (y k)) := fun k hk => by have := LB.out k hk; rwa [ex, ey] at this
    have RX : Hid (∀ W b, RowF W b xs.length (fun j => X.getD j 0) → RowF W b xs.length x) := fun W b h => h.congr fun j _ => (ex j).symm
    have RY : Hid (∀ W b, RowF W b xs.length (fun j => Y.getD j 0) → RowF W b xs.length y) := fun W b h => h.congr fun j _ => (ey j).symm
    clear ex ey ev hxx hyy hww Z1
    generalize xs.length = n at *
    go_enter Try.func10, Try.ntmps10
    go_wp2_with fail
    refine (live4 _).mono ?_
    rintro e w1 ⟨rfl, hb1⟩
    have s1 := Lib.hid (HS.out.go hb1)
    go_wp2_with fail
    refine (C1.out _ s1.out).mono ?_
    rintro e w2 ⟨b, hb, rfl, hr, hb2⟩
    have s2 := Lib.hid (s1.out.go hb2)
    have R2 := Lib.hid hr
    have B2 := Lib.hid (bl_call hb1 hb2)
    clear hb hr hb1 hb2
    go_wp2_with fail
    refine (C2.out _ s2.out).mono ?_
    rintro e w3 ⟨c, hc, rfl, hr, hb3⟩
    have R3 := Lib.hid (R2.out.go hb3)
    have Q3 := Lib.hid hr
    have B3 := Lib.hid (bl_call B2.out hb3)
    clear hb3 hc hr
    go_wp2
    have R4 := Lib.hid (RX.out _ _ R3.out)
    have Q4 := Lib.hid (RY.out _ _ Q3.out)
    have W0 : Aside (Below w3.heap.size w3 w3) := Below.refl _ _
    go_loopw [59] (fun i wr => ∃ k : Nat, k ≤ n ∧ i = .int .i64 k ∧ Aside (Below w3.heap.size w3 wr)) (fun i _ => n - (intOf i).toNat)
    case atStart => exact ⟨0, by omega, rfl, W0⟩
    case round =>
      obtain ⟨k, hk, rfl, WB⟩ := hrel
      by_cases hlt : k < n
      · have hzk : (k : Int) < (n : Int) := by omega
        have c1 : wr.cell? ⟨sb, so + k, none⟩ = some (.int .i64 (v k)) := ((bl_call B3.out WB.out).cell (p := ⟨sb, so + k, none⟩) hsb).trans (HC.out k hlt)
        have c2 : wr.cell? ⟨b, k, none⟩ = some (.int .i64 (x k)) := ((R4.out.go WB.out) k hlt).1
        have c3 : wr.cell? ⟨c, k, none⟩ = some (.int .i64 (y k)) := ((Q4.out.go WB.out) k hlt).1
        have d := D.out k hlt
        have z := Z.out k hlt
        have lb := LB.out k hlt
        unfold In at lb
        by_cases hv : v k = 0
        · obtain ⟨z1, z2⟩ := z hv
          rw [hv] at c1; rw [z1] at c2; rw [z2] at c3
          clear d z lb z1 z2 hv
          go_wp2_with fail
          refine region_qb (fun W => W.cell? ⟨sb, so + k, none⟩ = some (.int .i64 0) ∧ W.cell? ⟨b, k, none⟩ = some (.int .i64 0) ∧ W.cell? ⟨c, k, none⟩ = some (.int .i64 0) ∧ Below wr.heap.size wr W) ⟨c1, c2, c3, Below.refl _ _⟩ (by kernel_rfl) (by kernel_rfl) ?_
          intro W ⟨k0, k1, k2, hbW⟩
          replace k0 := rcell k0
          replace k1 := rcell k1
          replace k2 := rcell k2
          clear c1 c2 c3
          try simp only [List.append_eq, List.cons_append, List.nil_append]
          repeat (first | go_big_quiet_step (fail) | quiet_step (fail))
          refine wpQuiet_nil ?_
          intro w9 hb9
          go_wp2
          go_roundw
          case rel => exact ⟨k + 1, by omega, by go_num, bl_call (bl_call WB.out hbW) hb9⟩
          case measure => simp [intOf]; omega
        · have hv' : (v k == 0) = false := by simpa using hv
          have hw2 : IntKind.i64.wrap (x k - y k) = x k - y k := by rw [IntKind.wrap_i64]; omega
          have hw3 : IntKind.i64.wrap (y k - x k) = y k - x k := by rw [IntKind.wrap_i64]; omega
          have t3 : decide (1 < x k - y k) = false := decide_eq_false (by omega)
          have t4 : decide (2 < y k - x k) = false := decide_eq_false (by omega)
          clear z
          rcases Int.lt_trichotomy (y k) (x k) with e | e | e
          · have t1 : decide (y k < x k) = true := decide_eq_true e
            have t2 : decide (x k < y k) = false := decide_eq_false (by omega)
            clear d lb
            go_wp2_with fail
            refine region_qb (fun W => W.cell? ⟨sb, so + k, none⟩ = some (.int .i64 (v k)) ∧ W.cell? ⟨b, k, none⟩ = some (.int .i64 (x k)) ∧ W.cell? ⟨c, k, none⟩ = some (.int .i64 (y k)) ∧ Below wr.heap.size wr W) ⟨c1, c2, c3, Below.refl _ _⟩ (by kernel_rfl) (by kernel_rfl) ?_
            intro W ⟨k0, k1, k2, hbW⟩
            replace k0 := rcell k0
            replace k1 := rcell k1
            replace k2 := rcell k2
            clear c1 c2 c3
            try simp only [List.append_eq, List.cons_append, List.nil_append]
            repeat (first | go_big_quiet_step (fail) | quiet_step (fail))
            refine wpQuiet_nil ?_
            intro w9 hb9
            go_wp2
            go_roundw
            case rel => exact ⟨k + 1, by omega, by go_num, bl_call (bl_call WB.out hbW) hb9⟩
            case measure => simp [intOf]; omega
          · rw [e] at c3
            have t1 : decide (x k < x k) = false := decide_eq_false (by omega)
            have t2 : ¬ x k < x k := by omega
            clear d lb hw2 hw3 t3 t4 e
            go_wp2_with fail
            refine region_qb (fun W => W.cell? ⟨sb, so + k, none⟩ = some (.int .i64 (v k)) ∧ W.cell? ⟨b, k, none⟩ = some (.int .i64 (x k)) ∧ W.cell? ⟨c, k, none⟩ = some (.int .i64 (x k)) ∧ Below wr.heap.size wr W) ⟨c1, c2, c3, Below.refl _ _⟩ (by kernel_rfl) (by kernel_rfl) ?_
            intro W ⟨k0, k1, k2, hbW⟩
            replace k0 := rcell k0
            replace k1 := rcell k1
            replace k2 := rcell k2
            clear c1 c2 c3
            try simp only [List.append_eq, List.cons_append, List.nil_append]
            repeat (first | go_big_quiet_step (fail) | quiet_step (fail))
            refine wpQuiet_nil ?_
            intro w9 hb9
            go_wp2
            go_roundw
            case rel => exact ⟨k + 1, by omega, by go_num, bl_call (bl_call WB.out hbW) hb9⟩
            case measure => simp [intOf]; omega
          · have t1 : decide (y k < x k) = false := decide_eq_false (by omega)
            have t2 : decide (x k < y k) = true := decide_eq_true e
            clear d lb
            go_wp2_with fail
            refine region_qb (fun W => W.cell? ⟨sb, so + k, none⟩ = some (.int .i64 (v k)) ∧ W.cell? ⟨b, k, none⟩ = some (.int .i64 (x k)) ∧ W.cell? ⟨c, k, none⟩ = some (.int .i64 (y k)) ∧ Below wr.heap.size wr W) ⟨c1, c2, c3, Below.refl _ _⟩ (by kernel_rfl) (by kernel_rfl) ?_
            intro W ⟨k0, k1, k2, hbW⟩
            replace k0 := rcell k0
            replace k1 := rcell k1
            replace k2 := rcell k2
            clear c1 c2 c3
            try simp only [List.append_eq, List.cons_append, List.nil_append]
            repeat (first | go_big_quiet_step (fail) | quiet_step (fail))
            refine wpQuiet_nil ?_
            intro w9 hb9
            go_wp2
            go_roundw
            case rel => exact ⟨k + 1, by omega, by go_num, bl_call (bl_call WB.out hbW) hb9⟩
            case measure => simp [intOf]; omega
      · have hzk : ¬ (k : Int) < (n : Int) := by omega
        go_wp2_with fail
        refine (C3.out c _ (SL.out c _ (Q3.out.go WB.out))).mono ?_
        rintro e w4 ⟨rfl, hb4⟩
        go_wp2
        go_ret
        exact ⟨ret_b (by first | rfl | simp), bl_call (bl_call B3.out WB.out) hb4⟩
  · have C1 := Lib.hid (fun w hs => split_no a xs ad cap w hn hx hs hE)
    have C2 := Lib.hid (fun w hs => split_no (a + 1) xs ad cap w hn hx hs hE)
    have HS := Lib.hid hs
    have he : (allE xs == 0) = false := by simpa using hE
    clear hx hs
    generalize allE xs = u at *
    generalize xs.length = n at *
    go_enter Try.func10, Try.ntmps10
    go_wp2_with fail
    refine (live4 _).mono ?_
    rintro e w1 ⟨rfl, hb1⟩
    have s1 := Lib.hid (HS.out.go hb1)
    go_wp2_with fail
    refine (C1.out _ s1.out).mono ?_
    rintro e w2 ⟨rfl, hb2⟩
    have s2 := Lib.hid (s1.out.go hb2)
    go_wp2_with fail
    refine (C2.out _ s2.out).mono ?_
    rintro e w3 ⟨rfl, hb3⟩
    go_wp2
    go_ret
    exact ⟨rfl, (by repeat (with_reducible (first | exact Below.refl _ _ | assumption | refine bl_alloc ?_ _ | refine bl_drewN ?_ _ | refine bl_drew ?_ | refine bl_call ?_ (by assumption) | (refine bl_setCell ?_ _ (Nat.le_refl _)) | (refine bl_setCell ?_ _ (by first | omega | (simp; done) | (simp; omega))))))⟩
end Go.Proofs.Ytkejohmghacdhaa
