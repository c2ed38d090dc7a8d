import Derived.Test.YtkejohmghacdhaaRatD
namespace Go.Proofs.Ytkejohmghacdhaa
set_option linter.unusedVariables false
set_option linter.unusedSimpArgs false
open Go.RowKit
theorem ck_one (q : Int) : ckB q 1 = true := decide_eq_true ⟨by decide, by unfold gN; simp⟩
theorem In_mk {n d : Int} (hn : In n) (hd : In d) : In (mkN n d) ∧ In (mkD n d) := by
  rcases mk_cases n d with ⟨_, e1, e2, _⟩ | ⟨h0, ok, e1, e2, _⟩ | ⟨_, _, e1, e2, _⟩
  · rw [e1, e2]; exact ⟨⟨by decide, by decide⟩, ⟨by decide, by decide⟩⟩
  · obtain ⟨_, k1, k2⟩ := of_decide_eq_true ok
    have bx := mX_bd h0 hn
    rw [e1, e2]
    unfold In
    refine ⟨?_, by omega⟩
    rcases k2 with k2 | k2
    · unfold sgn; split <;> omega
    · rw [k2, sgn_true]; omega
  · rw [e1, e2]; exact ⟨⟨by decide, by decide⟩, ⟨by decide, by decide⟩⟩
theorem mk_over {n d : Int} (hn : In n) (hd : In d) (h0 : d ≠ 0) (h : mkOk n d = false) : n = -9223372036854775808 ∨ d = -9223372036854775808 := by
  have k := of_decide_eq_false h
  have x : mX n d ≤ n.natAbs := Nat.div_le_self _ _
  have y : mY n d ≤ d.natAbs := Nat.div_le_self _ _
  unfold In at hn hd
  apply Classical.byContradiction
  intro hc
  exact k ⟨h0, by omega, .inl (by omega)⟩
set_option maxRecDepth 100000 in
set_option maxHeartbeats 2000000 in
theorem live3 (w : World) : Calls Try.prog 12 #[] w fun e w' => e = .returned (.bool true) ∧ Below w.heap.size w w' := by
  have M := fun w => rat_make 6 (-4) w ⟨by decide, by decide⟩ ⟨by decide, by decide⟩
  rw [show mkN 6 (-4) = -3 by decide +kernel, show mkD 6 (-4) = 2 by decide +kernel, show mkE 6 (-4) = 0 by decide +kernel] at M
  have F := fun w => rat_floor (-3) 2 w ⟨by decide, by decide⟩ ⟨by decide, by decide⟩
  have C := fun w => rat_ceil (-3) 2 w ⟨by decide, by decide⟩ ⟨by decide, by decide⟩
  rw [show ckR (-3) 2 = 0 by decide +kernel] at F C
  rw [show flV (-3) 2 = -2 by decide +kernel] at F
  rw [show clV (-3) 2 = -1 by decide +kernel] at C
  have M := Lib.hid M
  have F := Lib.hid F
  have C := Lib.hid C
  go_enter Try.func12, Try.ntmps12
  go_wp2_with fail
  refine (M.out _).mono ?_
  rintro e w1 ⟨rfl, hb1⟩
  go_wp2_with fail
  refine (F.out _).mono ?_
  rintro e w2 ⟨rfl, hb2⟩
  obtain ⟨hc2, hf2, hz2⟩ := own_stays hb2 (b := w1.heap.size) (by go_simp)
  go_wp2_with fail
  refine (C.out _).mono ?_
  rintro e w3 ⟨rfl, hb3⟩
  obtain ⟨hc3, hf3, hz3⟩ := own_stays hb3 (b := w1.heap.size) hz2
  go_wp2
  go_ret
  exact ⟨ret_b (by first | rfl | (simp; done)), (by repeat (with_reducible (first | exact Below.refl _ _ | assumption | refine bl_alloc ?_ _ | refine bl_drewN ?_ _ | refine bl_drew ?_ | refine bl_call ?_ (by assumption) | (refine bl_setCell ?_ _ (Nat.le_refl _)) | (refine bl_setCell ?_ _ (by first | omega | (simp; done) | (simp; omega))))))⟩
set_option maxRecDepth 100000 in
set_option maxHeartbeats 8000000 in
theorem ratioMade_any (n d : Int) (w : World) (hn : In n) (hd : In d) :
    Calls Try.prog 3 #[.int .i64 n, .int .i64 d] w fun e w' => e = .returned (.bool true) ∧ Below w.heap.size w w' := by
  have M := fun w => rat_make n d w hn hd
  rcases mk_cases n d with ⟨h0, e1, e2, e3⟩ | ⟨h0, ok, -⟩ | ⟨h0, ok, e1, e2, e3⟩
  · subst h0
    rw [e1, e2, e3] at M
    have M := Lib.hid M
    clear e1 e2 e3
    go_enter Try.func3, Try.ntmps3
    go_wp2_with fail
    refine (live3 _).mono ?_
    rintro e w1 ⟨rfl, hb1⟩
    go_wp2_with fail
    refine (M.out _).mono ?_
    rintro e w2 ⟨rfl, hb2⟩
    go_wp2_with fail
    go_ret
    exact ⟨ret_b (by first | rfl | (simp; done)), (by repeat (with_reducible (first | exact Below.refl _ _ | assumption | refine bl_alloc ?_ _ | refine bl_drewN ?_ _ | refine bl_drew ?_ | refine bl_call ?_ (by assumption) | (refine bl_setCell ?_ _ (Nat.le_refl _)) | (refine bl_setCell ?_ _ (by first | omega | (simp; done) | (simp; omega))))))⟩
  · obtain ⟨i1, i2⟩ := In_mk hn hd
    obtain ⟨-, -, -, e3, k, p⟩ := mk_right ok
    obtain ⟨s1, s2, s3⟩ := mk_same i1 i2 k
    have K := fun w => rat_check (mkN n d) (mkD n d) w i1 i2
    rw [(ck_true k).2.2] at K
    have M2 := fun w => rat_make (mkN n d) (mkD n d) w i1 i2
    rw [s1, s2, s3] at M2
    rw [e3] at M
    have P1 := fun w => wmul_any (mkN n d) d w i1 hd
    have P2 := fun w => wmul_any (mkD n d) n w i2 hn
    rw [p] at P1
    have CC := fun w => wcmp_any (mkD n d * n) (mkD n d * n) w
    rw [show cmpI (mkD n d * n) (mkD n d * n) = 0 by unfold cmpI; rw [if_neg (by omega), if_neg (by omega)]] at CC
    have M := Lib.hid M
    have K := Lib.hid K
    have M2 := Lib.hid M2
    have P1 := Lib.hid P1
    have P2 := Lib.hid P2
    have CC := Lib.hid CC
    clear e3 k p s1 s2 s3 ok i1 i2
    generalize mkD n d * n = p at *
    generalize mkN n d = N at *
    generalize mkD n d = D at *
    go_enter Try.func3, Try.ntmps3
    go_wp2_with fail
    refine (live3 _).mono ?_
    rintro e w1 ⟨rfl, hb1⟩
    go_wp2_with fail
    refine (M.out _).mono ?_
    rintro e w2 ⟨rfl, hb2⟩
    go_wp2_with fail
    go_wp2_with fail
    refine region_qb (fun W => W.cell? ⟨w2.heap.size, 0, none⟩ = some (.int .i64 N) ∧ W.cell? ⟨w2.heap.size, 1, none⟩ = some (.int .i64 D) ∧ w2.heap.size < W.heap.size ∧ Below w.heap.size w W) ⟨by go_simp, by go_simp, by go_simp, (by repeat (with_reducible (first | exact Below.refl _ _ | assumption | refine bl_alloc ?_ _ | refine bl_drewN ?_ _ | refine bl_drew ?_ | refine bl_call ?_ (by assumption) | (refine bl_setCell ?_ _ (Nat.le_refl _)) | (refine bl_setCell ?_ _ (by first | omega | (simp; done) | (simp; omega))))))⟩ (by kernel_rfl) (by kernel_rfl) ?_
    intro W ⟨k0, k1, k2, hbW⟩
    have K0 := Lib.hid k0
    have K1 := Lib.hid k1
    replace k0 := rcell k0
    replace k1 := rcell k1
    repeat (first | go_big_quiet_step (first | with_reducible exact Calls.regrown_of (K.out _) | with_reducible exact Calls.regrown_of (P1.out _) | with_reducible exact Calls.regrown_of (P2.out _) | with_reducible exact Calls.regrown_of (CC.out _)) | quiet_step (first | with_reducible exact Calls.regrown_of (K.out _) | with_reducible exact Calls.regrown_of (P1.out _) | with_reducible exact Calls.regrown_of (P2.out _) | with_reducible exact Calls.regrown_of (CC.out _)))
    refine wpQuiet_nil ?_
    intro w3 hb3
    obtain ⟨hc3, hf3, hz3⟩ := own_stays hb3 k2
    have d0 : w3.cell? ⟨w2.heap.size, 0, none⟩ = some (.int .i64 N) := (hc3 0).trans K0.out
    have d1 : w3.cell? ⟨w2.heap.size, 1, none⟩ = some (.int .i64 D) := (hc3 1).trans K1.out
    have HB := Lib.hid (bl_call hbW hb3)
    clear k0 k1 hc3 hb3 hbW hb1 hb2
    go_wp2_with fail
    refine (M2.out _).mono ?_
    rintro e w4 ⟨rfl, hb4⟩
    obtain ⟨hc4, hf4, hz4⟩ := own_stays hb4 hz3
    have HB4 := Lib.hid (bl_call HB.out hb4)
    clear hb4
    go_wp2
    go_ret
    have := HB4.out
    exact ⟨ret_b (by first | rfl | (simp; done)), (by repeat (with_reducible (first | exact Below.refl _ _ | assumption | refine bl_alloc ?_ _ | refine bl_drewN ?_ _ | refine bl_drew ?_ | refine bl_call ?_ (by assumption) | (refine bl_setCell ?_ _ (Nat.le_refl _)) | (refine bl_setCell ?_ _ (by first | omega | (simp; done) | (simp; omega))))))⟩
  · rw [e1, e2, e3] at M
    have M := Lib.hid M
    have V := mk_over hn hd h0 ok
    have hz : (d == 0) = false := by simpa using h0
    clear e1 e2 e3 ok h0
    by_cases v1 : n = -9223372036854775808
    · subst v1
      go_enter Try.func3, Try.ntmps3
      go_wp2_with fail
      refine (live3 _).mono ?_
      rintro e w1 ⟨rfl, hb1⟩
      go_wp2_with fail
      refine (M.out _).mono ?_
      rintro e w2 ⟨rfl, hb2⟩
      go_wp2_with fail
      go_ret
      exact ⟨ret_b (by first | rfl | (simp; done)), (by repeat (with_reducible (first | exact Below.refl _ _ | assumption | refine bl_alloc ?_ _ | refine bl_drewN ?_ _ | refine bl_drew ?_ | refine bl_call ?_ (by assumption) | (refine bl_setCell ?_ _ (Nat.le_refl _)) | (refine bl_setCell ?_ _ (by first | omega | (simp; done) | (simp; omega))))))⟩
    · have v2 : d = -9223372036854775808 := by rcases V with h | h; exact absurd h v1; exact h
      have v3 : (n == -9223372036854775808) = false := by simpa using v1
      subst v2
      clear V v1
      go_enter Try.func3, Try.ntmps3
      go_wp2_with fail
      refine (live3 _).mono ?_
      rintro e w1 ⟨rfl, hb1⟩
      go_wp2_with fail
      refine (M.out _).mono ?_
      rintro e w2 ⟨rfl, hb2⟩
      go_wp2_with fail
      go_ret
      exact ⟨ret_b (by first | rfl | (simp; done)), (by repeat (with_reducible (first | exact Below.refl _ _ | assumption | refine bl_alloc ?_ _ | refine bl_drewN ?_ _ | refine bl_drew ?_ | refine bl_call ?_ (by assumption) | (refine bl_setCell ?_ _ (Nat.le_refl _)) | (refine bl_setCell ?_ _ (by first | omega | (simp; done) | (simp; omega))))))⟩
set_option maxRecDepth 100000 in
set_option maxHeartbeats 8000000 in
theorem ratioBeside_any (n d : Int) (w : World) (hn : In n) (hd : In d) :
    Calls Try.prog 5 #[ratA n d] w fun e w' => e = .returned (.bool true) ∧ Below w.heap.size w w' := by
  have F := fun w => rat_floor n d w hn hd
  have C := fun w => rat_ceil n d w hn hd
  have K := fun w => rat_check n d w hn hd
  cases k : ckB n d
  · rw [(ck_false k).2] at F C K
    rw [show flV n d = 0 by unfold flV; rw [k]; rfl] at F
    rw [show clV n d = 0 by unfold clV; rw [k]; rfl] at C
    have F := Lib.hid F
    have C := Lib.hid C
    have K := Lib.hid K
    clear k
    go_enter Try.func5, Try.ntmps5
    go_wp2_with fail
    refine (live3 _).mono ?_
    rintro e w1 ⟨rfl, hb1⟩
    obtain ⟨hc1_0, hf1_0, hz1_0⟩ := own_stays hb1 (b := w.heap.size) (by first | (simp; done) | (simp; omega) | omega)
    go_wp2_with fail
    refine (F.out _).mono ?_
    rintro e w2 ⟨rfl, hb2⟩
    obtain ⟨hc2_0, hf2_0, hz2_0⟩ := own_stays hb2 (b := w.heap.size) (by first | (simp; done) | (simp; omega) | omega)
    go_wp2_with fail
    refine (C.out _).mono ?_
    rintro e w3 ⟨rfl, hb3⟩
    obtain ⟨hc3_0, hf3_0, hz3_0⟩ := own_stays hb3 (b := w.heap.size) (by first | (simp; done) | (simp; omega) | omega)
    go_wp2_with fail
    refine (K.out _).mono ?_
    rintro e w4 ⟨rfl, hb4⟩
    obtain ⟨hc4_0, hf4_0, hz4_0⟩ := own_stays hb4 (b := w.heap.size) (by first | (simp; done) | (simp; omega) | omega)
    go_wp2_with fail
    go_ret
    exact ⟨ret_b (by first | rfl | (simp; done)), (by repeat (with_reducible (first | exact Below.refl _ _ | assumption | refine bl_alloc ?_ _ | refine bl_drewN ?_ _ | refine bl_drew ?_ | refine bl_call ?_ (by assumption) | (refine bl_setCell ?_ _ (Nat.le_refl _)) | (refine bl_setCell ?_ _ (by first | omega | (simp; done) | (simp; omega))))))⟩
  · obtain ⟨h1, _, e⟩ := ck_true k
    obtain ⟨m1, m2⟩ := rem_pos k
    rw [e] at F C K
    rw [show flV n d = n / d by unfold flV; rw [k]; rfl] at F
    obtain ⟨_, _, _, iq⟩ := dv_one hn hd h1
    have ed := Int.mul_ediv_add_emod n d
    have one : In 1 := ⟨by decide, by decide⟩
    by_cases h2 : 1 < d
    · have m := m1 h2
      obtain ⟨b0, b1⟩ := half_div hn h2
      have r1 := Int.emod_lt_of_pos n (show 0 < d by omega)
      rw [show clV n d = n / d + 1 by unfold clV; rw [k, if_pos rfl, if_pos h2]] at C
      have iq1 : In (n / d + 1) := by unfold In; omega
      have X := fun w => rat_cmp (n / d) 1 n d w iq one hn hd
      have Y := fun w => rat_cmp (n / d + 1) 1 n d w iq1 one hn hd
      have cx : cpV (n / d) 1 n d = -1 ∧ cpE (n / d) 1 n d = 0 := by
        unfold cpV cpE cpB; rw [ck_one, k]
        refine ⟨?_, rfl⟩
        show cmpI (n / d * d) (n * 1) = -1
        rw [Int.mul_one]; unfold cmpI; rw [if_pos (by rw [Int.mul_comm]; omega)]
      have cy : cpV (n / d + 1) 1 n d = 1 ∧ cpE (n / d + 1) 1 n d = 0 := by
        unfold cpV cpE cpB; rw [ck_one, k]
        refine ⟨?_, rfl⟩
        show cmpI ((n / d + 1) * d) (n * 1) = 1
        rw [Int.mul_one, Int.add_mul, Int.one_mul, Int.mul_comm]; unfold cmpI; rw [if_neg (by omega), if_pos (by omega)]
      rw [cx.1, cx.2] at X
      rw [cy.1, cy.2] at Y
      have F := Lib.hid F
      have C := Lib.hid C
      have K := Lib.hid K
      have X := Lib.hid X
      have Y := Lib.hid Y
      have d1 : (d == 1) = false := by simp; omega
      clear k e m1 m2 iq ed one m r1 iq1 cx cy
      generalize n / d = q at *
      have q1 : (q == q + 1) = false := by simp; omega
      have q2 : (q + 1 != q + 1) = false := by simp
      have q3 : (q == 9223372036854775807) = false := by simp; omega
      go_enter Try.func5, Try.ntmps5
      go_wp2_with fail
      refine (live3 _).mono ?_
      rintro e w1 ⟨rfl, hb1⟩
      obtain ⟨hc1_0, hf1_0, hz1_0⟩ := own_stays hb1 (b := w.heap.size) (by first | (simp; done) | (simp; omega) | omega)
      go_wp2_with fail
      refine (F.out _).mono ?_
      rintro e w2 ⟨rfl, hb2⟩
      obtain ⟨hc2_0, hf2_0, hz2_0⟩ := own_stays hb2 (b := w.heap.size) (by first | (simp; done) | (simp; omega) | omega)
      go_wp2_with fail
      refine (C.out _).mono ?_
      rintro e w3 ⟨rfl, hb3⟩
      obtain ⟨hc3_0, hf3_0, hz3_0⟩ := own_stays hb3 (b := w.heap.size) (by first | (simp; done) | (simp; omega) | omega)
      go_wp2_with fail
      refine (K.out _).mono ?_
      rintro e w4 ⟨rfl, hb4⟩
      obtain ⟨hc4_0, hf4_0, hz4_0⟩ := own_stays hb4 (b := w.heap.size) (by first | (simp; done) | (simp; omega) | omega)
      go_wp2_with fail
      refine (X.out _).mono ?_
      rintro e w5 ⟨rfl, hb5⟩
      obtain ⟨hc5_0, hf5_0, hz5_0⟩ := own_stays hb5 (b := w.heap.size) (by first | (simp; done) | (simp; omega) | omega)
      go_wp2_with fail
      refine (Y.out _).mono ?_
      rintro e w6 ⟨rfl, hb6⟩
      obtain ⟨hc6_0, hf6_0, hz6_0⟩ := own_stays hb6 (b := w.heap.size) (by first | (simp; done) | (simp; omega) | omega)
      go_wp2_with fail
      go_ret
      exact ⟨ret_b (by first | rfl | (simp; done) | (simp; omega)), (by repeat (with_reducible (first | exact Below.refl _ _ | assumption | refine bl_alloc ?_ _ | refine bl_drewN ?_ _ | refine bl_drew ?_ | refine bl_call ?_ (by assumption) | (refine bl_setCell ?_ _ (Nat.le_refl _)) | (refine bl_setCell ?_ _ (by first | omega | (simp; done) | (simp; omega))))))⟩
    · have hd1 : d = 1 := by omega
      subst hd1
      rw [show clV n 1 = n / 1 by unfold clV; rw [k, if_pos rfl, if_neg h2]] at C
      rw [Int.ediv_one] at *
      have X := fun w => rat_cmp n 1 n 1 w hn one hn hd
      have cx : cpV n 1 n 1 = 0 ∧ cpE n 1 n 1 = 0 := by
        unfold cpV cpE cpB; rw [k]
        refine ⟨?_, rfl⟩
        show cmpI (n * 1) (n * 1) = 0
        unfold cmpI; rw [if_neg (by omega), if_neg (by omega)]
      rw [cx.1, cx.2] at X
      have F := Lib.hid F
      have C := Lib.hid C
      have K := Lib.hid K
      have X := Lib.hid X
      clear k e m1 m2 iq ed one cx h2
      go_enter Try.func5, Try.ntmps5
      go_wp2_with fail
      refine (live3 _).mono ?_
      rintro e w1 ⟨rfl, hb1⟩
      obtain ⟨hc1_0, hf1_0, hz1_0⟩ := own_stays hb1 (b := w.heap.size) (by first | (simp; done) | (simp; omega) | omega)
      go_wp2_with fail
      refine (F.out _).mono ?_
      rintro e w2 ⟨rfl, hb2⟩
      obtain ⟨hc2_0, hf2_0, hz2_0⟩ := own_stays hb2 (b := w.heap.size) (by first | (simp; done) | (simp; omega) | omega)
      go_wp2_with fail
      refine (C.out _).mono ?_
      rintro e w3 ⟨rfl, hb3⟩
      obtain ⟨hc3_0, hf3_0, hz3_0⟩ := own_stays hb3 (b := w.heap.size) (by first | (simp; done) | (simp; omega) | omega)
      go_wp2_with fail
      refine (K.out _).mono ?_
      rintro e w4 ⟨rfl, hb4⟩
      obtain ⟨hc4_0, hf4_0, hz4_0⟩ := own_stays hb4 (b := w.heap.size) (by first | (simp; done) | (simp; omega) | omega)
      go_wp2_with fail
      refine (X.out _).mono ?_
      rintro e w5 ⟨rfl, hb5⟩
      obtain ⟨hc5_0, hf5_0, hz5_0⟩ := own_stays hb5 (b := w.heap.size) (by first | (simp; done) | (simp; omega) | omega)
      go_wp2_with fail
      refine (X.out _).mono ?_
      rintro e w6 ⟨rfl, hb6⟩
      obtain ⟨hc6_0, hf6_0, hz6_0⟩ := own_stays hb6 (b := w.heap.size) (by first | (simp; done) | (simp; omega) | omega)
      go_wp2_with fail
      go_ret
      exact ⟨ret_b (by first | rfl | (simp; done)), (by repeat (with_reducible (first | exact Below.refl _ _ | assumption | refine bl_alloc ?_ _ | refine bl_drewN ?_ _ | refine bl_drew ?_ | refine bl_call ?_ (by assumption) | (refine bl_setCell ?_ _ (Nat.le_refl _)) | (refine bl_setCell ?_ _ (by first | omega | (simp; done) | (simp; omega))))))⟩
set_option maxRecDepth 100000 in
set_option maxHeartbeats 8000000 in
theorem ratioTells_any (n d a b x y : Int) (w : World) (hn : In n) (hd : In d) (ha : In a) (hb : In b) (hx : In x) (hy : In y) :
    Calls Try.prog 4 #[.int .i64 n, .int .i64 d, ratA a b, ratA x y] w fun e w' => e = .returned (.bool true) ∧ Below w.heap.size w w' := by
  have M := Lib.hid (fun w => rat_make n d w hn hd)
  have RM := Lib.hid (fun w => r3make n d w hn hd)
  have C := Lib.hid (fun w => rat_cmp a b x y w ha hb hx hy)
  have RC := Lib.hid (fun w => r3cmp a b x y w ha hb hx hy)
  have F := Lib.hid (fun w => rat_floor a b w ha hb)
  have RF := Lib.hid (fun w => r3floor a b w ha hb)
  have U := Lib.hid (fun w => rat_ceil a b w ha hb)
  have RU := Lib.hid (fun w => r3ceil a b w ha hb)
  have K := Lib.hid (fun w => rat_check a b w ha hb)
  have RK := Lib.hid (fun w => r3check a b w ha hb)
  generalize mkN n d = v1 at *
  generalize mkD n d = v2 at *
  generalize mkE n d = v3 at *
  generalize cpV a b x y = v4 at *
  generalize cpE a b x y = v5 at *
  generalize flV a b = v6 at *
  generalize clV a b = v7 at *
  generalize ckR a b = v8 at *
  go_enter Try.func4, Try.ntmps4
  go_wp2_with fail
  refine (live3 _).mono ?_
  rintro e w1 ⟨rfl, hb1⟩
  obtain ⟨hc1_0, hf1_0, hz1_0⟩ := own_stays hb1 (b := w.heap.size) (by first | (simp; done) | (simp; omega) | omega)
  obtain ⟨hc1_1, hf1_1, hz1_1⟩ := own_stays hb1 (b := w.heap.size + 1) (by first | (simp; done) | (simp; omega) | omega)
  go_wp2_with fail
  refine (M.out _).mono ?_
  rintro e w2 ⟨rfl, hb2⟩
  obtain ⟨hc2_0, hf2_0, hz2_0⟩ := own_stays hb2 (b := w.heap.size) (by first | (simp; done) | (simp; omega) | omega)
  obtain ⟨hc2_1, hf2_1, hz2_1⟩ := own_stays hb2 (b := w.heap.size + 1) (by first | (simp; done) | (simp; omega) | omega)
  go_wp2_with fail
  refine (RM.out _).mono ?_
  rintro e w3 ⟨rfl, hb3⟩
  obtain ⟨hc3_0, hf3_0, hz3_0⟩ := own_stays hb3 (b := w.heap.size) (by first | (simp; done) | (simp; omega) | omega)
  obtain ⟨hc3_1, hf3_1, hz3_1⟩ := own_stays hb3 (b := w.heap.size + 1) (by first | (simp; done) | (simp; omega) | omega)
  obtain ⟨hc3_2, hf3_2, hz3_2⟩ := own_stays hb3 (b := w2.heap.size) (by first | (simp; done) | (simp; omega) | omega)
  go_wp2_with fail
  refine (C.out _).mono ?_
  rintro e w4 ⟨rfl, hb4⟩
  obtain ⟨hc4_0, hf4_0, hz4_0⟩ := own_stays hb4 (b := w.heap.size) (by first | (simp; done) | (simp; omega) | omega)
  obtain ⟨hc4_1, hf4_1, hz4_1⟩ := own_stays hb4 (b := w.heap.size + 1) (by first | (simp; done) | (simp; omega) | omega)
  obtain ⟨hc4_2, hf4_2, hz4_2⟩ := own_stays hb4 (b := w2.heap.size) (by first | (simp; done) | (simp; omega) | omega)
  obtain ⟨hc4_3, hf4_3, hz4_3⟩ := own_stays hb4 (b := w3.heap.size) (by first | (simp; done) | (simp; omega) | omega)
  go_wp2_with fail
  refine (RC.out _).mono ?_
  rintro e w5 ⟨rfl, hb5⟩
  obtain ⟨hc5_0, hf5_0, hz5_0⟩ := own_stays hb5 (b := w.heap.size) (by first | (simp; done) | (simp; omega) | omega)
  obtain ⟨hc5_1, hf5_1, hz5_1⟩ := own_stays hb5 (b := w.heap.size + 1) (by first | (simp; done) | (simp; omega) | omega)
  obtain ⟨hc5_2, hf5_2, hz5_2⟩ := own_stays hb5 (b := w2.heap.size) (by first | (simp; done) | (simp; omega) | omega)
  obtain ⟨hc5_3, hf5_3, hz5_3⟩ := own_stays hb5 (b := w3.heap.size) (by first | (simp; done) | (simp; omega) | omega)
  go_wp2_with fail
  refine (F.out _).mono ?_
  rintro e w6 ⟨rfl, hb6⟩
  obtain ⟨hc6_0, hf6_0, hz6_0⟩ := own_stays hb6 (b := w.heap.size) (by first | (simp; done) | (simp; omega) | omega)
  obtain ⟨hc6_1, hf6_1, hz6_1⟩ := own_stays hb6 (b := w.heap.size + 1) (by first | (simp; done) | (simp; omega) | omega)
  obtain ⟨hc6_2, hf6_2, hz6_2⟩ := own_stays hb6 (b := w2.heap.size) (by first | (simp; done) | (simp; omega) | omega)
  obtain ⟨hc6_3, hf6_3, hz6_3⟩ := own_stays hb6 (b := w3.heap.size) (by first | (simp; done) | (simp; omega) | omega)
  go_wp2_with fail
  refine (RF.out _).mono ?_
  rintro e w7 ⟨rfl, hb7⟩
  obtain ⟨hc7_0, hf7_0, hz7_0⟩ := own_stays hb7 (b := w.heap.size) (by first | (simp; done) | (simp; omega) | omega)
  obtain ⟨hc7_1, hf7_1, hz7_1⟩ := own_stays hb7 (b := w.heap.size + 1) (by first | (simp; done) | (simp; omega) | omega)
  obtain ⟨hc7_2, hf7_2, hz7_2⟩ := own_stays hb7 (b := w2.heap.size) (by first | (simp; done) | (simp; omega) | omega)
  obtain ⟨hc7_3, hf7_3, hz7_3⟩ := own_stays hb7 (b := w3.heap.size) (by first | (simp; done) | (simp; omega) | omega)
  go_wp2_with fail
  refine (U.out _).mono ?_
  rintro e w8 ⟨rfl, hb8⟩
  obtain ⟨hc8_0, hf8_0, hz8_0⟩ := own_stays hb8 (b := w.heap.size) (by first | (simp; done) | (simp; omega) | omega)
  obtain ⟨hc8_1, hf8_1, hz8_1⟩ := own_stays hb8 (b := w.heap.size + 1) (by first | (simp; done) | (simp; omega) | omega)
  obtain ⟨hc8_2, hf8_2, hz8_2⟩ := own_stays hb8 (b := w2.heap.size) (by first | (simp; done) | (simp; omega) | omega)
  obtain ⟨hc8_3, hf8_3, hz8_3⟩ := own_stays hb8 (b := w3.heap.size) (by first | (simp; done) | (simp; omega) | omega)
  go_wp2_with fail
  refine (RU.out _).mono ?_
  rintro e w9 ⟨rfl, hb9⟩
  obtain ⟨hc9_0, hf9_0, hz9_0⟩ := own_stays hb9 (b := w.heap.size) (by first | (simp; done) | (simp; omega) | omega)
  obtain ⟨hc9_1, hf9_1, hz9_1⟩ := own_stays hb9 (b := w.heap.size + 1) (by first | (simp; done) | (simp; omega) | omega)
  obtain ⟨hc9_2, hf9_2, hz9_2⟩ := own_stays hb9 (b := w2.heap.size) (by first | (simp; done) | (simp; omega) | omega)
  obtain ⟨hc9_3, hf9_3, hz9_3⟩ := own_stays hb9 (b := w3.heap.size) (by first | (simp; done) | (simp; omega) | omega)
  go_wp2_with fail
  go_wp2_with fail
  refine region_qb (fun W => W.cell? ⟨w.heap.size, 0, none⟩ = some (.int .i64 a) ∧ W.cell? ⟨w.heap.size, 1, none⟩ = some (.int .i64 b) ∧ W.cell? ⟨w2.heap.size, 0, none⟩ = some (.int .i64 v1) ∧ W.cell? ⟨w2.heap.size, 1, none⟩ = some (.int .i64 v2) ∧ W.cell? ⟨w3.heap.size, 0, none⟩ = some (.int .i64 v1) ∧ W.cell? ⟨w3.heap.size, 1, none⟩ = some (.int .i64 v2) ∧ Below w.heap.size w W)
    ⟨by go_simp, by go_simp, by go_simp, by go_simp, by go_simp, by go_simp, (by repeat (with_reducible (first | exact Below.refl _ _ | assumption | refine bl_alloc ?_ _ | refine bl_drewN ?_ _ | refine bl_drew ?_ | refine bl_call ?_ (by assumption) | (refine bl_setCell ?_ _ (Nat.le_refl _)) | (refine bl_setCell ?_ _ (by first | omega | (simp; done) | (simp; omega))))))⟩ (by kernel_rfl) (by kernel_rfl) ?_
  intro W ⟨k0, k1, k2, k3, k4, k5, hbW⟩
  replace k0 := rcell k0
  replace k1 := rcell k1
  replace k2 := rcell k2
  replace k3 := rcell k3
  replace k4 := rcell k4
  replace k5 := rcell k5
  repeat (first | go_big_quiet_step (first | with_reducible exact Calls.regrown_of (K.out _) | with_reducible exact Calls.regrown_of (RK.out _)) | quiet_step (first | with_reducible exact Calls.regrown_of (K.out _) | with_reducible exact Calls.regrown_of (RK.out _)))
  refine wpQuiet_nil ?_
  intro w11 hb11
  go_wp2
  go_ret
  exact ⟨ret_b (by first | rfl | (simp; done)), bl_call hbW hb11⟩
end Go.Proofs.Ytkejohmghacdhaa
