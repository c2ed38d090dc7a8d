/- Contracts of the package ratio: counted, cross, Mul, Div. -/
import Derived.Test.YtkejohmghacdhaaDoorRatC
import Derived.Test.YtkejohmghacdhaaDoorMathT
namespace Go.Proofs.YtkejohmghacdhaaDoor
set_option linter.unusedVariables false
set_option linter.unusedSimpArgs false
open Go.RowKit
set_option maxRecDepth 100000 in
set_option maxHeartbeats 4000000 in
theorem counted_no (n d m c : Int) (fv : Value) (w : World) (hn : In n) (hd : In d) (hm : In m) (hc : In c) (hv : cpB n d m c = false) :
    Calls Tryd.prog 24 #[ratA n d, ratA m c, fv] w fun e w' => e = .returned (.tuple #[ratA 0 0, .int .i64 1]) ∧ Below w.heap.size w w' := by
  cases k1 : ckB n d
  · have E1 := Lib.hid (ck_false k1).2
    clear k1 hv
    go_enter Tryd.func24, Tryd.ntmps24
    go_wp2_with fail
    refine (rat_check n d _ hn hd).mono ?_
    rintro e w1 ⟨rfl, hb1⟩
    rw [E1.out]
    obtain ⟨hc1_0, hf1_0, hz1_0⟩ := own_stays hb1 (b := w.heap.size) (by go_simp)
    obtain ⟨hc1_1, hf1_1, hz1_1⟩ := own_stays hb1 (b := w.heap.size + 1) (by go_simp)
    obtain ⟨hc1_2, hf1_2, hz1_2⟩ := own_stays hb1 (b := w.heap.size + 2) (by go_simp)
    go_wp2
    refine bodyPost_ret (v := .tuple #[ratA 0 0, .int .i64 1]) (by simp [results, Tryd.results24, go_sem, *]) rfl ⟨rfl, ?_⟩
    exact (by repeat (with_reducible (first | exact Below.refl _ _ | assumption | refine bl_alloc ?_ _ | refine bl_drewN ?_ _ | refine bl_drew ?_ | refine bl_call ?_ (by assumption) | (refine bl_setCell ?_ _ (Nat.le_refl _)) | (refine bl_setCell ?_ _ (by first | omega | (simp; done) | (simp; omega))))))
  · cases k2 : ckB m c
    · have E1 := Lib.hid (ck_true k1).2.2
      have E2 := Lib.hid (ck_false k2).2
      clear k1 k2 hv
      go_enter Tryd.func24, Tryd.ntmps24
      go_wp2_with fail
      refine (rat_check n d _ hn hd).mono ?_
      rintro e w1 ⟨rfl, hb1⟩
      rw [E1.out]
      obtain ⟨hc1_0, hf1_0, hz1_0⟩ := own_stays hb1 (b := w.heap.size) (by go_simp)
      obtain ⟨hc1_1, hf1_1, hz1_1⟩ := own_stays hb1 (b := w.heap.size + 1) (by go_simp)
      obtain ⟨hc1_2, hf1_2, hz1_2⟩ := own_stays hb1 (b := w.heap.size + 2) (by go_simp)
      go_wp2_with fail
      refine (rat_check m c _ hm hc).mono ?_
      rintro e w2 ⟨rfl, hb2⟩
      rw [E2.out]
      obtain ⟨hc2_0, hf2_0, hz2_0⟩ := own_stays hb2 (b := w.heap.size) hz1_0
      obtain ⟨hc2_1, hf2_1, hz2_1⟩ := own_stays hb2 (b := w.heap.size + 1) hz1_1
      obtain ⟨hc2_2, hf2_2, hz2_2⟩ := own_stays hb2 (b := w.heap.size + 2) hz1_2
      go_wp2
      refine bodyPost_ret (v := .tuple #[ratA 0 0, .int .i64 1]) (by simp [results, Tryd.results24, go_sem, *]) rfl ⟨rfl, ?_⟩
      exact (by repeat (with_reducible (first | exact Below.refl _ _ | assumption | refine bl_alloc ?_ _ | refine bl_drewN ?_ _ | refine bl_drew ?_ | refine bl_call ?_ (by assumption) | (refine bl_setCell ?_ _ (Nat.le_refl _)) | (refine bl_setCell ?_ _ (by first | omega | (simp; done) | (simp; omega))))))
    · unfold cpB at hv; rw [k1, k2] at hv; cases hv
set_option maxRecDepth 100000 in
set_option maxHeartbeats 4000000 in
theorem counted_yes (n d m c : Int) (g : FuncId) (cb : Array Value) (X Y E : Int) (w : World) (eg : ∀ (args : Array Value) (w : World), (callFunc g args).run Tryd.prog w = .ok (.enter g args) w) (hn : In n) (hd : In d) (hm : In m) (hc : In c) (hv : cpB n d m c = true)
    (H : ∀ W, Below w.heap.size w W → Calls Tryd.prog g cb W fun e w' => e = .returned (.tuple #[ratA X Y, .int .i64 E]) ∧ Below W.heap.size W w') :
    Calls Tryd.prog 24 #[ratA n d, ratA m c, .func (.func g) #[] cb] w fun e w' => e = .returned (.tuple #[ratA X Y, .int .i64 E]) ∧ Below w.heap.size w w' := by
  unfold cpB at hv
  rw [Bool.and_eq_true] at hv
  have E1 := Lib.hid (ck_true hv.1).2.2
  have E2 := Lib.hid (ck_true hv.2).2.2
  have H := Lib.hid H
  clear hv
  go_enter Tryd.func24, Tryd.ntmps24
  go_wp2_with fail
  refine (rat_check n d _ hn hd).mono ?_
  rintro e w1 ⟨rfl, hb1⟩
  rw [E1.out]
  obtain ⟨hc1_0, hf1_0, hz1_0⟩ := own_stays hb1 (b := w.heap.size) (by go_simp)
  obtain ⟨hc1_1, hf1_1, hz1_1⟩ := own_stays hb1 (b := w.heap.size + 1) (by go_simp)
  obtain ⟨hc1_2, hf1_2, hz1_2⟩ := own_stays hb1 (b := w.heap.size + 2) (by go_simp)
  go_wp2_with fail
  refine (rat_check m c _ hm hc).mono ?_
  rintro e w2 ⟨rfl, hb2⟩
  rw [E2.out]
  obtain ⟨hc2_0, hf2_0, hz2_0⟩ := own_stays hb2 (b := w.heap.size) hz1_0
  obtain ⟨hc2_1, hf2_1, hz2_1⟩ := own_stays hb2 (b := w.heap.size + 1) hz1_1
  obtain ⟨hc2_2, hf2_2, hz2_2⟩ := own_stays hb2 (b := w.heap.size + 2) hz1_2
  go_wp2_with fail
  refine (H.out _ ?_).mono ?_
  · exact (by repeat (with_reducible (first | exact Below.refl _ _ | assumption | refine bl_alloc ?_ _ | refine bl_drewN ?_ _ | refine bl_drew ?_ | refine bl_call ?_ (by assumption) | (refine bl_setCell ?_ _ (Nat.le_refl _)) | (refine bl_setCell ?_ _ (by first | omega | (simp; done) | (simp; omega))))))
  rintro e w3 ⟨rfl, hb3⟩
  obtain ⟨hc3_2, hf3_2, hz3_2⟩ := own_stays hb3 (b := w.heap.size + 2) (by first | assumption | (simp; done) | (simp; omega))
  go_wp2
  refine bodyPost_ret (v := .tuple #[ratA X Y, .int .i64 E]) (by simp [results, Tryd.results24, go_sem, *]) rfl ⟨rfl, ?_⟩
  exact (by repeat (with_reducible (first | exact Below.refl _ _ | assumption | refine bl_alloc ?_ _ | refine bl_drewN ?_ _ | refine bl_drew ?_ | refine bl_call ?_ (by assumption) | (refine bl_setCell ?_ _ (Nat.le_refl _)) | (refine bl_setCell ?_ _ (by first | omega | (simp; done) | (simp; omega))))))
theorem mul64_n (x y N : Nat) (w : World) (h : x * y = N) (hx : x < 18446744073709551616) (hy : y < 18446744073709551616) :
    Calls Tryd.prog 57 #[.int .u64 (x : Int), .int .u64 (y : Int)] w fun e w' => e = .returned (.tuple #[.int .u64 ((N / 18446744073709551616 : Nat) : Int), .int .u64 ((N % 18446744073709551616 : Nat) : Int)]) ∧ w = w' := by
  rw [← h]
  exact (Tryd.bits_Mul64 x y hx hy w).mono fun _ _ ⟨h1, h2⟩ => ⟨h1, h2.symm⟩
theorem or_pos_l (x y : Nat) (hx : x < 18446744073709551616) (hy : y < 18446744073709551616) (h : 0 < x ∨ 0 < y) : 0 < bits .or .u64 (x : Int) (y : Int) := by
  rw [bits_or_u64_nat x y hx hy]
  have h1 : x ≤ x ||| y := Nat.left_le_or
  have h2 : y ≤ x ||| y := Nat.right_le_or
  omega
theorem cross_made {X d Y c g h : Nat} (b : Bool) (hX : Nat.gcd X d = 1) (hY : Nat.gcd Y c = 1) (eg : Nat.gcd X c = g) (eh : Nat.gcd Y d = h) (c0 : 0 < c) (d0 : 0 < d) {N D : Nat} (hN : (X / g) * (Y / h) = N) (hD : (d / h) * (c / g) = D) {p q : Int} (hp : p = sgn b ((X * Y : Nat) : Int)) (hq : q = ((d * c : Nat) : Int))
    (bN : N / 18446744073709551616 < 18446744073709551616) (bD : D / 18446744073709551616 < 18446744073709551616) (b' : Bool) (hb : b' = (b && decide (0 < N % 18446744073709551616))) (w : World) :
    Calls Tryd.prog 53 #[.bool b', .int .u64 ((N % 18446744073709551616 : Nat) : Int), .int .u64 ((D % 18446744073709551616 : Nat) : Int), .int .u64 (bits .or .u64 ((N / 18446744073709551616 : Nat) : Int) ((D / 18446744073709551616 : Nat) : Int))] w
      fun e w' => e = .returned (.tuple #[ratA (arN p q) (arD p q), .int .i64 (arE p q)]) ∧ Below w.heap.size w w' := by
  have A := cross_ar b hX hY eg eh c0 d0 hN hD hp hq
  by_cases big : 0 < N / 18446744073709551616 ∨ 0 < D / 18446744073709551616
  · obtain ⟨e1, e2, e3⟩ := A.2 (by
      unfold In sgn
      intro ⟨h1, h2⟩
      rcases big with k | k
      · split at h1 <;> omega
      · omega)
    rw [e1, e2, e3]
    have o := or_pos_l _ _ bN bD big
    exact made_over b' _ _ _ w (by omega) (by omega) (by omega) (.inl o)
  · have zN : N / 18446744073709551616 = 0 := by omega
    have zD : D / 18446744073709551616 = 0 := by omega
    have mN : N % 18446744073709551616 = N := by omega
    have mD : D % 18446744073709551616 = D := by omega
    rw [mN] at hb
    rw [zN, zD, mN, mD, show bits .or .u64 ((0 : Nat) : Int) ((0 : Nat) : Int) = 0 by decide]
    have sb : sgn b' (N : Int) = sgn b (N : Int) := by
      rw [hb]
      cases b
      · rfl
      · by_cases n0 : 0 < N
        · simp [n0]
        · have : N = 0 := by omega
          subst this; simp [sgn]
    by_cases ok : In (sgn b (N : Int)) ∧ In (D : Int)
    · obtain ⟨e1, e2, e3⟩ := A.1 ok
      rw [e1, e2, e3, ← sb]
      refine made_ok b' N D w (by omega) (by omega) ?_ ?_
      · have := ok.2; unfold In at this; omega
      · have k := ok.1
        rw [← sb] at k
        unfold In sgn at k
        cases hb' : b'
        · rw [hb'] at k; simp at k; exact .inl (by omega)
        · rw [hb'] at k; simp at k; exact .inr ⟨by omega, rfl⟩
    · obtain ⟨e1, e2, e3⟩ := A.2 ok
      rw [e1, e2, e3]
      refine made_over b' N D 0 w (by omega) (by omega) (by omega) ?_
      by_cases i2 : In (D : Int)
      · have i1 : ¬ In (sgn b (N : Int)) := fun h => ok ⟨h, i2⟩
        rw [← sb] at i1
        unfold In sgn at i1
        cases hb' : b'
        · rw [hb'] at i1; simp at i1; exact .inr (.inr (.inr ⟨by omega, rfl⟩))
        · rw [hb'] at i1; simp at i1; exact .inr (.inr (.inl (by omega)))
      · unfold In at i2; exact .inr (.inl (by omega))
set_option maxRecDepth 100000 in
set_option maxHeartbeats 4000000 in
theorem cross_any (X d Y c : Nat) (b : Bool) (w : World) (hX : Nat.gcd X d = 1) (hY : Nat.gcd Y c = 1) (c0 : 0 < c) (d0 : 0 < d) (bX : X < 18446744073709551616) (bd : d < 18446744073709551616) (bY : Y < 18446744073709551616) (bc : c < 18446744073709551616) (p q : Int) (hp : p = sgn b ((X * Y : Nat) : Int)) (hq : q = ((d * c : Nat) : Int)) :
    Calls Tryd.prog 28 #[.bool b, .int .u64 (X : Int), .int .u64 (d : Int), .int .u64 (Y : Int), .int .u64 (c : Int)] w fun e w' => e = .returned (.tuple #[ratA (arN p q) (arD p q), .int .i64 (arE p q)]) ∧ Below w.heap.size w w' := by
  have C1 := Lib.hid (fun w => rat_common X c w bX bc)
  have C2 := Lib.hid (fun w => rat_common Y d w bY bd)
  obtain ⟨g, eg⟩ : ∃ g, Nat.gcd X c = g := ⟨_, rfl⟩
  obtain ⟨h, eh⟩ : ∃ h, Nat.gcd Y d = h := ⟨_, rfl⟩
  have g0 : 0 < g := by rw [← eg]; exact Nat.gcd_pos_of_pos_right _ c0
  have h0 : 0 < h := by rw [← eh]; exact Nat.gcd_pos_of_pos_right _ d0
  obtain ⟨x, hx⟩ : ∃ x, X / g = x := ⟨_, rfl⟩
  obtain ⟨y, hy⟩ : ∃ y, Y / h = y := ⟨_, rfl⟩
  obtain ⟨u, hu⟩ : ∃ u, d / h = u := ⟨_, rfl⟩
  obtain ⟨v, hv⟩ : ∃ v, c / g = v := ⟨_, rfl⟩
  have lx : x ≤ X := by rw [← hx]; exact Nat.div_le_self _ _
  have ly : y ≤ Y := by rw [← hy]; exact Nat.div_le_self _ _
  have lu : u ≤ d := by rw [← hu]; exact Nat.div_le_self _ _
  have lv : v ≤ c := by rw [← hv]; exact Nat.div_le_self _ _
  have big : ∀ {a b : Nat}, a < 18446744073709551616 → b < 18446744073709551616 → a * b / 18446744073709551616 < 18446744073709551616 := fun {a b} h1 h2 => by
    have : a * b ≤ 18446744073709551615 * 18446744073709551615 := Nat.mul_le_mul (by omega) (by omega)
    omega
  obtain ⟨N, hN⟩ : ∃ N, x * y = N := ⟨_, rfl⟩
  obtain ⟨D, hD⟩ : ∃ D, u * v = D := ⟨_, rfl⟩
  have bN := big (show x < 18446744073709551616 by omega) (show y < 18446744073709551616 by omega)
  have bD := big (show u < 18446744073709551616 by omega) (show v < 18446744073709551616 by omega)
  rw [hN] at bN
  rw [hD] at bD
  have MD := fun b' hb w => cross_made b hX hY eg eh c0 d0 (by rw [hx, hy]; exact hN) (by rw [hu, hv]; exact hD) hp hq bN bD b' hb w
  have M1 := fun w => mul64_n x y N w hN (by omega) (by omega)
  have M2 := fun w => mul64_n u v D w hD (by omega) (by omega)
  have q1 : (X : Int) / (g : Int) = (x : Int) := by rw [← hx, Int.natCast_ediv]
  have q2 : (Y : Int) / (h : Int) = (y : Int) := by rw [← hy, Int.natCast_ediv]
  have q3 : (d : Int) / (h : Int) = (u : Int) := by rw [← hu, Int.natCast_ediv]
  have q4 : (c : Int) / (g : Int) = (v : Int) := by rw [← hv, Int.natCast_ediv]
  have t1 : (X : Int).tdiv (g : Int) = (x : Int) := by rw [Int.tdiv_eq_ediv_of_nonneg (by omega)]; exact q1
  have t2 : (Y : Int).tdiv (h : Int) = (y : Int) := by rw [Int.tdiv_eq_ediv_of_nonneg (by omega)]; exact q2
  have t3 : (d : Int).tdiv (h : Int) = (u : Int) := by rw [Int.tdiv_eq_ediv_of_nonneg (by omega)]; exact q3
  have t4 : (c : Int).tdiv (g : Int) = (v : Int) := by rw [Int.tdiv_eq_ediv_of_nonneg (by omega)]; exact q4
  have w1 : IntKind.u64.wrap (x : Int) = (x : Int) := by rw [IntKind.wrap_u64]; omega
  have w2 : IntKind.u64.wrap (y : Int) = (y : Int) := by rw [IntKind.wrap_u64]; omega
  have w3 : IntKind.u64.wrap (u : Int) = (u : Int) := by rw [IntKind.wrap_u64]; omega
  have w4 : IntKind.u64.wrap (v : Int) = (v : Int) := by rw [IntKind.wrap_u64]; omega
  have g1 : ((g : Int) == 0) = false := by simp; omega
  have g2 : ((h : Int) == 0) = false := by simp; omega
  have g3 : (0 : Int) < (g : Int) := by omega
  have g4 : (0 : Int) < (h : Int) := by omega
  have g5 : ¬ g = 0 := by omega
  have g6 : ¬ h = 0 := by omega
  rw [eg] at C1 
  rw [eh] at C2
  have M1 := Lib.hid M1
  have M2 := Lib.hid M2
  have MD := Lib.hid MD
  clear eg eh hx hy hu hv hN hD bN bD big hX hY hp hq lx ly lu lv q1 q2 q3 q4
  obtain ⟨nl, hnl⟩ : ∃ k, N % 18446744073709551616 = k := ⟨_, rfl⟩
  rw [hnl] at M1 MD
  clear hnl
  generalize N / 18446744073709551616 = nh at *
  generalize D % 18446744073709551616 = dl at *
  generalize D / 18446744073709551616 = dh at *
  cases b
  · have MD0 := Lib.hid (fun w => MD.out false rfl w)
    clear MD
    go_enter Tryd.func28, Tryd.ntmps28
    go_wp2_with fail
    refine (C1.out _).mono ?_
    rintro e w1 ⟨rfl, hb1⟩
    obtain ⟨hc1_0, hf1_0, hz1_0⟩ := own_stays hb1 (b := w.heap.size) (by first | (simp; done) | (simp; omega) | omega)
    go_wp2_with fail
    refine (C2.out _).mono ?_
    rintro e w2 ⟨rfl, hb2⟩
    obtain ⟨hc2_0, hf2_0, hz2_0⟩ := own_stays hb2 (b := w.heap.size) (by first | (simp; done) | (simp; omega) | omega)
    go_wp2_with fail
    go_wp2_with fail
    refine region_qb (fun W => Below w.heap.size w W ∧ w.heap.size < W.heap.size ∧ W.cell? ⟨w.heap.size, 0, none⟩ = some (.int .i64 0) ∧ W.cell? ⟨w.heap.size, 1, none⟩ = some (.int .i64 0) ∧ (∀ o, W.frozen? ⟨w.heap.size, o, none⟩ = false)) ⟨(by repeat (with_reducible (first | exact Below.refl _ _ | assumption | refine bl_alloc ?_ _ | refine bl_drewN ?_ _ | refine bl_drew ?_ | refine bl_call ?_ (by assumption) | (refine bl_setCell ?_ _ (Nat.le_refl _)) | (refine bl_setCell ?_ _ (by first | omega | (simp; done) | (simp; omega)))))), by go_simp, by go_simp, by go_simp, by go_simp⟩ (by kernel_rfl) (by kernel_rfl) ?_
    intro W ⟨hbW, hzW, k0, k1, f0⟩
    repeat (first | go_big_quiet_step (first | with_reducible exact Calls.regrown_same (M1.out _)) | quiet_step (first | with_reducible exact Calls.regrown_same (M1.out _)))
    refine wpQuiet_nil ?_
    intro w3 hb3
    obtain ⟨hc3_0, hf3_0, hz3_0⟩ := own_stays hb3 hzW
    have hbX := bl_call hbW hb3
    clear hb1 hb2 hbW hb3
    go_wp2_with fail
    refine region_qb (fun W => Below w.heap.size w W ∧ w.heap.size < W.heap.size ∧ W.cell? ⟨w.heap.size, 0, none⟩ = some (.int .i64 0) ∧ W.cell? ⟨w.heap.size, 1, none⟩ = some (.int .i64 0) ∧ (∀ o, W.frozen? ⟨w.heap.size, o, none⟩ = false)) ⟨(by repeat (with_reducible (first | exact Below.refl _ _ | assumption | refine bl_alloc ?_ _ | refine bl_drewN ?_ _ | refine bl_drew ?_ | refine bl_call ?_ (by assumption) | (refine bl_setCell ?_ _ (Nat.le_refl _)) | (refine bl_setCell ?_ _ (by first | omega | (simp; done) | (simp; omega)))))), by go_simp, by go_simp, by go_simp, by go_simp⟩ (by kernel_rfl) (by kernel_rfl) ?_
    intro V ⟨hbV, hzV, j0, j1, f1⟩
    clear hbX hc3_0 hf3_0 hz3_0 k0 k1 f0
    repeat (first | go_big_quiet_step (first | with_reducible exact Calls.regrown_same (M2.out _)) | quiet_step (first | with_reducible exact Calls.regrown_same (M2.out _)))
    refine wpQuiet_nil ?_
    intro w4 hb4
    obtain ⟨hc4_0, hf4_0, hz4_0⟩ := own_stays hb4 hzV
    have hbY := bl_call hbV hb4
    clear hbV hb4
    go_wp2_with fail
    refine (MD0.out _).mono ?_
    rintro e w5 ⟨rfl, hb5⟩
    obtain ⟨hc5_0, hf5_0, hz5_0⟩ := own_stays hb5 hz4_0
    go_wp2
    refine bodyPost_ret (v := .tuple #[ratA (arN p q) (arD p q), .int .i64 (arE p q)]) (by simp [results, Tryd.results28, go_sem, *]) rfl ⟨rfl, ?_⟩
    exact (by repeat (with_reducible (first | exact Below.refl _ _ | assumption | refine bl_alloc ?_ _ | refine bl_drewN ?_ _ | refine bl_drew ?_ | refine bl_call ?_ (by assumption) | (refine bl_setCell ?_ _ (Nat.le_refl _)) | (refine bl_setCell ?_ _ (by first | omega | (simp; done) | (simp; omega))))))
  · by_cases nl0 : 0 < nl
    · have MD0 := Lib.hid (fun w => MD.out true (by rw [decide_eq_true nl0]; rfl) w)
      have nl1 : (0 : Int) < (nl : Int) := by omega
      clear MD
      go_enter Tryd.func28, Tryd.ntmps28
      go_wp2_with fail
      refine (C1.out _).mono ?_
      rintro e w1 ⟨rfl, hb1⟩
      obtain ⟨hc1_0, hf1_0, hz1_0⟩ := own_stays hb1 (b := w.heap.size) (by first | (simp; done) | (simp; omega) | omega)
      go_wp2_with fail
      refine (C2.out _).mono ?_
      rintro e w2 ⟨rfl, hb2⟩
      obtain ⟨hc2_0, hf2_0, hz2_0⟩ := own_stays hb2 (b := w.heap.size) (by first | (simp; done) | (simp; omega) | omega)
      go_wp2_with fail
      go_wp2_with fail
      refine region_qb (fun W => Below w.heap.size w W ∧ w.heap.size < W.heap.size ∧ W.cell? ⟨w.heap.size, 0, none⟩ = some (.int .i64 0) ∧ W.cell? ⟨w.heap.size, 1, none⟩ = some (.int .i64 0) ∧ (∀ o, W.frozen? ⟨w.heap.size, o, none⟩ = false)) ⟨(by repeat (with_reducible (first | exact Below.refl _ _ | assumption | refine bl_alloc ?_ _ | refine bl_drewN ?_ _ | refine bl_drew ?_ | refine bl_call ?_ (by assumption) | (refine bl_setCell ?_ _ (Nat.le_refl _)) | (refine bl_setCell ?_ _ (by first | omega | (simp; done) | (simp; omega)))))), by go_simp, by go_simp, by go_simp, by go_simp⟩ (by kernel_rfl) (by kernel_rfl) ?_
      intro W ⟨hbW, hzW, k0, k1, f0⟩
      repeat (first | go_big_quiet_step (first | with_reducible exact Calls.regrown_same (M1.out _)) | quiet_step (first | with_reducible exact Calls.regrown_same (M1.out _)))
      refine wpQuiet_nil ?_
      intro w3 hb3
      obtain ⟨hc3_0, hf3_0, hz3_0⟩ := own_stays hb3 hzW
      have hbX := bl_call hbW hb3
      clear hb1 hb2 hbW hb3
      go_wp2_with fail
      refine region_qb (fun W => Below w.heap.size w W ∧ w.heap.size < W.heap.size ∧ W.cell? ⟨w.heap.size, 0, none⟩ = some (.int .i64 0) ∧ W.cell? ⟨w.heap.size, 1, none⟩ = some (.int .i64 0) ∧ (∀ o, W.frozen? ⟨w.heap.size, o, none⟩ = false)) ⟨(by repeat (with_reducible (first | exact Below.refl _ _ | assumption | refine bl_alloc ?_ _ | refine bl_drewN ?_ _ | refine bl_drew ?_ | refine bl_call ?_ (by assumption) | (refine bl_setCell ?_ _ (Nat.le_refl _)) | (refine bl_setCell ?_ _ (by first | omega | (simp; done) | (simp; omega)))))), by go_simp, by go_simp, by go_simp, by go_simp⟩ (by kernel_rfl) (by kernel_rfl) ?_
      intro V ⟨hbV, hzV, j0, j1, f1⟩
      clear hbX hc3_0 hf3_0 hz3_0 k0 k1 f0
      repeat (first | go_big_quiet_step (first | with_reducible exact Calls.regrown_same (M2.out _)) | quiet_step (first | with_reducible exact Calls.regrown_same (M2.out _)))
      refine wpQuiet_nil ?_
      intro w4 hb4
      obtain ⟨hc4_0, hf4_0, hz4_0⟩ := own_stays hb4 hzV
      have hbY := bl_call hbV hb4
      clear hbV hb4
      go_wp2_with fail
      refine (MD0.out _).mono ?_
      rintro e w5 ⟨rfl, hb5⟩
      obtain ⟨hc5_0, hf5_0, hz5_0⟩ := own_stays hb5 hz4_0
      go_wp2
      refine bodyPost_ret (v := .tuple #[ratA (arN p q) (arD p q), .int .i64 (arE p q)]) (by simp [results, Tryd.results28, go_sem, *]) rfl ⟨rfl, ?_⟩
      exact (by repeat (with_reducible (first | exact Below.refl _ _ | assumption | refine bl_alloc ?_ _ | refine bl_drewN ?_ _ | refine bl_drew ?_ | refine bl_call ?_ (by assumption) | (refine bl_setCell ?_ _ (Nat.le_refl _)) | (refine bl_setCell ?_ _ (by first | omega | (simp; done) | (simp; omega))))))
    · have MD0 := Lib.hid (fun w => MD.out false (by rw [decide_eq_false nl0]; rfl) w)
      have nl1 : nl = 0 := by omega
      subst nl1
      clear MD
      go_enter Tryd.func28, Tryd.ntmps28
      go_wp2_with fail
      refine (C1.out _).mono ?_
      rintro e w1 ⟨rfl, hb1⟩
      obtain ⟨hc1_0, hf1_0, hz1_0⟩ := own_stays hb1 (b := w.heap.size) (by first | (simp; done) | (simp; omega) | omega)
      go_wp2_with fail
      refine (C2.out _).mono ?_
      rintro e w2 ⟨rfl, hb2⟩
      obtain ⟨hc2_0, hf2_0, hz2_0⟩ := own_stays hb2 (b := w.heap.size) (by first | (simp; done) | (simp; omega) | omega)
      go_wp2_with fail
      go_wp2_with fail
      refine region_qb (fun W => Below w.heap.size w W ∧ w.heap.size < W.heap.size ∧ W.cell? ⟨w.heap.size, 0, none⟩ = some (.int .i64 0) ∧ W.cell? ⟨w.heap.size, 1, none⟩ = some (.int .i64 0) ∧ (∀ o, W.frozen? ⟨w.heap.size, o, none⟩ = false)) ⟨(by repeat (with_reducible (first | exact Below.refl _ _ | assumption | refine bl_alloc ?_ _ | refine bl_drewN ?_ _ | refine bl_drew ?_ | refine bl_call ?_ (by assumption) | (refine bl_setCell ?_ _ (Nat.le_refl _)) | (refine bl_setCell ?_ _ (by first | omega | (simp; done) | (simp; omega)))))), by go_simp, by go_simp, by go_simp, by go_simp⟩ (by kernel_rfl) (by kernel_rfl) ?_
      intro W ⟨hbW, hzW, k0, k1, f0⟩
      repeat (first | go_big_quiet_step (first | with_reducible exact Calls.regrown_same (M1.out _)) | quiet_step (first | with_reducible exact Calls.regrown_same (M1.out _)))
      refine wpQuiet_nil ?_
      intro w3 hb3
      obtain ⟨hc3_0, hf3_0, hz3_0⟩ := own_stays hb3 hzW
      have hbX := bl_call hbW hb3
      clear hb1 hb2 hbW hb3
      go_wp2_with fail
      refine region_qb (fun W => Below w.heap.size w W ∧ w.heap.size < W.heap.size ∧ W.cell? ⟨w.heap.size, 0, none⟩ = some (.int .i64 0) ∧ W.cell? ⟨w.heap.size, 1, none⟩ = some (.int .i64 0) ∧ (∀ o, W.frozen? ⟨w.heap.size, o, none⟩ = false)) ⟨(by repeat (with_reducible (first | exact Below.refl _ _ | assumption | refine bl_alloc ?_ _ | refine bl_drewN ?_ _ | refine bl_drew ?_ | refine bl_call ?_ (by assumption) | (refine bl_setCell ?_ _ (Nat.le_refl _)) | (refine bl_setCell ?_ _ (by first | omega | (simp; done) | (simp; omega)))))), by go_simp, by go_simp, by go_simp, by go_simp⟩ (by kernel_rfl) (by kernel_rfl) ?_
      intro V ⟨hbV, hzV, j0, j1, f1⟩
      clear hbX hc3_0 hf3_0 hz3_0 k0 k1 f0
      repeat (first | go_big_quiet_step (first | with_reducible exact Calls.regrown_same (M2.out _)) | quiet_step (first | with_reducible exact Calls.regrown_same (M2.out _)))
      refine wpQuiet_nil ?_
      intro w4 hb4
      obtain ⟨hc4_0, hf4_0, hz4_0⟩ := own_stays hb4 hzV
      have hbY := bl_call hbV hb4
      clear hbV hb4
      go_wp2_with fail
      refine (MD0.out _).mono ?_
      rintro e w5 ⟨rfl, hb5⟩
      obtain ⟨hc5_0, hf5_0, hz5_0⟩ := own_stays hb5 hz4_0
      go_wp2
      refine bodyPost_ret (v := .tuple #[ratA (arN p q) (arD p q), .int .i64 (arE p q)]) (by simp [results, Tryd.results28, go_sem, *]) rfl ⟨rfl, ?_⟩
      exact (by repeat (with_reducible (first | exact Below.refl _ _ | assumption | refine bl_alloc ?_ _ | refine bl_drewN ?_ _ | refine bl_drew ?_ | refine bl_call ?_ (by assumption) | (refine bl_setCell ?_ _ (Nat.le_refl _)) | (refine bl_setCell ?_ _ (by first | omega | (simp; done) | (simp; omega))))))
theorem mul_sgn (n m : Int) : n * m = sgn (decide (n < 0) != decide (m < 0)) ((n.natAbs * m.natAbs : Nat) : Int) := by
  rw [Int.natCast_mul]
  by_cases h1 : n < 0 <;> by_cases h2 : m < 0
  · rw [show (n.natAbs : Int) = -n by omega, show (m.natAbs : Int) = -m by omega]; simp [h1, h2, sgn, Int.neg_mul, Int.mul_neg]
  · rw [show (n.natAbs : Int) = -n by omega, show (m.natAbs : Int) = m by omega]; simp [h1, h2, sgn, Int.neg_mul, Int.mul_neg]
  · rw [show (n.natAbs : Int) = n by omega, show (m.natAbs : Int) = -m by omega]; simp [h1, h2, sgn, Int.neg_mul, Int.mul_neg]
  · rw [show (n.natAbs : Int) = n by omega, show (m.natAbs : Int) = m by omega]; simp [h1, h2, sgn, Int.neg_mul, Int.mul_neg]
theorem dvP_sgn (n m c : Int) (hc : 0 ≤ c) : dvP n m c = sgn (decide (n < 0) != decide (m < 0)) ((n.natAbs * c.natAbs : Nat) : Int) := by
  rw [Int.natCast_mul, show (c.natAbs : Int) = c by omega]
  unfold dvP
  by_cases h1 : n < 0 <;> by_cases h2 : m < 0
  · rw [show (n.natAbs : Int) = -n by omega]; simp [h1, h2, sgn, Int.neg_mul, Int.mul_neg]
  · rw [show (n.natAbs : Int) = -n by omega]; simp [h1, h2, sgn, Int.neg_mul, Int.mul_neg]
  · rw [show (n.natAbs : Int) = n by omega]; simp [h1, h2, sgn, Int.neg_mul, Int.mul_neg]
  · rw [show (n.natAbs : Int) = n by omega]; simp [h1, h2, sgn, Int.neg_mul, Int.mul_neg]
set_option maxRecDepth 100000 in
set_option maxHeartbeats 4000000 in
theorem mul_body (n d m c : Int) (A B : Nat) (W : World) (hn : In n) (hd : In d) (hm : In m) (hc : In c) (k1 : ckB n d = true) (k2 : ckB m c = true)
    (a0 : W.cell? ⟨A, 0, none⟩ = some (.int .i64 n)) (a1 : W.cell? ⟨A, 1, none⟩ = some (.int .i64 d)) (b0 : W.cell? ⟨B, 0, none⟩ = some (.int .i64 m)) (b1 : W.cell? ⟨B, 1, none⟩ = some (.int .i64 c)) :
    Calls Tryd.prog 27 #[ptrV A, ptrV B] W fun e w' => e = .returned (.tuple #[ratA (arN (n * m) (d * c)) (arD (n * m) (d * c)), .int .i64 (arE (n * m) (d * c))]) ∧ Below W.heap.size W w' := by
  obtain ⟨d1, g1, _⟩ := ck_true k1
  obtain ⟨c1, g2, _⟩ := ck_true k2
  have S1 := fun w => rat_size n w hn
  have S2 := fun w => rat_size m w hm
  have CR := fun w => cross_any n.natAbs d.natAbs m.natAbs c.natAbs (decide (n < 0) != decide (m < 0)) w g1 g2 (by omega) (by omega) (by unfold In at hn; omega) (by unfold In at hd; omega) (by unfold In at hm; omega) (by unfold In at hc; omega) (n * m) (d * c) (mul_sgn n m) (by rw [Int.natCast_mul]; rw [show (d.natAbs : Int) = d by omega, show (c.natAbs : Int) = c by omega])
  rw [show (d.natAbs : Int) = d by omega, show (c.natAbs : Int) = c by omega] at CR
  have wd : IntKind.u64.wrap d = d := by unfold In at hd; rw [IntKind.wrap_u64]; omega
  have wc : IntKind.u64.wrap c = c := by unfold In at hc; rw [IntKind.wrap_u64]; omega
  have S1 := Lib.hid S1
  have S2 := Lib.hid S2
  have hw : W.heap.size < (W.alloc (Obj.cells #[Value.int IntKind.i64 0, Value.int IntKind.i64 0] 23)).heap.size := by simp
  have hx : (W.alloc (Obj.cells #[Value.int IntKind.i64 0, Value.int IntKind.i64 0] 23)).heap[W.heap.size]? = some (Obj.cells #[.int .i64 0, .int .i64 0] 23) := by unfold World.alloc; simp
  clear k1 k2 d1 c1 g1 g2 hn hd hm hc
  generalize arN (n * m) (d * c) = rN at *
  generalize arD (n * m) (d * c) = rD at *
  generalize arE (n * m) (d * c) = rE at *
  generalize n.natAbs = N at *
  generalize m.natAbs = M at *
  replace a0 := rcell a0
  replace a1 := rcell a1
  replace b0 := rcell b0
  replace b1 := rcell b1
  have e1 : (n < 0 ∧ decide (n < 0) = true) ∨ (0 ≤ n ∧ decide (n < 0) = false) := by
    by_cases h : n < 0
    · exact .inl ⟨h, decide_eq_true h⟩
    · exact .inr ⟨by omega, decide_eq_false h⟩
  have e2 : (m < 0 ∧ decide (m < 0) = true) ∨ (0 ≤ m ∧ decide (m < 0) = false) := by
    by_cases h : m < 0
    · exact .inl ⟨h, decide_eq_true h⟩
    · exact .inr ⟨by omega, decide_eq_false h⟩
  rcases e1 with ⟨s1, s3⟩ | ⟨s1, s3⟩ <;> rcases e2 with ⟨s2, s4⟩ | ⟨s2, s4⟩
  all_goals
    rw [s3, s4] at CR
    simp only [bne_self_eq_false, Bool.true_bne, Bool.false_bne, Bool.not_false, Bool.not_true] at CR
    have CR := Lib.hid CR
    go_enter Tryd.func27, Tryd.ntmps27
    go_wp2_with fail
    refine region_t0 (fun _ => none) (st1 22 99) (fun _ => true) W (upd (fun _ => none) 99 W.heap.size (Obj.cells #[.int .i64 0, .int .i64 0] 23)) (fresh_one (bl_alloc (Below.refl _ _) _) (Nat.le_refl _) hw hx) (by kernel_rfl) (by kernel_rfl) (kinds_old (by decide)) ?_
    clear hw hx
    repeat ((first | refine wpT_op true rfl rfl rfl (fun K hK => ?_) | refine wpT_op false rfl rfl rfl (fun K hK => ?_)); go_simp; first | (refine hK _ ?_; clear hK K) | (apply Exists.intro; refine ⟨fun _ => ?_, hK _ ?_⟩; (first | with_reducible exact Calls.same (S1.out _) | with_reducible exact Calls.same (S2.out _) | with_reducible exact Calls.stay (CR.out _)); clear hK K))
    refine wpT_st 99 W.heap.size _ (Obj.cells #[.int .i64 rN, .int .i64 rD] 23) rfl rfl (upd_same _ _ _ _) (Nat.le_refl _) ⟨fun y => rfl, fun w1 hb1 hlt hx => ⟨_, ?_, touch_set2 hx (.int .i64 rN) (.int .i64 rD)⟩⟩ ?_
    · have k0 := laid_cell hx 0 _ rfl
      have k1 := laid_cell hx 1 _ rfl
      have f0 := laid_free hx 0
      have f1 := laid_free hx 1
      clear hx hb1 a0 a1 b0 b1
      go_simp
    repeat ((first | refine wpT_op true rfl rfl rfl (fun K hK => ?_) | refine wpT_op false rfl rfl rfl (fun K hK => ?_)); go_simp; first | (refine hK _ ?_; clear hK K) | (apply Exists.intro; refine ⟨fun _ => ?_, hK _ ?_⟩; (fail); clear hK K))
    refine wpT_nil ?_
    intro w2 hfr
    obtain ⟨l1, l2, l3⟩ := hfr.low 99 W.heap.size _ (upd_same _ _ _ _)
    have k0 := laid_cell l3 0 _ rfl
    have k1 := laid_cell l3 1 _ rfl
    have hb2 := hfr.below
    clear l3 hfr
    go_wp2
    exact bodyPost_ret (v := .tuple #[ratA rN rD, .int .i64 rE]) (by simp [results, Tryd.results27, go_sem, k0, k1]) rfl ⟨rfl, hb2⟩
set_option maxRecDepth 100000 in
set_option maxHeartbeats 4000000 in
theorem div_body (n d m c : Int) (A B : Nat) (W : World) (hn : In n) (hd : In d) (hm : In m) (hc : In c) (k1 : ckB n d = true) (k2 : ckB m c = true)
    (a0 : W.cell? ⟨A, 0, none⟩ = some (.int .i64 n)) (a1 : W.cell? ⟨A, 1, none⟩ = some (.int .i64 d)) (b0 : W.cell? ⟨B, 0, none⟩ = some (.int .i64 m)) (b1 : W.cell? ⟨B, 1, none⟩ = some (.int .i64 c)) :
    Calls Tryd.prog 36 #[ptrV B, ptrV A] W fun e w' => e = .returned (.tuple #[ratA (bN n d m c) (bD n d m c), .int .i64 (bE n d m c)]) ∧ Below W.heap.size W w' := by
  have hB := World.block_lt_of_cell? W _ b0
  have ka := (own_stays (bl_alloc (Below.refl _ W) (Obj.cells #[Value.int IntKind.i64 0, Value.int IntKind.i64 0] 23)) hB).1
  by_cases hm0 : m = 0
  · subst hm0
    rw [show bN n d 0 c = 0 from rfl, show bD n d 0 c = 0 from rfl, show bE n d 0 c = 3 from rfl]
    clear k1 k2
    go_enter Tryd.func36, Tryd.ntmps36
    go_wp2
    refine bodyPost_ret (v := .tuple #[ratA 0 0, .int .i64 3]) (by simp [results, Tryd.results36, go_sem, *]) rfl ⟨rfl, ?_⟩
    exact (by repeat (with_reducible (first | exact Below.refl _ _ | assumption | refine bl_alloc ?_ _ | refine bl_drewN ?_ _ | refine bl_drew ?_ | refine bl_call ?_ (by assumption) | (refine bl_setCell ?_ _ (Nat.le_refl _)) | (refine bl_setCell ?_ _ (by first | omega | (simp; done) | (simp; omega))))))
  have mz : (m == 0) = false := by simpa using hm0
  rw [show bN n d m c = arN (dvP n m c) (dvD d m) by unfold bN; rw [if_neg hm0], show bD n d m c = arD (dvP n m c) (dvD d m) by unfold bD; rw [if_neg hm0], show bE n d m c = arE (dvP n m c) (dvD d m) by unfold bE; rw [if_neg hm0]]
  obtain ⟨d1, g1, _⟩ := ck_true k1
  obtain ⟨c1, g2, _⟩ := ck_true k2
  have S1 := fun w => rat_size n w hn
  have S2 := fun w => rat_size m w hm
  have CR := fun w => cross_any n.natAbs d.natAbs c.natAbs m.natAbs (decide (n < 0) != decide (m < 0)) w g1 (by rw [Nat.gcd_comm]; exact g2) (by omega) (by omega) (by unfold In at hn; omega) (by unfold In at hd; omega) (by unfold In at hc; omega) (by unfold In at hm; omega) (dvP n m c) (dvD d m) (dvP_sgn n m c (by omega)) (by rw [Int.natCast_mul]; rw [show (d.natAbs : Int) = d by omega]; rfl)
  rw [show (d.natAbs : Int) = d by omega, show (c.natAbs : Int) = c by omega] at CR
  have wd : IntKind.u64.wrap d = d := by unfold In at hd; rw [IntKind.wrap_u64]; omega
  have wc : IntKind.u64.wrap c = c := by unfold In at hc; rw [IntKind.wrap_u64]; omega
  have S1 := Lib.hid S1
  have S2 := Lib.hid S2
  have hw : W.heap.size < (W.alloc (Obj.cells #[Value.int IntKind.i64 0, Value.int IntKind.i64 0] 23)).heap.size := by simp
  have hx : (W.alloc (Obj.cells #[Value.int IntKind.i64 0, Value.int IntKind.i64 0] 23)).heap[W.heap.size]? = some (Obj.cells #[.int .i64 0, .int .i64 0] 23) := by unfold World.alloc; simp
  clear hm0 k1 k2 d1 c1 g1 g2 hn hd hm hc
  generalize arN (dvP n m c) (dvD d m) = rN at *
  generalize arD (dvP n m c) (dvD d m) = rD at *
  generalize arE (dvP n m c) (dvD d m) = rE at *
  generalize n.natAbs = N at *
  generalize m.natAbs = M at *
  replace a0 := rcell a0
  replace a1 := rcell a1
  have b2 := b0
  replace b0 := rcell b0
  replace b1 := rcell b1
  have e1 : (n < 0 ∧ decide (n < 0) = true) ∨ (0 ≤ n ∧ decide (n < 0) = false) := by
    by_cases h : n < 0
    · exact .inl ⟨h, decide_eq_true h⟩
    · exact .inr ⟨by omega, decide_eq_false h⟩
  have e2 : (m < 0 ∧ decide (m < 0) = true) ∨ (0 ≤ m ∧ decide (m < 0) = false) := by
    by_cases h : m < 0
    · exact .inl ⟨h, decide_eq_true h⟩
    · exact .inr ⟨by omega, decide_eq_false h⟩
  rcases e1 with ⟨s1, s3⟩ | ⟨s1, s3⟩ <;> rcases e2 with ⟨s2, s4⟩ | ⟨s2, s4⟩
  all_goals
    rw [s3, s4] at CR
    simp only [bne_self_eq_false, Bool.true_bne, Bool.false_bne, Bool.not_false, Bool.not_true] at CR
    have CR := Lib.hid CR
    go_enter Tryd.func36, Tryd.ntmps36
    go_wp2_with fail
    refine region_t0 (fun _ => none) (st1 22 99) (fun _ => true) W (upd (fun _ => none) 99 W.heap.size (Obj.cells #[.int .i64 0, .int .i64 0] 23)) (fresh_one (bl_alloc (Below.refl _ _) _) (Nat.le_refl _) hw hx) (by kernel_rfl) (by kernel_rfl) (kinds_old (by decide)) ?_
    clear hw hx
    repeat ((first | refine wpT_op true rfl rfl rfl (fun K hK => ?_) | refine wpT_op false rfl rfl rfl (fun K hK => ?_)); go_simp; first | (refine hK _ ?_; clear hK K) | (apply Exists.intro; refine ⟨fun _ => ?_, hK _ ?_⟩; (first | with_reducible exact Calls.same (S1.out _) | with_reducible exact Calls.same (S2.out _) | with_reducible exact Calls.stay (CR.out _)); clear hK K))
    refine wpT_st 99 W.heap.size _ (Obj.cells #[.int .i64 rN, .int .i64 rD] 23) rfl rfl (upd_same _ _ _ _) (Nat.le_refl _) ⟨fun y => rfl, fun w1 hb1 hlt hx => ⟨_, ?_, touch_set2 hx (.int .i64 rN) (.int .i64 rD)⟩⟩ ?_
    · have k0 := laid_cell hx 0 _ rfl
      have k1 := laid_cell hx 1 _ rfl
      have f0 := laid_free hx 0
      have f1 := laid_free hx 1
      clear hx hb1 a0 a1 b0 b1
      go_simp
    repeat ((first | refine wpT_op true rfl rfl rfl (fun K hK => ?_) | refine wpT_op false rfl rfl rfl (fun K hK => ?_)); go_simp; first | (refine hK _ ?_; clear hK K) | (apply Exists.intro; refine ⟨fun _ => ?_, hK _ ?_⟩; (fail); clear hK K))
    refine wpT_nil ?_
    intro w2 hfr
    obtain ⟨l1, l2, l3⟩ := hfr.low 99 W.heap.size _ (upd_same _ _ _ _)
    have k0 := laid_cell l3 0 _ rfl
    have k1 := laid_cell l3 1 _ rfl
    have hb2 := hfr.below
    clear l3 hfr
    go_wp2
    exact bodyPost_ret (v := .tuple #[ratA rN rD, .int .i64 rE]) (by simp [results, Tryd.results36, go_sem, k0, k1]) rfl ⟨rfl, hb2⟩
-- generated by mkratop.py
set_option maxRecDepth 100000 in
set_option maxHeartbeats 4000000 in
theorem rat_mul (n d m c : Int) (w : World) (hn : In n) (hd : In d) (hm : In m) (hc : In c) :
    Calls Tryd.prog 10 #[ratA n d, ratA m c] w fun e w' => e = .returned (.tuple #[ratA (vN (cpB n d m c) (arN (n * m) (d * c))) (vN (cpB n d m c) (arD (n * m) (d * c))), .int .i64 (vE (cpB n d m c) (arE (n * m) (d * c)))]) ∧ Below w.heap.size w w' := by
  have hmf : ∀ (fn : Fn) (first cap : Array Value) (w : World), (Instr.makeFunc fn first cap).run Tryd.prog w = .ok (.func fn first cap) w := fun _ _ _ _ => rfl
  cases hv : cpB n d m c
  · rw [vN_no, vN_no, vE_no]
    have C := Lib.hid (fun fv w => counted_no n d m c fv w hn hd hm hc hv)
    clear hv
    go_enter Tryd.func10, Tryd.ntmps10
    go_wp2_with fail
    refine (C.out _ _).mono ?_
    rintro e w1 ⟨rfl, hb1⟩
    obtain ⟨hc1_2, hf1_2, hz1_2⟩ := own_stays hb1 (b := w.heap.size + 2) (by go_simp)
    go_wp2
    refine bodyPost_ret (v := .tuple #[ratA 0 0, .int .i64 1]) (by simp [results, Tryd.results10, go_sem, *]) rfl ⟨rfl, ?_⟩
    exact (by repeat (with_reducible (first | exact Below.refl _ _ | assumption | refine bl_alloc ?_ _ | refine bl_drewN ?_ _ | refine bl_drew ?_ | refine bl_call ?_ (by assumption) | (refine bl_setCell ?_ _ (Nat.le_refl _)) | (refine bl_setCell ?_ _ (by first | omega | (simp; done) | (simp; omega))))))
  · rw [vN_yes, vN_yes, vE_yes]
    have k := hv
    unfold cpB at k
    rw [Bool.and_eq_true] at k
    have eg : ∀ (args : Array Value) (w : World), (callFunc 27 args).run Tryd.prog w = .ok (.enter 27 args) w := enters_of Tryd.func27 (by kernel_rfl) rfl
    have B := Lib.hid (fun A B W => mul_body n d m c A B W hn hd hm hc k.1 k.2)
    have C := Lib.hid (fun cb X Y E w => counted_yes n d m c 27 cb X Y E w eg hn hd hm hc hv)
    have kk : w.heap.size < w.heap.size + 1 + 1 + 1 ∧ w.heap.size + 1 < w.heap.size + 1 + 1 + 1 := ⟨by omega, by omega⟩
    clear hv k eg
    generalize arN (n * m) (d * c) = rN at *
    generalize arD (n * m) (d * c) = rD at *
    generalize arE (n * m) (d * c) = rE at *
    go_enter Tryd.func10, Tryd.ntmps10
    go_wp2_with fail
    refine (C.out _ rN rD rE _ ?_).mono ?_
    · intro V hV
      obtain ⟨a0, _, _⟩ := own_stays hV (b := w.heap.size) (by go_simp)
      obtain ⟨b0, _, _⟩ := own_stays hV (b := w.heap.size + 1) (by go_simp)
      refine B.out w.heap.size (w.heap.size + 1) V ?_ ?_ ?_ ?_
      · rw [a0 0]; go_simp
      · rw [a0 1]; go_simp
      · rw [b0 0]; go_simp
      · rw [b0 1]; go_simp
    rintro e w1 ⟨rfl, hb1⟩
    obtain ⟨hc1_2, hf1_2, hz1_2⟩ := own_stays hb1 (b := w.heap.size + 2) (by go_simp)
    go_wp2
    refine bodyPost_ret (v := .tuple #[ratA rN rD, .int .i64 rE]) (by simp [results, Tryd.results10, go_sem, *]) rfl ⟨rfl, ?_⟩
    exact (by repeat (with_reducible (first | exact Below.refl _ _ | assumption | refine bl_alloc ?_ _ | refine bl_drewN ?_ _ | refine bl_drew ?_ | refine bl_call ?_ (by assumption) | (refine bl_setCell ?_ _ (Nat.le_refl _)) | (refine bl_setCell ?_ _ (by first | omega | (simp; done) | (simp; omega))))))
set_option maxRecDepth 100000 in
set_option maxHeartbeats 4000000 in
theorem rat_div (n d m c : Int) (w : World) (hn : In n) (hd : In d) (hm : In m) (hc : In c) :
    Calls Tryd.prog 15 #[ratA n d, ratA m c] w fun e w' => e = .returned (.tuple #[ratA (vN (cpB n d m c) (bN n d m c)) (vN (cpB n d m c) (bD n d m c)), .int .i64 (vE (cpB n d m c) (bE n d m c))]) ∧ Below w.heap.size w w' := by
  have hmf : ∀ (fn : Fn) (first cap : Array Value) (w : World), (Instr.makeFunc fn first cap).run Tryd.prog w = .ok (.func fn first cap) w := fun _ _ _ _ => rfl
  cases hv : cpB n d m c
  · rw [vN_no, vN_no, vE_no]
    have C := Lib.hid (fun fv w => counted_no n d m c fv w hn hd hm hc hv)
    clear hv
    go_enter Tryd.func15, Tryd.ntmps15
    go_wp2_with fail
    refine (C.out _ _).mono ?_
    rintro e w1 ⟨rfl, hb1⟩
    obtain ⟨hc1_2, hf1_2, hz1_2⟩ := own_stays hb1 (b := w.heap.size + 2) (by go_simp)
    go_wp2
    refine bodyPost_ret (v := .tuple #[ratA 0 0, .int .i64 1]) (by simp [results, Tryd.results15, go_sem, *]) rfl ⟨rfl, ?_⟩
    exact (by repeat (with_reducible (first | exact Below.refl _ _ | assumption | refine bl_alloc ?_ _ | refine bl_drewN ?_ _ | refine bl_drew ?_ | refine bl_call ?_ (by assumption) | (refine bl_setCell ?_ _ (Nat.le_refl _)) | (refine bl_setCell ?_ _ (by first | omega | (simp; done) | (simp; omega))))))
  · rw [vN_yes, vN_yes, vE_yes]
    have k := hv
    unfold cpB at k
    rw [Bool.and_eq_true] at k
    have eg : ∀ (args : Array Value) (w : World), (callFunc 36 args).run Tryd.prog w = .ok (.enter 36 args) w := enters_of Tryd.func36 (by kernel_rfl) rfl
    have B := Lib.hid (fun A B W => div_body n d m c A B W hn hd hm hc k.1 k.2)
    have C := Lib.hid (fun cb X Y E w => counted_yes n d m c 36 cb X Y E w eg hn hd hm hc hv)
    have kk : w.heap.size < w.heap.size + 1 + 1 + 1 ∧ w.heap.size + 1 < w.heap.size + 1 + 1 + 1 := ⟨by omega, by omega⟩
    clear hv k eg
    generalize bN n d m c = rN at *
    generalize bD n d m c = rD at *
    generalize bE n d m c = rE at *
    go_enter Tryd.func15, Tryd.ntmps15
    go_wp2_with fail
    refine (C.out _ rN rD rE _ ?_).mono ?_
    · intro V hV
      obtain ⟨a0, _, _⟩ := own_stays hV (b := w.heap.size) (by go_simp)
      obtain ⟨b0, _, _⟩ := own_stays hV (b := w.heap.size + 1) (by go_simp)
      refine B.out w.heap.size (w.heap.size + 1) V ?_ ?_ ?_ ?_
      · rw [a0 0]; go_simp
      · rw [a0 1]; go_simp
      · rw [b0 0]; go_simp
      · rw [b0 1]; go_simp
    rintro e w1 ⟨rfl, hb1⟩
    obtain ⟨hc1_2, hf1_2, hz1_2⟩ := own_stays hb1 (b := w.heap.size + 2) (by go_simp)
    go_wp2
    refine bodyPost_ret (v := .tuple #[ratA rN rD, .int .i64 rE]) (by simp [results, Tryd.results15, go_sem, *]) rfl ⟨rfl, ?_⟩
    exact (by repeat (with_reducible (first | exact Below.refl _ _ | assumption | refine bl_alloc ?_ _ | refine bl_drewN ?_ _ | refine bl_drew ?_ | refine bl_call ?_ (by assumption) | (refine bl_setCell ?_ _ (Nat.le_refl _)) | (refine bl_setCell ?_ _ (by first | omega | (simp; done) | (simp; omega))))))
end Go.Proofs.YtkejohmghacdhaaDoor
