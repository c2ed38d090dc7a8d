/- Contracts of the reference's chapter 3. -/
import Derived.Test.YtkejohmghacdhaaRatC
import Derived.Test.YtkejohmghacdhaaRwK
import Derived.Test.YtkejohmghacdhaaRefB
namespace Go.Proofs.Ytkejohmghacdhaa
set_option linter.unusedVariables false
set_option linter.unusedSimpArgs false
open Go.RowKit
theorem r3size (a : Int) (w : World) (ha : In a) :
    Calls Try.prog 42 #[.int .i64 a] w fun e w' => e = .returned (.int .u64 (a.natAbs : Nat)) ∧ w = w' := r1size a w ha
set_option maxRecDepth 100000 in
set_option maxHeartbeats 1000000 in
theorem r3common (X Y : Nat) (w : World) (hx : X < 18446744073709551616) (hy : Y < 18446744073709551616) :
    Calls Try.prog 41 #[.int .u64 (X : Int), .int .u64 (Y : Int)] w fun e w' => e = .returned (.int .u64 (Nat.gcd X Y : Nat)) ∧ Below w.heap.size w w' := by
  obtain ⟨g, hg⟩ : ∃ g, Nat.gcd X Y = g := ⟨_, rfl⟩
  rw [hg]
  have HG := Lib.hid hg
  clear hg
  go_enter Try.func41, Try.ntmps41
  go_wp2
  go_loop [0, 1] (fun u v => ∃ x y : Nat, x < 18446744073709551616 ∧ y < 18446744073709551616 ∧ u = .int .u64 (x : Int) ∧ v = .int .u64 (y : Int) ∧ Nat.gcd x y = g) (fun _ v => (intOf v).toNat)
  case atStart => exact ⟨X, Y, hx, hy, rfl, rfl, HG.out⟩
  case round =>
    obtain ⟨x, y, l1, l2, rfl, rfl, hg⟩ := hrel
    have HG := Lib.hid hg
    clear hg
    by_cases hy : y = 0
    · subst hy
      have e : x = g := by have := HG.out; rw [Nat.gcd_zero_right] at this; exact this
      subst e
      go_wp2
      go_ret
      exact ⟨rfl, Below.refl _ _⟩
    · have hy0 : 0 < y := by omega
      have hyb : ((y : Int) == 0) = false := by simp; omega
      have hm : x % y < y := Nat.mod_lt _ hy0
      have e : (x : Int).tmod (y : Int) = ((x % y : Nat) : Int) := by rw [Int.tmod_eq_emod_of_nonneg (by omega)]; rfl
      have e2 : (x : Int) % (y : Int) = ((x % y : Nat) : Int) := rfl
      have G := Lib.hid (gcd_rem (x := x) hy0)
      have hz : ¬ y = 0 := hy
      generalize x % y = z at *
      go_wp2
      go_round
      case rel => exact ⟨y, z, l2, by omega, rfl, by first | rfl | (congr 1; done), by rw [G.out]; exact HG.out⟩
      case measure => simp [intOf]; omega
set_option maxRecDepth 100000 in
set_option maxHeartbeats 2000000 in
theorem r3check (n d : Int) (w : World) (hn : In n) (hd : In d) :
    Calls Try.prog 24 #[ratA n d] w fun e w' => e = .returned (.int .i64 (ckR n d)) ∧ Below w.heap.size w w' := by
  by_cases h1 : d < 1
  · have e : ckB n d = false := decide_eq_false (fun h => by omega)
    have E := Lib.hid (ck_false e).2
    clear e hn hd
    go_enter Try.func24, Try.ntmps24
    go_wp2_with fail
    refine region_qb (fun W => W.cell? ⟨w.heap.size, 0, none⟩ = some (.int .i64 n) ∧ W.cell? ⟨w.heap.size, 1, none⟩ = some (.int .i64 d) ∧ Below w.heap.size w W) ⟨by go_simp, by go_simp, (by repeat (with_reducible (first | exact Below.refl _ _ | assumption | refine bl_alloc ?_ _ | refine bl_drewN ?_ _ | refine bl_drew ?_ | refine bl_call ?_ (by assumption) | (refine bl_setCell ?_ _ (Nat.le_refl _)) | (refine bl_setCell ?_ _ (by first | omega | (simp; done) | (simp; omega))))))⟩ (by kernel_rfl) (by kernel_rfl) ?_
    intro W ⟨k0, k1, hbW⟩
    replace k0 := rcell k0
    replace k1 := rcell k1
    repeat (first | go_big_quiet_step (fail) | quiet_step (fail))
    refine wpQuiet_nil ?_
    intro w2 hb2
    go_wp2
    go_ret
    exact ⟨ret_i E.out.symm, bl_call hbW hb2⟩
  · have hd0 : 0 ≤ d := by omega
    obtain ⟨D, rfl⟩ := Int.eq_ofNat_of_zero_le hd0
    have hD : D ≤ 9223372036854775807 := by unfold In at hd; omega
    have hNn : n.natAbs < 18446744073709551616 := by unfold In at hn; omega
    have S := Lib.hid (fun w => r3size n w hn)
    have C := Lib.hid (fun w => r3common n.natAbs D w hNn (by omega))
    have E1 : Nat.gcd n.natAbs D = 1 → ckR n (D : Int) = 0 := fun h => by
      unfold ckR ckB gN
      rw [Int.natAbs_natCast, if_pos (decide_eq_true ⟨by omega, h⟩)]
    have E2 : Nat.gcd n.natAbs D ≠ 1 → ckR n (D : Int) = 1 := fun h => by
      unfold ckR ckB gN
      rw [Int.natAbs_natCast, if_neg (by simp; intro _; exact h)]
    have hD2 : (D : Int) ≤ 9223372036854775807 := by omega
    have wD : IntKind.u64.wrap (D : Int) = (D : Int) := by rw [IntKind.wrap_u64]; omega
    clear hn hd hNn hD
    generalize n.natAbs = N at *
    generalize Nat.gcd N D = g at *
    by_cases hg : g = 1
    · have E := Lib.hid (E1 hg)
      subst hg
      clear E1 E2
      go_enter Try.func24, Try.ntmps24
      go_wp2_with fail
      refine region_qb (fun W => W.cell? ⟨w.heap.size, 0, none⟩ = some (.int .i64 n) ∧ W.cell? ⟨w.heap.size, 1, none⟩ = some (.int .i64 (D : Int)) ∧ Below w.heap.size w W) ⟨by go_simp, by go_simp, (by repeat (with_reducible (first | exact Below.refl _ _ | assumption | refine bl_alloc ?_ _ | refine bl_drewN ?_ _ | refine bl_drew ?_ | refine bl_call ?_ (by assumption) | (refine bl_setCell ?_ _ (Nat.le_refl _)) | (refine bl_setCell ?_ _ (by first | omega | (simp; done) | (simp; omega))))))⟩ (by kernel_rfl) (by kernel_rfl) ?_
      intro W ⟨k0, k1, hbW⟩
      replace k0 := rcell k0
      replace k1 := rcell k1
      repeat (first | go_big_quiet_step (first | with_reducible exact Calls.regrown_same (S.out _) | with_reducible exact Calls.regrown_of (C.out _)) | quiet_step (first | with_reducible exact Calls.regrown_same (S.out _) | with_reducible exact Calls.regrown_of (C.out _)))
      refine wpQuiet_nil ?_
      intro w2 hb2
      go_wp2
      go_ret
      exact ⟨ret_i E.out.symm, bl_call hbW hb2⟩
    · have g1 : ((g : Int) != 1) = true := by simp; omega
      have g2 : ((g : Int) == 1) = false := by simp; omega
      have E := Lib.hid (E2 hg)
      clear hg E1 E2
      go_enter Try.func24, Try.ntmps24
      go_wp2_with fail
      refine region_qb (fun W => W.cell? ⟨w.heap.size, 0, none⟩ = some (.int .i64 n) ∧ W.cell? ⟨w.heap.size, 1, none⟩ = some (.int .i64 (D : Int)) ∧ Below w.heap.size w W) ⟨by go_simp, by go_simp, (by repeat (with_reducible (first | exact Below.refl _ _ | assumption | refine bl_alloc ?_ _ | refine bl_drewN ?_ _ | refine bl_drew ?_ | refine bl_call ?_ (by assumption) | (refine bl_setCell ?_ _ (Nat.le_refl _)) | (refine bl_setCell ?_ _ (by first | omega | (simp; done) | (simp; omega))))))⟩ (by kernel_rfl) (by kernel_rfl) ?_
      intro W ⟨k0, k1, hbW⟩
      replace k0 := rcell k0
      replace k1 := rcell k1
      repeat (first | go_big_quiet_step (first | with_reducible exact Calls.regrown_same (S.out _) | with_reducible exact Calls.regrown_of (C.out _)) | quiet_step (first | with_reducible exact Calls.regrown_same (S.out _) | with_reducible exact Calls.regrown_of (C.out _)))
      refine wpQuiet_nil ?_
      intro w2 hb2
      go_wp2
      go_ret
      exact ⟨ret_i E.out.symm, bl_call hbW hb2⟩
set_option maxRecDepth 100000 in
set_option maxHeartbeats 4000000 in
theorem r3make (n d : Int) (w : World) (hn : In n) (hd : In d) :
    Calls Try.prog 17 #[.int .i64 n, .int .i64 d] w fun e w' => e = .returned (.tuple #[ratA (mkN n d) (mkD n d), .int .i64 (mkE n d)]) ∧ Below w.heap.size w w' := by
  by_cases h : d = 0
  · subst h
    have E := Lib.hid (show mkN n 0 = 0 ∧ mkD n 0 = 0 ∧ mkE n 0 = 3 by rcases mk_cases n 0 with ⟨_, h⟩ | ⟨h, _⟩ | ⟨h, _⟩; exact h; exact absurd rfl h; exact absurd rfl h)
    go_enter Try.func17, Try.ntmps17
    go_wp2
    refine bodyPost_ret (v := .tuple #[ratA 0 0, .int .i64 3]) (by simp [results, Try.results17, go_sem]) rfl ⟨ret_re E.out.1.symm E.out.2.1.symm E.out.2.2.symm, ?_⟩
    exact (by repeat (with_reducible (first | exact Below.refl _ _ | assumption | refine bl_alloc ?_ _ | refine bl_drewN ?_ _ | refine bl_drew ?_ | refine bl_call ?_ (by assumption) | (refine bl_setCell ?_ _ (Nat.le_refl _)) | (refine bl_setCell ?_ _ (by first | omega | (simp; done) | (simp; omega))))))
  · have hz : (d == 0) = false := by simpa using h
    have SN := Lib.hid (fun w => r3size n w hn)
    have SD := Lib.hid (fun w => r3size d w hd)
    have CM := Lib.hid (fun w => r3common n.natAbs d.natAbs w (by unfold In at hn; omega) (by unfold In at hd; omega))
    have gp := gN_pos (n := n) h
    have q1 : ((n.natAbs : Nat) : Int) / ((Nat.gcd n.natAbs d.natAbs : Nat) : Int) = ((mX n d : Nat) : Int) := by unfold mX gN; rw [Int.natCast_ediv]
    have q2 : ((d.natAbs : Nat) : Int) / ((Nat.gcd n.natAbs d.natAbs : Nat) : Int) = ((mY n d : Nat) : Int) := by unfold mY gN; rw [Int.natCast_ediv]
    have q3 : ((n.natAbs : Nat) : Int).tdiv ((Nat.gcd n.natAbs d.natAbs : Nat) : Int) = ((mX n d : Nat) : Int) := by rw [Int.tdiv_eq_ediv_of_nonneg (by omega)]; exact q1
    have q4 : ((d.natAbs : Nat) : Int).tdiv ((Nat.gcd n.natAbs d.natAbs : Nat) : Int) = ((mY n d : Nat) : Int) := by rw [Int.tdiv_eq_ediv_of_nonneg (by omega)]; exact q2
    have bx := mX_bd h hn
    have by' := mY_bd (n := n) h hd
    have gp' : 0 < Nat.gcd n.natAbs d.natAbs := gp
    have xz := mX_zero (n := n) h
    have C : ((n < 0 ∧ 0 < d ∧ 0 < mX n d) ∧ mkS n d = true) ∨ ((0 < n ∧ d < 0 ∧ 0 < mX n d) ∧ mkS n d = true) ∨ (n < 0 ∧ d < 0 ∧ mkS n d = false) ∨ (0 < n ∧ 0 < d ∧ mkS n d = false) ∨ (n = 0 ∧ mkS n d = false) := by
      have x0 : n ≠ 0 → 0 < mX n d := fun h' => by have : mX n d ≠ 0 := fun h2 => h' (xz.1 h2); omega
      unfold mkS
      by_cases c1 : n < 0
      · by_cases c2 : 0 < d
        · exact .inl ⟨⟨c1, c2, x0 (by omega)⟩, decide_eq_true (.inl ⟨c1, c2⟩)⟩
        · exact .inr (.inr (.inl ⟨c1, by omega, decide_eq_false (by omega)⟩))
      · by_cases c0 : n = 0
        · exact .inr (.inr (.inr (.inr ⟨c0, decide_eq_false (by omega)⟩)))
        · by_cases c2 : 0 < d
          · exact .inr (.inr (.inr (.inl ⟨by omega, c2, decide_eq_false (by omega)⟩)))
          · exact .inr (.inl ⟨⟨by omega, by omega, x0 c0⟩, decide_eq_true (.inr ⟨by omega, by omega⟩)⟩)
    have R : (mkOk n d = true ∧ mkN n d = sgn (mkS n d) (mX n d) ∧ mkD n d = (mY n d : Int) ∧ mkE n d = 0) ∨ (mkOk n d = false ∧ mkN n d = 0 ∧ mkD n d = 0 ∧ mkE n d = 2) := by
      rcases mk_cases n d with ⟨h0, _⟩ | ⟨_, x⟩ | ⟨_, x⟩
      · exact absurd h0 h
      · exact .inl x
      · exact .inr x
    have OK : mkOk n d = decide (mY n d ≤ 9223372036854775807 ∧ (mX n d ≤ 9223372036854775807 ∨ mkS n d = true)) := by
      unfold mkOk; rw [Bool.eq_iff_iff]; simp only [decide_eq_true_eq]; exact ⟨fun x => x.2, fun x => ⟨h, x⟩⟩
    rw [OK] at R
    clear OK xz hn hd h gp
    generalize Nat.gcd n.natAbs d.natAbs = g at *
    generalize n.natAbs = N at *
    generalize d.natAbs = D at *
    generalize mX n d = X at *
    generalize mY n d = Y at *
    generalize mkS n d = S at *
    generalize mkN n d = rN at *
    generalize mkD n d = rD at *
    generalize mkE n d = rE at *
    have g0 : ((g : Int) == 0) = false := by simp; omega
    have g1 : (0 : Int) < (g : Int) := by omega
    have gz : ¬ g = 0 := by omega
    have bx' : (X : Int) ≤ 9223372036854775808 := by omega
    have by2 : (Y : Int) ≤ 9223372036854775808 := by omega
    have wX : IntKind.u64.wrap (X : Int) = (X : Int) := by rw [IntKind.wrap_u64]; omega
    have wY : IntKind.u64.wrap (Y : Int) = (Y : Int) := by rw [IntKind.wrap_u64]; omega
    clear gp'
    have R : (Y ≤ 9223372036854775807 ∧ (X ≤ 9223372036854775807 ∨ S = true) ∧ rN = sgn S X ∧ rD = (Y : Int) ∧ rE = 0) ∨ (¬ (Y ≤ 9223372036854775807 ∧ (X ≤ 9223372036854775807 ∨ S = true)) ∧ rN = 0 ∧ rD = 0 ∧ rE = 2) := by
      rcases R with ⟨a, b⟩ | ⟨a, b⟩
      · have := of_decide_eq_true a; exact .inl ⟨this.1, this.2, b⟩
      · exact .inr ⟨of_decide_eq_false a, b⟩
    have R : (Y ≤ 9223372036854775807 ∧ X ≤ 9223372036854775807 ∧ rN = sgn S X ∧ rD = (Y : Int) ∧ rE = 0) ∨ (Y ≤ 9223372036854775807 ∧ X = 9223372036854775808 ∧ S = true ∧ rN = -9223372036854775808 ∧ rD = (Y : Int) ∧ rE = 0) ∨ (9223372036854775807 < Y ∧ rN = 0 ∧ rD = 0 ∧ rE = 2) ∨ (Y ≤ 9223372036854775807 ∧ X = 9223372036854775808 ∧ S = false ∧ rN = 0 ∧ rD = 0 ∧ rE = 2) := by
      by_cases y : Y ≤ 9223372036854775807
      · by_cases x : X ≤ 9223372036854775807
        · rcases R with ⟨_, _, r⟩ | ⟨r, _⟩
          · exact .inl ⟨y, x, r⟩
          · exact absurd ⟨y, .inl x⟩ r
        · have x' : X = 9223372036854775808 := by omega
          cases S
          · rcases R with ⟨_, r, _⟩ | ⟨_, r⟩
            · rcases r with r | r
              · exact absurd r x
              · cases r
            · exact .inr (.inr (.inr ⟨y, x', rfl, r⟩))
          · rcases R with ⟨_, _, r1, r2, r3⟩ | ⟨r, _⟩
            · exact .inr (.inl ⟨y, x', rfl, by rw [r1, sgn_true, x']; rfl, r2, r3⟩)
            · exact absurd ⟨y, .inr rfl⟩ r
      · rcases R with ⟨r, _⟩ | ⟨_, r⟩
        · exact absurd r y
        · exact .inr (.inr (.inl ⟨by omega, r⟩))
    have R := Lib.hid R
    rcases C with ⟨⟨c1, c2, c3⟩, rfl⟩ | ⟨⟨c1, c2, c3⟩, rfl⟩ | ⟨c1, c2, rfl⟩ | ⟨c1, c2, rfl⟩ | ⟨rfl, rfl⟩
    · rcases R.out with ⟨y1, x1, r1, r2, r3⟩ | ⟨y1, rfl, s1, r1, r2, r3⟩ | ⟨y1, r1, r2, r3⟩ | ⟨y1, rfl, s1, r1, r2, r3⟩
      · have R1 := Lib.hid r1
        have R2 := Lib.hid r2
        have R3 := Lib.hid r3
        clear r1 r2 r3
        have y2 : (Y : Int) ≤ 9223372036854775807 := by omega
        have x2 : (X : Int) ≤ 9223372036854775807 := by omega
        have x4 : ((X : Int) == 9223372036854775808) = false := by simp; omega
        have x3 : 1 ≤ (X : Int) := by omega
        go_enter Try.func17, Try.ntmps17
        go_wp2_with fail
        refine (SN.out _).mono ?_
        rintro e w1 ⟨rfl, rfl⟩
        go_wp2_with fail
        refine (SD.out _).mono ?_
        rintro e w1 ⟨rfl, rfl⟩
        go_wp2_with fail
        refine (CM.out _).mono ?_
        rintro e w1 ⟨rfl, hb1⟩
        obtain ⟨hc1, hf1, hz1⟩ := own_stays hb1 (b := w.heap.size) (by go_simp)
        go_wp2_with fail
        refine (SN.out _).mono ?_
        rintro e w2 ⟨rfl, rfl⟩
        go_wp2_with fail
        refine (SD.out _).mono ?_
        rintro e w2 ⟨rfl, rfl⟩
        go_wp2
        have q0 : w1.cell? ⟨w.heap.size, 0, none⟩ = some (.int .i64 0) := by rw [hc1]; go_simp
        have q1 : w1.cell? ⟨w.heap.size, 1, none⟩ = some (.int .i64 0) := by rw [hc1]; go_simp
        obtain ⟨u0, u1⟩ := set2 (.int .i64 (-((X : Int) - 1) - 1)) (.int .i64 ((Y : Int))) q0 q1
        refine bodyPost_ret (v := .tuple #[ratA (-((X : Int) - 1) - 1) ((Y : Int)), .int .i64 0]) (by simp [results, Try.results17, go_sem, u0, u1]) rfl ⟨ret_re (by rw [R1.out, sgn_true]; omega) R2.out.symm R3.out.symm, ?_⟩
        exact (by repeat (with_reducible (first | exact Below.refl _ _ | assumption | refine bl_alloc ?_ _ | refine bl_drewN ?_ _ | refine bl_drew ?_ | refine bl_call ?_ (by assumption) | (refine bl_setCell ?_ _ (Nat.le_refl _)) | (refine bl_setCell ?_ _ (by first | omega | (simp; done) | (simp; omega))))))
      · have R1 := Lib.hid r1
        have R2 := Lib.hid r2
        have R3 := Lib.hid r3
        clear r1 r2 r3
        have y2 : (Y : Int) ≤ 9223372036854775807 := by omega
        go_enter Try.func17, Try.ntmps17
        go_wp2_with fail
        refine (SN.out _).mono ?_
        rintro e w1 ⟨rfl, rfl⟩
        go_wp2_with fail
        refine (SD.out _).mono ?_
        rintro e w1 ⟨rfl, rfl⟩
        go_wp2_with fail
        refine (CM.out _).mono ?_
        rintro e w1 ⟨rfl, hb1⟩
        obtain ⟨hc1, hf1, hz1⟩ := own_stays hb1 (b := w.heap.size) (by go_simp)
        go_wp2_with fail
        refine (SN.out _).mono ?_
        rintro e w2 ⟨rfl, rfl⟩
        go_wp2_with fail
        refine (SD.out _).mono ?_
        rintro e w2 ⟨rfl, rfl⟩
        go_wp2
        have q0 : w1.cell? ⟨w.heap.size, 0, none⟩ = some (.int .i64 0) := by rw [hc1]; go_simp
        have q1 : w1.cell? ⟨w.heap.size, 1, none⟩ = some (.int .i64 0) := by rw [hc1]; go_simp
        obtain ⟨u0, u1⟩ := set2 (.int .i64 (-9223372036854775808)) (.int .i64 ((Y : Int))) q0 q1
        refine bodyPost_ret (v := .tuple #[ratA (-9223372036854775808) ((Y : Int)), .int .i64 0]) (by simp [results, Try.results17, go_sem, u0, u1]) rfl ⟨ret_re R1.out.symm R2.out.symm R3.out.symm, ?_⟩
        exact (by repeat (with_reducible (first | exact Below.refl _ _ | assumption | refine bl_alloc ?_ _ | refine bl_drewN ?_ _ | refine bl_drew ?_ | refine bl_call ?_ (by assumption) | (refine bl_setCell ?_ _ (Nat.le_refl _)) | (refine bl_setCell ?_ _ (by first | omega | (simp; done) | (simp; omega))))))
      · have R1 := Lib.hid r1
        have R2 := Lib.hid r2
        have R3 := Lib.hid r3
        clear r1 r2 r3
        have y3 : 9223372036854775807 < (Y : Int) := by omega
        go_enter Try.func17, Try.ntmps17
        go_wp2_with fail
        refine (SN.out _).mono ?_
        rintro e w1 ⟨rfl, rfl⟩
        go_wp2_with fail
        refine (SD.out _).mono ?_
        rintro e w1 ⟨rfl, rfl⟩
        go_wp2_with fail
        refine (CM.out _).mono ?_
        rintro e w1 ⟨rfl, hb1⟩
        obtain ⟨hc1, hf1, hz1⟩ := own_stays hb1 (b := w.heap.size) (by go_simp)
        go_wp2_with fail
        refine (SN.out _).mono ?_
        rintro e w2 ⟨rfl, rfl⟩
        go_wp2_with fail
        refine (SD.out _).mono ?_
        rintro e w2 ⟨rfl, rfl⟩
        go_wp2
        have q0 : w1.cell? ⟨w.heap.size, 0, none⟩ = some (.int .i64 0) := by rw [hc1]; go_simp
        have q1 : w1.cell? ⟨w.heap.size, 1, none⟩ = some (.int .i64 0) := by rw [hc1]; go_simp
        obtain ⟨u0, u1⟩ := set2 (.int .i64 (0)) (.int .i64 (0)) q0 q1
        refine bodyPost_ret (v := .tuple #[ratA (0) (0), .int .i64 2]) (by simp [results, Try.results17, go_sem, u0, u1]) rfl ⟨ret_re R1.out.symm R2.out.symm R3.out.symm, ?_⟩
        exact (by repeat (with_reducible (first | exact Below.refl _ _ | assumption | refine bl_alloc ?_ _ | refine bl_drewN ?_ _ | refine bl_drew ?_ | refine bl_call ?_ (by assumption) | (refine bl_setCell ?_ _ (Nat.le_refl _)) | (refine bl_setCell ?_ _ (by first | omega | (simp; done) | (simp; omega))))))
      · cases s1
    · rcases R.out with ⟨y1, x1, r1, r2, r3⟩ | ⟨y1, rfl, s1, r1, r2, r3⟩ | ⟨y1, r1, r2, r3⟩ | ⟨y1, rfl, s1, r1, r2, r3⟩
      · have R1 := Lib.hid r1
        have R2 := Lib.hid r2
        have R3 := Lib.hid r3
        clear r1 r2 r3
        have y2 : (Y : Int) ≤ 9223372036854775807 := by omega
        have x2 : (X : Int) ≤ 9223372036854775807 := by omega
        have x4 : ((X : Int) == 9223372036854775808) = false := by simp; omega
        have x3 : 1 ≤ (X : Int) := by omega
        go_enter Try.func17, Try.ntmps17
        go_wp2_with fail
        refine (SN.out _).mono ?_
        rintro e w1 ⟨rfl, rfl⟩
        go_wp2_with fail
        refine (SD.out _).mono ?_
        rintro e w1 ⟨rfl, rfl⟩
        go_wp2_with fail
        refine (CM.out _).mono ?_
        rintro e w1 ⟨rfl, hb1⟩
        obtain ⟨hc1, hf1, hz1⟩ := own_stays hb1 (b := w.heap.size) (by go_simp)
        go_wp2_with fail
        refine (SN.out _).mono ?_
        rintro e w2 ⟨rfl, rfl⟩
        go_wp2_with fail
        refine (SD.out _).mono ?_
        rintro e w2 ⟨rfl, rfl⟩
        go_wp2
        have q0 : w1.cell? ⟨w.heap.size, 0, none⟩ = some (.int .i64 0) := by rw [hc1]; go_simp
        have q1 : w1.cell? ⟨w.heap.size, 1, none⟩ = some (.int .i64 0) := by rw [hc1]; go_simp
        obtain ⟨u0, u1⟩ := set2 (.int .i64 (-((X : Int) - 1) - 1)) (.int .i64 ((Y : Int))) q0 q1
        refine bodyPost_ret (v := .tuple #[ratA (-((X : Int) - 1) - 1) ((Y : Int)), .int .i64 0]) (by simp [results, Try.results17, go_sem, u0, u1]) rfl ⟨ret_re (by rw [R1.out, sgn_true]; omega) R2.out.symm R3.out.symm, ?_⟩
        exact (by repeat (with_reducible (first | exact Below.refl _ _ | assumption | refine bl_alloc ?_ _ | refine bl_drewN ?_ _ | refine bl_drew ?_ | refine bl_call ?_ (by assumption) | (refine bl_setCell ?_ _ (Nat.le_refl _)) | (refine bl_setCell ?_ _ (by first | omega | (simp; done) | (simp; omega))))))
      · have R1 := Lib.hid r1
        have R2 := Lib.hid r2
        have R3 := Lib.hid r3
        clear r1 r2 r3
        have y2 : (Y : Int) ≤ 9223372036854775807 := by omega
        go_enter Try.func17, Try.ntmps17
        go_wp2_with fail
        refine (SN.out _).mono ?_
        rintro e w1 ⟨rfl, rfl⟩
        go_wp2_with fail
        refine (SD.out _).mono ?_
        rintro e w1 ⟨rfl, rfl⟩
        go_wp2_with fail
        refine (CM.out _).mono ?_
        rintro e w1 ⟨rfl, hb1⟩
        obtain ⟨hc1, hf1, hz1⟩ := own_stays hb1 (b := w.heap.size) (by go_simp)
        go_wp2_with fail
        refine (SN.out _).mono ?_
        rintro e w2 ⟨rfl, rfl⟩
        go_wp2_with fail
        refine (SD.out _).mono ?_
        rintro e w2 ⟨rfl, rfl⟩
        go_wp2
        have q0 : w1.cell? ⟨w.heap.size, 0, none⟩ = some (.int .i64 0) := by rw [hc1]; go_simp
        have q1 : w1.cell? ⟨w.heap.size, 1, none⟩ = some (.int .i64 0) := by rw [hc1]; go_simp
        obtain ⟨u0, u1⟩ := set2 (.int .i64 (-9223372036854775808)) (.int .i64 ((Y : Int))) q0 q1
        refine bodyPost_ret (v := .tuple #[ratA (-9223372036854775808) ((Y : Int)), .int .i64 0]) (by simp [results, Try.results17, go_sem, u0, u1]) rfl ⟨ret_re R1.out.symm R2.out.symm R3.out.symm, ?_⟩
        exact (by repeat (with_reducible (first | exact Below.refl _ _ | assumption | refine bl_alloc ?_ _ | refine bl_drewN ?_ _ | refine bl_drew ?_ | refine bl_call ?_ (by assumption) | (refine bl_setCell ?_ _ (Nat.le_refl _)) | (refine bl_setCell ?_ _ (by first | omega | (simp; done) | (simp; omega))))))
      · have R1 := Lib.hid r1
        have R2 := Lib.hid r2
        have R3 := Lib.hid r3
        clear r1 r2 r3
        have y3 : 9223372036854775807 < (Y : Int) := by omega
        go_enter Try.func17, Try.ntmps17
        go_wp2_with fail
        refine (SN.out _).mono ?_
        rintro e w1 ⟨rfl, rfl⟩
        go_wp2_with fail
        refine (SD.out _).mono ?_
        rintro e w1 ⟨rfl, rfl⟩
        go_wp2_with fail
        refine (CM.out _).mono ?_
        rintro e w1 ⟨rfl, hb1⟩
        obtain ⟨hc1, hf1, hz1⟩ := own_stays hb1 (b := w.heap.size) (by go_simp)
        go_wp2_with fail
        refine (SN.out _).mono ?_
        rintro e w2 ⟨rfl, rfl⟩
        go_wp2_with fail
        refine (SD.out _).mono ?_
        rintro e w2 ⟨rfl, rfl⟩
        go_wp2
        have q0 : w1.cell? ⟨w.heap.size, 0, none⟩ = some (.int .i64 0) := by rw [hc1]; go_simp
        have q1 : w1.cell? ⟨w.heap.size, 1, none⟩ = some (.int .i64 0) := by rw [hc1]; go_simp
        obtain ⟨u0, u1⟩ := set2 (.int .i64 (0)) (.int .i64 (0)) q0 q1
        refine bodyPost_ret (v := .tuple #[ratA (0) (0), .int .i64 2]) (by simp [results, Try.results17, go_sem, u0, u1]) rfl ⟨ret_re R1.out.symm R2.out.symm R3.out.symm, ?_⟩
        exact (by repeat (with_reducible (first | exact Below.refl _ _ | assumption | refine bl_alloc ?_ _ | refine bl_drewN ?_ _ | refine bl_drew ?_ | refine bl_call ?_ (by assumption) | (refine bl_setCell ?_ _ (Nat.le_refl _)) | (refine bl_setCell ?_ _ (by first | omega | (simp; done) | (simp; omega))))))
      · cases s1
    · have f1 : decide (0 < d) = false := by simp; omega
      have f2 : decide (0 < n) = false := by simp; omega
      rcases R.out with ⟨y1, x1, r1, r2, r3⟩ | ⟨y1, rfl, s1, r1, r2, r3⟩ | ⟨y1, r1, r2, r3⟩ | ⟨y1, rfl, s1, r1, r2, r3⟩
      · have R1 := Lib.hid r1
        have R2 := Lib.hid r2
        have R3 := Lib.hid r3
        clear r1 r2 r3
        have y2 : (Y : Int) ≤ 9223372036854775807 := by omega
        have x2 : (X : Int) ≤ 9223372036854775807 := by omega
        have x4 : ((X : Int) == 9223372036854775808) = false := by simp; omega
        go_enter Try.func17, Try.ntmps17
        go_wp2_with fail
        refine (SN.out _).mono ?_
        rintro e w1 ⟨rfl, rfl⟩
        go_wp2_with fail
        refine (SD.out _).mono ?_
        rintro e w1 ⟨rfl, rfl⟩
        go_wp2_with fail
        refine (CM.out _).mono ?_
        rintro e w1 ⟨rfl, hb1⟩
        obtain ⟨hc1, hf1, hz1⟩ := own_stays hb1 (b := w.heap.size) (by go_simp)
        go_wp2_with fail
        refine (SN.out _).mono ?_
        rintro e w2 ⟨rfl, rfl⟩
        go_wp2_with fail
        refine (SD.out _).mono ?_
        rintro e w2 ⟨rfl, rfl⟩
        go_wp2
        have q0 : w1.cell? ⟨w.heap.size, 0, none⟩ = some (.int .i64 0) := by rw [hc1]; go_simp
        have q1 : w1.cell? ⟨w.heap.size, 1, none⟩ = some (.int .i64 0) := by rw [hc1]; go_simp
        obtain ⟨u0, u1⟩ := set2 (.int .i64 ((X : Int))) (.int .i64 ((Y : Int))) q0 q1
        refine bodyPost_ret (v := .tuple #[ratA ((X : Int)) ((Y : Int)), .int .i64 0]) (by simp [results, Try.results17, go_sem, u0, u1]) rfl ⟨ret_re (by rw [R1.out, sgn_false]) R2.out.symm R3.out.symm, ?_⟩
        exact (by repeat (with_reducible (first | exact Below.refl _ _ | assumption | refine bl_alloc ?_ _ | refine bl_drewN ?_ _ | refine bl_drew ?_ | refine bl_call ?_ (by assumption) | (refine bl_setCell ?_ _ (Nat.le_refl _)) | (refine bl_setCell ?_ _ (by first | omega | (simp; done) | (simp; omega))))))
      · cases s1
      · have R1 := Lib.hid r1
        have R2 := Lib.hid r2
        have R3 := Lib.hid r3
        clear r1 r2 r3
        have y3 : 9223372036854775807 < (Y : Int) := by omega
        go_enter Try.func17, Try.ntmps17
        go_wp2_with fail
        refine (SN.out _).mono ?_
        rintro e w1 ⟨rfl, rfl⟩
        go_wp2_with fail
        refine (SD.out _).mono ?_
        rintro e w1 ⟨rfl, rfl⟩
        go_wp2_with fail
        refine (CM.out _).mono ?_
        rintro e w1 ⟨rfl, hb1⟩
        obtain ⟨hc1, hf1, hz1⟩ := own_stays hb1 (b := w.heap.size) (by go_simp)
        go_wp2_with fail
        refine (SN.out _).mono ?_
        rintro e w2 ⟨rfl, rfl⟩
        go_wp2_with fail
        refine (SD.out _).mono ?_
        rintro e w2 ⟨rfl, rfl⟩
        go_wp2
        have q0 : w1.cell? ⟨w.heap.size, 0, none⟩ = some (.int .i64 0) := by rw [hc1]; go_simp
        have q1 : w1.cell? ⟨w.heap.size, 1, none⟩ = some (.int .i64 0) := by rw [hc1]; go_simp
        obtain ⟨u0, u1⟩ := set2 (.int .i64 (0)) (.int .i64 (0)) q0 q1
        refine bodyPost_ret (v := .tuple #[ratA (0) (0), .int .i64 2]) (by simp [results, Try.results17, go_sem, u0, u1]) rfl ⟨ret_re R1.out.symm R2.out.symm R3.out.symm, ?_⟩
        exact (by repeat (with_reducible (first | exact Below.refl _ _ | assumption | refine bl_alloc ?_ _ | refine bl_drewN ?_ _ | refine bl_drew ?_ | refine bl_call ?_ (by assumption) | (refine bl_setCell ?_ _ (Nat.le_refl _)) | (refine bl_setCell ?_ _ (by first | omega | (simp; done) | (simp; omega))))))
      · have R1 := Lib.hid r1
        have R2 := Lib.hid r2
        have R3 := Lib.hid r3
        clear r1 r2 r3
        have y2 : (Y : Int) ≤ 9223372036854775807 := by omega
        go_enter Try.func17, Try.ntmps17
        go_wp2_with fail
        refine (SN.out _).mono ?_
        rintro e w1 ⟨rfl, rfl⟩
        go_wp2_with fail
        refine (SD.out _).mono ?_
        rintro e w1 ⟨rfl, rfl⟩
        go_wp2_with fail
        refine (CM.out _).mono ?_
        rintro e w1 ⟨rfl, hb1⟩
        obtain ⟨hc1, hf1, hz1⟩ := own_stays hb1 (b := w.heap.size) (by go_simp)
        go_wp2_with fail
        refine (SN.out _).mono ?_
        rintro e w2 ⟨rfl, rfl⟩
        go_wp2_with fail
        refine (SD.out _).mono ?_
        rintro e w2 ⟨rfl, rfl⟩
        go_wp2
        have q0 : w1.cell? ⟨w.heap.size, 0, none⟩ = some (.int .i64 0) := by rw [hc1]; go_simp
        have q1 : w1.cell? ⟨w.heap.size, 1, none⟩ = some (.int .i64 0) := by rw [hc1]; go_simp
        obtain ⟨u0, u1⟩ := set2 (.int .i64 (0)) (.int .i64 (0)) q0 q1
        refine bodyPost_ret (v := .tuple #[ratA (0) (0), .int .i64 2]) (by simp [results, Try.results17, go_sem, u0, u1]) rfl ⟨ret_re R1.out.symm R2.out.symm R3.out.symm, ?_⟩
        exact (by repeat (with_reducible (first | exact Below.refl _ _ | assumption | refine bl_alloc ?_ _ | refine bl_drewN ?_ _ | refine bl_drew ?_ | refine bl_call ?_ (by assumption) | (refine bl_setCell ?_ _ (Nat.le_refl _)) | (refine bl_setCell ?_ _ (by first | omega | (simp; done) | (simp; omega))))))
    · have f1 : decide (n < 0) = false := by simp; omega
      have f2 : decide (d < 0) = false := by simp; omega
      rcases R.out with ⟨y1, x1, r1, r2, r3⟩ | ⟨y1, rfl, s1, r1, r2, r3⟩ | ⟨y1, r1, r2, r3⟩ | ⟨y1, rfl, s1, r1, r2, r3⟩
      · have R1 := Lib.hid r1
        have R2 := Lib.hid r2
        have R3 := Lib.hid r3
        clear r1 r2 r3
        have y2 : (Y : Int) ≤ 9223372036854775807 := by omega
        have x2 : (X : Int) ≤ 9223372036854775807 := by omega
        have x4 : ((X : Int) == 9223372036854775808) = false := by simp; omega
        go_enter Try.func17, Try.ntmps17
        go_wp2_with fail
        refine (SN.out _).mono ?_
        rintro e w1 ⟨rfl, rfl⟩
        go_wp2_with fail
        refine (SD.out _).mono ?_
        rintro e w1 ⟨rfl, rfl⟩
        go_wp2_with fail
        refine (CM.out _).mono ?_
        rintro e w1 ⟨rfl, hb1⟩
        obtain ⟨hc1, hf1, hz1⟩ := own_stays hb1 (b := w.heap.size) (by go_simp)
        go_wp2_with fail
        refine (SN.out _).mono ?_
        rintro e w2 ⟨rfl, rfl⟩
        go_wp2_with fail
        refine (SD.out _).mono ?_
        rintro e w2 ⟨rfl, rfl⟩
        go_wp2
        have q0 : w1.cell? ⟨w.heap.size, 0, none⟩ = some (.int .i64 0) := by rw [hc1]; go_simp
        have q1 : w1.cell? ⟨w.heap.size, 1, none⟩ = some (.int .i64 0) := by rw [hc1]; go_simp
        obtain ⟨u0, u1⟩ := set2 (.int .i64 ((X : Int))) (.int .i64 ((Y : Int))) q0 q1
        refine bodyPost_ret (v := .tuple #[ratA ((X : Int)) ((Y : Int)), .int .i64 0]) (by simp [results, Try.results17, go_sem, u0, u1]) rfl ⟨ret_re (by rw [R1.out, sgn_false]) R2.out.symm R3.out.symm, ?_⟩
        exact (by repeat (with_reducible (first | exact Below.refl _ _ | assumption | refine bl_alloc ?_ _ | refine bl_drewN ?_ _ | refine bl_drew ?_ | refine bl_call ?_ (by assumption) | (refine bl_setCell ?_ _ (Nat.le_refl _)) | (refine bl_setCell ?_ _ (by first | omega | (simp; done) | (simp; omega))))))
      · cases s1
      · have R1 := Lib.hid r1
        have R2 := Lib.hid r2
        have R3 := Lib.hid r3
        clear r1 r2 r3
        have y3 : 9223372036854775807 < (Y : Int) := by omega
        go_enter Try.func17, Try.ntmps17
        go_wp2_with fail
        refine (SN.out _).mono ?_
        rintro e w1 ⟨rfl, rfl⟩
        go_wp2_with fail
        refine (SD.out _).mono ?_
        rintro e w1 ⟨rfl, rfl⟩
        go_wp2_with fail
        refine (CM.out _).mono ?_
        rintro e w1 ⟨rfl, hb1⟩
        obtain ⟨hc1, hf1, hz1⟩ := own_stays hb1 (b := w.heap.size) (by go_simp)
        go_wp2_with fail
        refine (SN.out _).mono ?_
        rintro e w2 ⟨rfl, rfl⟩
        go_wp2_with fail
        refine (SD.out _).mono ?_
        rintro e w2 ⟨rfl, rfl⟩
        go_wp2
        have q0 : w1.cell? ⟨w.heap.size, 0, none⟩ = some (.int .i64 0) := by rw [hc1]; go_simp
        have q1 : w1.cell? ⟨w.heap.size, 1, none⟩ = some (.int .i64 0) := by rw [hc1]; go_simp
        obtain ⟨u0, u1⟩ := set2 (.int .i64 (0)) (.int .i64 (0)) q0 q1
        refine bodyPost_ret (v := .tuple #[ratA (0) (0), .int .i64 2]) (by simp [results, Try.results17, go_sem, u0, u1]) rfl ⟨ret_re R1.out.symm R2.out.symm R3.out.symm, ?_⟩
        exact (by repeat (with_reducible (first | exact Below.refl _ _ | assumption | refine bl_alloc ?_ _ | refine bl_drewN ?_ _ | refine bl_drew ?_ | refine bl_call ?_ (by assumption) | (refine bl_setCell ?_ _ (Nat.le_refl _)) | (refine bl_setCell ?_ _ (by first | omega | (simp; done) | (simp; omega))))))
      · have R1 := Lib.hid r1
        have R2 := Lib.hid r2
        have R3 := Lib.hid r3
        clear r1 r2 r3
        have y2 : (Y : Int) ≤ 9223372036854775807 := by omega
        go_enter Try.func17, Try.ntmps17
        go_wp2_with fail
        refine (SN.out _).mono ?_
        rintro e w1 ⟨rfl, rfl⟩
        go_wp2_with fail
        refine (SD.out _).mono ?_
        rintro e w1 ⟨rfl, rfl⟩
        go_wp2_with fail
        refine (CM.out _).mono ?_
        rintro e w1 ⟨rfl, hb1⟩
        obtain ⟨hc1, hf1, hz1⟩ := own_stays hb1 (b := w.heap.size) (by go_simp)
        go_wp2_with fail
        refine (SN.out _).mono ?_
        rintro e w2 ⟨rfl, rfl⟩
        go_wp2_with fail
        refine (SD.out _).mono ?_
        rintro e w2 ⟨rfl, rfl⟩
        go_wp2
        have q0 : w1.cell? ⟨w.heap.size, 0, none⟩ = some (.int .i64 0) := by rw [hc1]; go_simp
        have q1 : w1.cell? ⟨w.heap.size, 1, none⟩ = some (.int .i64 0) := by rw [hc1]; go_simp
        obtain ⟨u0, u1⟩ := set2 (.int .i64 (0)) (.int .i64 (0)) q0 q1
        refine bodyPost_ret (v := .tuple #[ratA (0) (0), .int .i64 2]) (by simp [results, Try.results17, go_sem, u0, u1]) rfl ⟨ret_re R1.out.symm R2.out.symm R3.out.symm, ?_⟩
        exact (by repeat (with_reducible (first | exact Below.refl _ _ | assumption | refine bl_alloc ?_ _ | refine bl_drewN ?_ _ | refine bl_drew ?_ | refine bl_call ?_ (by assumption) | (refine bl_setCell ?_ _ (Nat.le_refl _)) | (refine bl_setCell ?_ _ (by first | omega | (simp; done) | (simp; omega))))))
    · rcases R.out with ⟨y1, x1, r1, r2, r3⟩ | ⟨y1, rfl, s1, r1, r2, r3⟩ | ⟨y1, r1, r2, r3⟩ | ⟨y1, rfl, s1, r1, r2, r3⟩
      · have R1 := Lib.hid r1
        have R2 := Lib.hid r2
        have R3 := Lib.hid r3
        clear r1 r2 r3
        have y2 : (Y : Int) ≤ 9223372036854775807 := by omega
        have x2 : (X : Int) ≤ 9223372036854775807 := by omega
        have x4 : ((X : Int) == 9223372036854775808) = false := by simp; omega
        go_enter Try.func17, Try.ntmps17
        go_wp2_with fail
        refine (SN.out _).mono ?_
        rintro e w1 ⟨rfl, rfl⟩
        go_wp2_with fail
        refine (SD.out _).mono ?_
        rintro e w1 ⟨rfl, rfl⟩
        go_wp2_with fail
        refine (CM.out _).mono ?_
        rintro e w1 ⟨rfl, hb1⟩
        obtain ⟨hc1, hf1, hz1⟩ := own_stays hb1 (b := w.heap.size) (by go_simp)
        go_wp2_with fail
        refine (SN.out _).mono ?_
        rintro e w2 ⟨rfl, rfl⟩
        go_wp2_with fail
        refine (SD.out _).mono ?_
        rintro e w2 ⟨rfl, rfl⟩
        go_wp2
        have q0 : w1.cell? ⟨w.heap.size, 0, none⟩ = some (.int .i64 0) := by rw [hc1]; go_simp
        have q1 : w1.cell? ⟨w.heap.size, 1, none⟩ = some (.int .i64 0) := by rw [hc1]; go_simp
        obtain ⟨u0, u1⟩ := set2 (.int .i64 ((X : Int))) (.int .i64 ((Y : Int))) q0 q1
        refine bodyPost_ret (v := .tuple #[ratA ((X : Int)) ((Y : Int)), .int .i64 0]) (by simp [results, Try.results17, go_sem, u0, u1]) rfl ⟨ret_re (by rw [R1.out, sgn_false]) R2.out.symm R3.out.symm, ?_⟩
        exact (by repeat (with_reducible (first | exact Below.refl _ _ | assumption | refine bl_alloc ?_ _ | refine bl_drewN ?_ _ | refine bl_drew ?_ | refine bl_call ?_ (by assumption) | (refine bl_setCell ?_ _ (Nat.le_refl _)) | (refine bl_setCell ?_ _ (by first | omega | (simp; done) | (simp; omega))))))
      · cases s1
      · have R1 := Lib.hid r1
        have R2 := Lib.hid r2
        have R3 := Lib.hid r3
        clear r1 r2 r3
        have y3 : 9223372036854775807 < (Y : Int) := by omega
        go_enter Try.func17, Try.ntmps17
        go_wp2_with fail
        refine (SN.out _).mono ?_
        rintro e w1 ⟨rfl, rfl⟩
        go_wp2_with fail
        refine (SD.out _).mono ?_
        rintro e w1 ⟨rfl, rfl⟩
        go_wp2_with fail
        refine (CM.out _).mono ?_
        rintro e w1 ⟨rfl, hb1⟩
        obtain ⟨hc1, hf1, hz1⟩ := own_stays hb1 (b := w.heap.size) (by go_simp)
        go_wp2_with fail
        refine (SN.out _).mono ?_
        rintro e w2 ⟨rfl, rfl⟩
        go_wp2_with fail
        refine (SD.out _).mono ?_
        rintro e w2 ⟨rfl, rfl⟩
        go_wp2
        have q0 : w1.cell? ⟨w.heap.size, 0, none⟩ = some (.int .i64 0) := by rw [hc1]; go_simp
        have q1 : w1.cell? ⟨w.heap.size, 1, none⟩ = some (.int .i64 0) := by rw [hc1]; go_simp
        obtain ⟨u0, u1⟩ := set2 (.int .i64 (0)) (.int .i64 (0)) q0 q1
        refine bodyPost_ret (v := .tuple #[ratA (0) (0), .int .i64 2]) (by simp [results, Try.results17, go_sem, u0, u1]) rfl ⟨ret_re R1.out.symm R2.out.symm R3.out.symm, ?_⟩
        exact (by repeat (with_reducible (first | exact Below.refl _ _ | assumption | refine bl_alloc ?_ _ | refine bl_drewN ?_ _ | refine bl_drew ?_ | refine bl_call ?_ (by assumption) | (refine bl_setCell ?_ _ (Nat.le_refl _)) | (refine bl_setCell ?_ _ (by first | omega | (simp; done) | (simp; omega))))))
      · have R1 := Lib.hid r1
        have R2 := Lib.hid r2
        have R3 := Lib.hid r3
        clear r1 r2 r3
        have y2 : (Y : Int) ≤ 9223372036854775807 := by omega
        go_enter Try.func17, Try.ntmps17
        go_wp2_with fail
        refine (SN.out _).mono ?_
        rintro e w1 ⟨rfl, rfl⟩
        go_wp2_with fail
        refine (SD.out _).mono ?_
        rintro e w1 ⟨rfl, rfl⟩
        go_wp2_with fail
        refine (CM.out _).mono ?_
        rintro e w1 ⟨rfl, hb1⟩
        obtain ⟨hc1, hf1, hz1⟩ := own_stays hb1 (b := w.heap.size) (by go_simp)
        go_wp2_with fail
        refine (SN.out _).mono ?_
        rintro e w2 ⟨rfl, rfl⟩
        go_wp2_with fail
        refine (SD.out _).mono ?_
        rintro e w2 ⟨rfl, rfl⟩
        go_wp2
        have q0 : w1.cell? ⟨w.heap.size, 0, none⟩ = some (.int .i64 0) := by rw [hc1]; go_simp
        have q1 : w1.cell? ⟨w.heap.size, 1, none⟩ = some (.int .i64 0) := by rw [hc1]; go_simp
        obtain ⟨u0, u1⟩ := set2 (.int .i64 (0)) (.int .i64 (0)) q0 q1
        refine bodyPost_ret (v := .tuple #[ratA (0) (0), .int .i64 2]) (by simp [results, Try.results17, go_sem, u0, u1]) rfl ⟨ret_re R1.out.symm R2.out.symm R3.out.symm, ?_⟩
        exact (by repeat (with_reducible (first | exact Below.refl _ _ | assumption | refine bl_alloc ?_ _ | refine bl_drewN ?_ _ | refine bl_drew ?_ | refine bl_call ?_ (by assumption) | (refine bl_setCell ?_ _ (Nat.le_refl _)) | (refine bl_setCell ?_ _ (by first | omega | (simp; done) | (simp; omega))))))
set_option maxRecDepth 100000 in
set_option maxHeartbeats 1000000 in
theorem r3may (n d m c : Int) (w : World) (hn : In n) (hd : In d) (hm : In m) (hc : In c) :
    Calls Try.prog 43 #[ratA n d, ratA m c] w fun e w' => e = .returned (.int .i64 (cpE n d m c)) ∧ Below w.heap.size w w' := by
  have K1 := fun w => r3check n d w hn hd
  have K2 := fun w => r3check m c w hm hc
  cases k1 : ckB n d
  · rw [(ck_false k1).2] at K1
    have E := Lib.hid (show cpE n d m c = 1 by unfold cpE cpB; rw [k1]; rfl)
    have K1 := Lib.hid K1
    clear k1 K2
    go_enter Try.func43, Try.ntmps43
    go_wp2_with fail
    refine (K1.out _).mono ?_
    rintro e w1 ⟨rfl, hb1⟩
    obtain ⟨hc1_0, hf1_0, hz1_0⟩ := own_stays hb1 (b := w.heap.size) (by first | (simp; done) | (simp; omega) | omega)
    obtain ⟨hc1_1, hf1_1, hz1_1⟩ := own_stays hb1 (b := w.heap.size + 1) (by first | (simp; done) | (simp; omega) | omega)
    go_wp2_with fail
    go_ret
    exact ⟨ret_i E.out.symm, (by repeat (with_reducible (first | exact Below.refl _ _ | assumption | refine bl_alloc ?_ _ | refine bl_drewN ?_ _ | refine bl_drew ?_ | refine bl_call ?_ (by assumption) | (refine bl_setCell ?_ _ (Nat.le_refl _)) | (refine bl_setCell ?_ _ (by first | omega | (simp; done) | (simp; omega))))))⟩
  rw [(ck_true k1).2.2] at K1
  have K1 := Lib.hid K1
  cases k2 : ckB m c
  · rw [(ck_false k2).2] at K2
    have E := Lib.hid (show cpE n d m c = 1 by unfold cpE cpB; rw [k1, k2]; rfl)
    have K2 := Lib.hid K2
    clear k1 k2
    go_enter Try.func43, Try.ntmps43
    go_wp2_with fail
    refine (K1.out _).mono ?_
    rintro e w1 ⟨rfl, hb1⟩
    obtain ⟨hc1_0, hf1_0, hz1_0⟩ := own_stays hb1 (b := w.heap.size) (by first | (simp; done) | (simp; omega) | omega)
    obtain ⟨hc1_1, hf1_1, hz1_1⟩ := own_stays hb1 (b := w.heap.size + 1) (by first | (simp; done) | (simp; omega) | omega)
    go_wp2_with fail
    refine (K2.out _).mono ?_
    rintro e w2 ⟨rfl, hb2⟩
    go_wp2_with fail
    go_ret
    exact ⟨ret_i E.out.symm, (by repeat (with_reducible (first | exact Below.refl _ _ | assumption | refine bl_alloc ?_ _ | refine bl_drewN ?_ _ | refine bl_drew ?_ | refine bl_call ?_ (by assumption) | (refine bl_setCell ?_ _ (Nat.le_refl _)) | (refine bl_setCell ?_ _ (by first | omega | (simp; done) | (simp; omega))))))⟩
  · rw [(ck_true k2).2.2] at K2
    have E := Lib.hid (show cpE n d m c = 0 by unfold cpE cpB; rw [k1, k2]; rfl)
    have K2 := Lib.hid K2
    clear k1 k2
    go_enter Try.func43, Try.ntmps43
    go_wp2_with fail
    refine (K1.out _).mono ?_
    rintro e w1 ⟨rfl, hb1⟩
    obtain ⟨hc1_0, hf1_0, hz1_0⟩ := own_stays hb1 (b := w.heap.size) (by first | (simp; done) | (simp; omega) | omega)
    obtain ⟨hc1_1, hf1_1, hz1_1⟩ := own_stays hb1 (b := w.heap.size + 1) (by first | (simp; done) | (simp; omega) | omega)
    go_wp2_with fail
    refine (K2.out _).mono ?_
    rintro e w2 ⟨rfl, hb2⟩
    go_wp2_with fail
    go_ret
    exact ⟨ret_i E.out.symm, (by repeat (with_reducible (first | exact Below.refl _ _ | assumption | refine bl_alloc ?_ _ | refine bl_drewN ?_ _ | refine bl_drew ?_ | refine bl_call ?_ (by assumption) | (refine bl_setCell ?_ _ (Nat.le_refl _)) | (refine bl_setCell ?_ _ (by first | omega | (simp; done) | (simp; omega))))))⟩
set_option maxRecDepth 100000 in
set_option maxHeartbeats 4000000 in
theorem r3cmp (n d m c : Int) (w : World) (hn : In n) (hd : In d) (hm : In m) (hc : In c) :
    Calls Try.prog 19 #[ratA n d, ratA m c] w fun e w' => e = .returned (.tuple #[.int .i64 (cpV n d m c), .int .i64 (cpE n d m c)]) ∧ Below w.heap.size w w' := by
  cases k1 : ckB n d
  · have E1 := Lib.hid (ck_false k1).2
    have E0 := Lib.hid (show cpE n d m c = 1 by unfold cpE cpB; rw [k1]; rfl)
    have V := Lib.hid (show cpV n d m c = 0 ∧ cpE n d m c = 1 by unfold cpV cpE cpB; rw [k1]; exact ⟨rfl, rfl⟩)
    clear k1
    go_enter Try.func19, Try.ntmps19
    go_wp2_with fail
    refine (r3may n d m c _ hn hd hm hc).mono ?_
    rintro e w2 ⟨rfl, hb2⟩
    rw [E0.out]
    obtain ⟨hc2_0, hf2_0, hz2_0⟩ := own_stays hb2 (b := w.heap.size) (by go_simp)
    obtain ⟨hc2_1, hf2_1, hz2_1⟩ := own_stays hb2 (b := w.heap.size + 1) (by go_simp)
    go_wp2
    go_ret2
    exact ⟨ret_ii V.out.1.symm V.out.2.symm, (by repeat (with_reducible (first | exact Below.refl _ _ | assumption | refine bl_alloc ?_ _ | refine bl_drewN ?_ _ | refine bl_drew ?_ | refine bl_call ?_ (by assumption) | (refine bl_setCell ?_ _ (Nat.le_refl _)) | (refine bl_setCell ?_ _ (by first | omega | (simp; done) | (simp; omega))))))⟩
  cases k2 : ckB m c
  · have E1 := Lib.hid (ck_true k1).2.2
    have E2 := Lib.hid (ck_false k2).2
    have E0 := Lib.hid (show cpE n d m c = 1 by unfold cpE cpB; rw [k1, k2]; rfl)
    have V := Lib.hid (show cpV n d m c = 0 ∧ cpE n d m c = 1 by unfold cpV cpE cpB; rw [k1, k2]; exact ⟨rfl, rfl⟩)
    clear k1 k2
    go_enter Try.func19, Try.ntmps19
    go_wp2_with fail
    refine (r3may n d m c _ hn hd hm hc).mono ?_
    rintro e w2 ⟨rfl, hb2⟩
    rw [E0.out]
    obtain ⟨hc2_0, hf2_0, hz2_0⟩ := own_stays hb2 (b := w.heap.size) (by go_simp)
    obtain ⟨hc2_1, hf2_1, hz2_1⟩ := own_stays hb2 (b := w.heap.size + 1) (by go_simp)
    go_wp2
    go_ret2
    exact ⟨ret_ii V.out.1.symm V.out.2.symm, (by repeat (with_reducible (first | exact Below.refl _ _ | assumption | refine bl_alloc ?_ _ | refine bl_drewN ?_ _ | refine bl_drew ?_ | refine bl_call ?_ (by assumption) | (refine bl_setCell ?_ _ (Nat.le_refl _)) | (refine bl_setCell ?_ _ (by first | omega | (simp; done) | (simp; omega))))))⟩
  · have E1 := Lib.hid (ck_true k1).2.2
    have E2 := Lib.hid (ck_true k2).2.2
    have E0 := Lib.hid (show cpE n d m c = 0 by unfold cpE cpB; rw [k1, k2]; rfl)
    have V := Lib.hid (show cpV n d m c = cmpI (n * c) (m * d) ∧ cpE n d m c = 0 by unfold cpV cpE cpB; rw [k1, k2]; exact ⟨rfl, rfl⟩)
    clear k1 k2
    have M1 := Lib.hid (fun w => rmul_any n c w hn hc)
    have M2 := Lib.hid (fun w => rmul_any m d w hm hd)
    have p1 := prod_InW hn hc
    have p2 := prod_InW hm hd
    have CC := Lib.hid (fun w => rwcmp_any (n * c) (m * d) w p1 p2)
    clear p1 p2
    generalize n * c = p at *
    generalize m * d = q at *
    go_enter Try.func19, Try.ntmps19
    go_wp2_with fail
    refine (r3may n d m c _ hn hd hm hc).mono ?_
    rintro e w2 ⟨rfl, hb2⟩
    rw [E0.out]
    obtain ⟨hc2_0, hf2_0, hz2_0⟩ := own_stays hb2 (b := w.heap.size) (by go_simp)
    obtain ⟨hc2_1, hf2_1, hz2_1⟩ := own_stays hb2 (b := w.heap.size + 1) (by go_simp)
    go_wp2_with fail
    refine region_qb (fun W => W.cell? ⟨w.heap.size, 0, none⟩ = some (.int .i64 n) ∧ W.cell? ⟨w.heap.size, 1, none⟩ = some (.int .i64 d) ∧ W.cell? ⟨w.heap.size + 1, 0, none⟩ = some (.int .i64 m) ∧ W.cell? ⟨w.heap.size + 1, 1, none⟩ = some (.int .i64 c) ∧ Below w.heap.size w W) ⟨by go_simp, by go_simp, by go_simp, by go_simp, (by repeat (with_reducible (first | exact Below.refl _ _ | assumption | refine bl_alloc ?_ _ | refine bl_drewN ?_ _ | refine bl_drew ?_ | refine bl_call ?_ (by assumption) | (refine bl_setCell ?_ _ (Nat.le_refl _)) | (refine bl_setCell ?_ _ (by first | omega | (simp; done) | (simp; omega))))))⟩ (by kernel_rfl) (by kernel_rfl) ?_
    intro W ⟨k0, k1, k2, k3, hbW⟩
    replace k0 := rcell k0
    replace k1 := rcell k1
    replace k2 := rcell k2
    replace k3 := rcell k3
    repeat (quiet_step (first | with_reducible exact Calls.regrown_of (M1.out _) | with_reducible exact Calls.regrown_of (M2.out _) | with_reducible exact Calls.regrown_of (CC.out _)))
    refine wpQuiet_nil ?_
    intro w3 hb3
    go_wp2
    go_ret2
    exact ⟨ret_ii V.out.1.symm V.out.2.symm, bl_call hbW hb3⟩
set_option maxRecDepth 100000 in
set_option maxHeartbeats 1000000 in
theorem r3floor (n d : Int) (w : World) (hn : In n) (hd : In d) :
    Calls Try.prog 21 #[ratA n d] w fun e w' => e = .returned (.tuple #[.int .i64 (flV n d), .int .i64 (ckR n d)]) ∧ Below w.heap.size w w' := by
  have CKC := Lib.hid (fun w => r3check n d w hn hd)
  cases k : ckB n d
  · have E := Lib.hid (ck_false k).2
    have V := Lib.hid (show flV n d = 0 by unfold flV; rw [k]; rfl)
    clear k
    have CKC := CKC.out
    rw [E.out] at CKC ⊢
    rw [V.out]
    have CKC := Lib.hid CKC
    go_enter Try.func21, Try.ntmps21
    go_wp2_with fail
    refine (CKC.out _).mono ?_
    rintro e w1 ⟨rfl, hb1⟩
    go_wp2_with fail
    go_ret2
    exact ⟨rfl, (by repeat (with_reducible (first | exact Below.refl _ _ | assumption | refine bl_alloc ?_ _ | refine bl_drewN ?_ _ | refine bl_drew ?_ | refine bl_call ?_ (by assumption) | (refine bl_setCell ?_ _ (Nat.le_refl _)) | (refine bl_setCell ?_ _ (by first | omega | (simp; done) | (simp; omega))))))⟩
  · obtain ⟨h1, _, e⟩ := ck_true k
    have E := Lib.hid e
    have V := Lib.hid (show flV n d = n / d by unfold flV; rw [k]; rfl)
    obtain ⟨d1, d2, d3, d4⟩ := dv_one hn hd h1
    have D := fun w => r1div n d w hn hd
    rw [d1, d2, d3] at D
    have D := Lib.hid D
    clear k e d1 d2 d3 d4
    have CKC := CKC.out
    rw [E.out] at CKC ⊢
    rw [V.out]
    have CKC := Lib.hid CKC
    generalize n / d = q at *
    generalize n % d = r at *
    go_enter Try.func21, Try.ntmps21
    go_wp2_with fail
    refine (CKC.out _).mono ?_
    rintro e w1 ⟨rfl, hb1⟩
    obtain ⟨hc1_0, hf1_0, hz1_0⟩ := own_stays hb1 (b := w.heap.size) (by first | (simp; done) | (simp; omega) | omega)
    go_wp2_with fail
    refine (D.out _).mono ?_
    rintro e w2 ⟨rfl, hb2⟩
    go_wp2_with fail
    go_ret2
    exact ⟨rfl, (by repeat (with_reducible (first | exact Below.refl _ _ | assumption | refine bl_alloc ?_ _ | refine bl_drewN ?_ _ | refine bl_drew ?_ | refine bl_call ?_ (by assumption) | (refine bl_setCell ?_ _ (Nat.le_refl _)) | (refine bl_setCell ?_ _ (by first | omega | (simp; done) | (simp; omega))))))⟩
theorem rem_pos {n d : Int} (h : ckB n d = true) : (1 < d → 0 < n % d) ∧ (¬ 1 < d → n % d = 0) := by
  obtain ⟨h1, h2, _⟩ := ck_true h
  refine ⟨fun h3 => ?_, fun h3 => ?_⟩
  · have r0 := Int.emod_nonneg n (show d ≠ 0 by omega)
    apply Classical.byContradiction
    intro hr
    have hz : n % d = 0 := by omega
    have hd : d ∣ n := Int.dvd_of_emod_eq_zero hz
    have hn := Int.natAbs_dvd_natAbs.2 hd
    have : Nat.gcd n.natAbs d.natAbs = d.natAbs := Nat.gcd_eq_right hn
    unfold gN at h2
    omega
  · have : d = 1 := by omega
    subst this; omega
set_option maxRecDepth 100000 in
set_option maxHeartbeats 1000000 in
theorem r3ceil (n d : Int) (w : World) (hn : In n) (hd : In d) :
    Calls Try.prog 23 #[ratA n d] w fun e w' => e = .returned (.tuple #[.int .i64 (clV n d), .int .i64 (ckR n d)]) ∧ Below w.heap.size w w' := by
  have K := fun w => r3check n d w hn hd
  cases k : ckB n d
  · have V : clV n d = 0 := by unfold clV; rw [k]; rfl
    rw [(ck_false k).2] at K ⊢
    rw [V]
    have K := Lib.hid K
    clear k V
    go_enter Try.func23, Try.ntmps23
    go_wp2_with fail
    refine (K.out _).mono ?_
    rintro e w1 ⟨rfl, hb1⟩
    go_wp2_with fail
    go_ret2
    exact ⟨rfl, (by repeat (with_reducible (first | exact Below.refl _ _ | assumption | refine bl_alloc ?_ _ | refine bl_drewN ?_ _ | refine bl_drew ?_ | refine bl_call ?_ (by assumption) | (refine bl_setCell ?_ _ (Nat.le_refl _)) | (refine bl_setCell ?_ _ (by first | omega | (simp; done) | (simp; omega))))))⟩
  · obtain ⟨h1, _, e⟩ := ck_true k
    obtain ⟨m1, m2⟩ := rem_pos k
    obtain ⟨d1, d2, d3, d4⟩ := dv_one hn hd h1
    have D := fun w => r1div n d w hn hd
    rw [d1, d2, d3] at D
    rw [e] at K ⊢
    have D := Lib.hid D
    have K := Lib.hid K
    by_cases h2 : 1 < d
    · have U : clV n d = n / d + 1 := by unfold clV; rw [k, if_pos rfl, if_pos h2]
      rw [U]
      have m := m1 h2
      obtain ⟨b0, b1⟩ := half_div hn h2
      clear k e d1 d2 d3 d4 m1 m2 U
      generalize n / d = q at *
      generalize n % d = r at *
      go_enter Try.func23, Try.ntmps23
      go_wp2_with fail
      refine (K.out _).mono ?_
      rintro e w1 ⟨rfl, hb1⟩
      obtain ⟨hc1_0, hf1_0, hz1_0⟩ := own_stays hb1 (b := w.heap.size) (by first | (simp; done) | (simp; omega) | omega)
      go_wp2_with fail
      refine (D.out _).mono ?_
      rintro e w2 ⟨rfl, hb2⟩
      go_wp2_with fail
      go_ret2
      exact ⟨rfl, (by repeat (with_reducible (first | exact Below.refl _ _ | assumption | refine bl_alloc ?_ _ | refine bl_drewN ?_ _ | refine bl_drew ?_ | refine bl_call ?_ (by assumption) | (refine bl_setCell ?_ _ (Nat.le_refl _)) | (refine bl_setCell ?_ _ (by first | omega | (simp; done) | (simp; omega))))))⟩
    · have U : clV n d = n / d := by unfold clV; rw [k, if_pos rfl, if_neg h2]
      rw [U]
      have m := m2 h2
      rw [m] at D
      clear k e d1 d2 d3 d4 m1 m2 U m
      generalize n / d = q at *
      go_enter Try.func23, Try.ntmps23
      go_wp2_with fail
      refine (K.out _).mono ?_
      rintro e w1 ⟨rfl, hb1⟩
      obtain ⟨hc1_0, hf1_0, hz1_0⟩ := own_stays hb1 (b := w.heap.size) (by first | (simp; done) | (simp; omega) | omega)
      go_wp2_with fail
      refine (D.out _).mono ?_
      rintro e w2 ⟨rfl, hb2⟩
      go_wp2_with fail
      go_ret2
      exact ⟨rfl, (by repeat (with_reducible (first | exact Below.refl _ _ | assumption | refine bl_alloc ?_ _ | refine bl_drewN ?_ _ | refine bl_drew ?_ | refine bl_call ?_ (by assumption) | (refine bl_setCell ?_ _ (Nat.le_refl _)) | (refine bl_setCell ?_ _ (by first | omega | (simp; done) | (simp; omega))))))⟩
end Go.Proofs.Ytkejohmghacdhaa
