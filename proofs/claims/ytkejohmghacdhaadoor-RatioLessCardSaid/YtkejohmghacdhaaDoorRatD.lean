/- Contracts of the reference's chapter 3. -/
import Derived.Test.YtkejohmghacdhaaDoorRatC
import Derived.Test.YtkejohmghacdhaaDoorRwK
import Derived.Test.YtkejohmghacdhaaDoorRefB
namespace Go.Proofs.YtkejohmghacdhaaDoor
set_option linter.unusedVariables false
set_option linter.unusedSimpArgs false
open Go.RowKit
theorem r3size (a : Int) (w : World) (ha : In a) :
    Calls Tryd.prog 63 #[.int .i64 a] w fun e w' => e = .returned (.int .u64 (a.natAbs : Nat)) ∧ w = w' := r1size a w ha
set_option maxRecDepth 100000 in
set_option maxHeartbeats 1000000 in
theorem r3common (X Y : Nat) (w : World) (hx : X < 18446744073709551616) (hy : Y < 18446744073709551616) :
    Calls Tryd.prog 64 #[.int .u64 (X : Int), .int .u64 (Y : Int)] w fun e w' => e = .returned (.int .u64 (Nat.gcd X Y : Nat)) ∧ Below w.heap.size w w' := by
  obtain ⟨g, hg⟩ : ∃ g, Nat.gcd X Y = g := ⟨_, rfl⟩
  rw [hg]
  have HG := Lib.hid hg
  clear hg
  go_enter Tryd.func64, Tryd.ntmps64
  go_wp2
  go_loop [0, 1] (fun u v => ∃ x y : Nat, x < 18446744073709551616 ∧ y < 18446744073709551616 ∧ u = .int .u64 (x : Int) ∧ v = .int .u64 (y : Int) ∧ Nat.gcd x y = g) (fun _ v => (intOf v).toNat)
  case atStart => exact ⟨X, Y, hx, hy, rfl, rfl, HG.out⟩
  case round =>
    obtain ⟨x, y, l1, l2, rfl, rfl, hg⟩ := hrel
    have HG := Lib.hid hg
    clear hg
    by_cases hy : y = 0
    · subst hy
      have e : x = g := by have := HG.out; rw [Nat.gcd_zero_right] at this; exact this
      subst e
      go_wp2
      go_ret
      exact ⟨rfl, Below.refl _ _⟩
    · have hy0 : 0 < y := by omega
      have hyb : ((y : Int) == 0) = false := by simp; omega
      have hm : x % y < y := Nat.mod_lt _ hy0
      have e : (x : Int).tmod (y : Int) = ((x % y : Nat) : Int) := by rw [Int.tmod_eq_emod_of_nonneg (by omega)]; rfl
      have e2 : (x : Int) % (y : Int) = ((x % y : Nat) : Int) := rfl
      have G := Lib.hid (gcd_rem (x := x) hy0)
      have hz : ¬ y = 0 := hy
      generalize x % y = z at *
      go_wp2
      go_round
      case rel => exact ⟨y, z, l2, by omega, rfl, by first | rfl | (congr 1; done), by rw [G.out]; exact HG.out⟩
      case measure => simp [intOf]; omega
set_option maxRecDepth 100000 in
set_option maxHeartbeats 2000000 in
theorem r3check (n d : Int) (w : World) (hn : In n) (hd : In d) :
    Calls Tryd.prog 58 #[ratA n d] w fun e w' => e = .returned (.int .i64 (ckR n d)) ∧ Below w.heap.size w w' := by
  by_cases h1 : d < 1
  · have e : ckB n d = false := decide_eq_false (fun h => by omega)
    have E := Lib.hid (ck_false e).2
    clear e hn hd
    go_enter Tryd.func58, Tryd.ntmps58
    go_wp2_with fail
    refine region_qb (fun W => W.cell? ⟨w.heap.size, 0, none⟩ = some (.int .i64 n) ∧ W.cell? ⟨w.heap.size, 1, none⟩ = some (.int .i64 d) ∧ Below w.heap.size w W) ⟨by go_simp, by go_simp, (by repeat (with_reducible (first | exact Below.refl _ _ | assumption | refine bl_alloc ?_ _ | refine bl_drewN ?_ _ | refine bl_drew ?_ | refine bl_call ?_ (by assumption) | (refine bl_setCell ?_ _ (Nat.le_refl _)) | (refine bl_setCell ?_ _ (by first | omega | (simp; done) | (simp; omega))))))⟩ (by kernel_rfl) (by kernel_rfl) ?_
    intro W ⟨k0, k1, hbW⟩
    replace k0 := rcell k0
    replace k1 := rcell k1
    repeat (first | go_big_quiet_step (fail) | quiet_step (fail))
    refine wpQuiet_nil ?_
    intro w2 hb2
    go_wp2
    go_ret
    exact ⟨ret_i E.out.symm, bl_call hbW hb2⟩
  · have hd0 : 0 ≤ d := by omega
    obtain ⟨D, rfl⟩ := Int.eq_ofNat_of_zero_le hd0
    have hD : D ≤ 9223372036854775807 := by unfold In at hd; omega
    have hNn : n.natAbs < 18446744073709551616 := by unfold In at hn; omega
    have S := Lib.hid (fun w => r3size n w hn)
    have C := Lib.hid (fun w => r3common n.natAbs D w hNn (by omega))
    have E1 : Nat.gcd n.natAbs D = 1 → ckR n (D : Int) = 0 := fun h => by
      unfold ckR ckB gN
      rw [Int.natAbs_natCast, if_pos (decide_eq_true ⟨by omega, h⟩)]
    have E2 : Nat.gcd n.natAbs D ≠ 1 → ckR n (D : Int) = 1 := fun h => by
      unfold ckR ckB gN
      rw [Int.natAbs_natCast, if_neg (by simp; intro _; exact h)]
    have hD2 : (D : Int) ≤ 9223372036854775807 := by omega
    have wD : IntKind.u64.wrap (D : Int) = (D : Int) := by rw [IntKind.wrap_u64]; omega
    clear hn hd hNn hD
    generalize n.natAbs = N at *
    generalize Nat.gcd N D = g at *
    by_cases hg : g = 1
    · have E := Lib.hid (E1 hg)
      subst hg
      clear E1 E2
      go_enter Tryd.func58, Tryd.ntmps58
      go_wp2_with fail
      refine region_qb (fun W => W.cell? ⟨w.heap.size, 0, none⟩ = some (.int .i64 n) ∧ W.cell? ⟨w.heap.size, 1, none⟩ = some (.int .i64 (D : Int)) ∧ Below w.heap.size w W) ⟨by go_simp, by go_simp, (by repeat (with_reducible (first | exact Below.refl _ _ | assumption | refine bl_alloc ?_ _ | refine bl_drewN ?_ _ | refine bl_drew ?_ | refine bl_call ?_ (by assumption) | (refine bl_setCell ?_ _ (Nat.le_refl _)) | (refine bl_setCell ?_ _ (by first | omega | (simp; done) | (simp; omega))))))⟩ (by kernel_rfl) (by kernel_rfl) ?_
      intro W ⟨k0, k1, hbW⟩
      replace k0 := rcell k0
      replace k1 := rcell k1
      repeat (first | go_big_quiet_step (first | with_reducible exact Calls.regrown_same (S.out _) | with_reducible exact Calls.regrown_of (C.out _)) | quiet_step (first | with_reducible exact Calls.regrown_same (S.out _) | with_reducible exact Calls.regrown_of (C.out _)))
      refine wpQuiet_nil ?_
      intro w2 hb2
      go_wp2
      go_ret
      exact ⟨ret_i E.out.symm, bl_call hbW hb2⟩
    · have g1 : ((g : Int) != 1) = true := by simp; omega
      have g2 : ((g : Int) == 1) = false := by simp; omega
      have E := Lib.hid (E2 hg)
      clear hg E1 E2
      go_enter Tryd.func58, Tryd.ntmps58
      go_wp2_with fail
      refine region_qb (fun W => W.cell? ⟨w.heap.size, 0, none⟩ = some (.int .i64 n) ∧ W.cell? ⟨w.heap.size, 1, none⟩ = some (.int .i64 (D : Int)) ∧ Below w.heap.size w W) ⟨by go_simp, by go_simp, (by repeat (with_reducible (first | exact Below.refl _ _ | assumption | refine bl_alloc ?_ _ | refine bl_drewN ?_ _ | refine bl_drew ?_ | refine bl_call ?_ (by assumption) | (refine bl_setCell ?_ _ (Nat.le_refl _)) | (refine bl_setCell ?_ _ (by first | omega | (simp; done) | (simp; omega))))))⟩ (by kernel_rfl) (by kernel_rfl) ?_
      intro W ⟨k0, k1, hbW⟩
      replace k0 := rcell k0
      replace k1 := rcell k1
      repeat (first | go_big_quiet_step (first | with_reducible exact Calls.regrown_same (S.out _) | with_reducible exact Calls.regrown_of (C.out _)) | quiet_step (first | with_reducible exact Calls.regrown_same (S.out _) | with_reducible exact Calls.regrown_of (C.out _)))
      refine wpQuiet_nil ?_
      intro w2 hb2
      go_wp2
      go_ret
      exact ⟨ret_i E.out.symm, bl_call hbW hb2⟩
set_option maxRecDepth 100000 in
set_option maxHeartbeats 1000000 in
theorem r3may (n d m c : Int) (w : World) (hn : In n) (hd : In d) (hm : In m) (hc : In c) :
    Calls Tryd.prog 30 #[ratA n d, ratA m c] w fun e w' => e = .returned (.int .i64 (cpE n d m c)) ∧ Below w.heap.size w w' := by
  have K1 := fun w => r3check n d w hn hd
  have K2 := fun w => r3check m c w hm hc
  cases k1 : ckB n d
  · rw [(ck_false k1).2] at K1
    have E := Lib.hid (show cpE n d m c = 1 by unfold cpE cpB; rw [k1]; rfl)
    have K1 := Lib.hid K1
    clear k1 K2
    go_enter Tryd.func30, Tryd.ntmps30
    go_wp2_with fail
    refine (K1.out _).mono ?_
    rintro e w1 ⟨rfl, hb1⟩
    obtain ⟨hc1_0, hf1_0, hz1_0⟩ := own_stays hb1 (b := w.heap.size) (by first | (simp; done) | (simp; omega) | omega)
    obtain ⟨hc1_1, hf1_1, hz1_1⟩ := own_stays hb1 (b := w.heap.size + 1) (by first | (simp; done) | (simp; omega) | omega)
    go_wp2_with fail
    go_ret
    exact ⟨ret_i E.out.symm, (by repeat (with_reducible (first | exact Below.refl _ _ | assumption | refine bl_alloc ?_ _ | refine bl_drewN ?_ _ | refine bl_drew ?_ | refine bl_call ?_ (by assumption) | (refine bl_setCell ?_ _ (Nat.le_refl _)) | (refine bl_setCell ?_ _ (by first | omega | (simp; done) | (simp; omega))))))⟩
  rw [(ck_true k1).2.2] at K1
  have K1 := Lib.hid K1
  cases k2 : ckB m c
  · rw [(ck_false k2).2] at K2
    have E := Lib.hid (show cpE n d m c = 1 by unfold cpE cpB; rw [k1, k2]; rfl)
    have K2 := Lib.hid K2
    clear k1 k2
    go_enter Tryd.func30, Tryd.ntmps30
    go_wp2_with fail
    refine (K1.out _).mono ?_
    rintro e w1 ⟨rfl, hb1⟩
    obtain ⟨hc1_0, hf1_0, hz1_0⟩ := own_stays hb1 (b := w.heap.size) (by first | (simp; done) | (simp; omega) | omega)
    obtain ⟨hc1_1, hf1_1, hz1_1⟩ := own_stays hb1 (b := w.heap.size + 1) (by first | (simp; done) | (simp; omega) | omega)
    go_wp2_with fail
    refine (K2.out _).mono ?_
    rintro e w2 ⟨rfl, hb2⟩
    go_wp2_with fail
    go_ret
    exact ⟨ret_i E.out.symm, (by repeat (with_reducible (first | exact Below.refl _ _ | assumption | refine bl_alloc ?_ _ | refine bl_drewN ?_ _ | refine bl_drew ?_ | refine bl_call ?_ (by assumption) | (refine bl_setCell ?_ _ (Nat.le_refl _)) | (refine bl_setCell ?_ _ (by first | omega | (simp; done) | (simp; omega))))))⟩
  · rw [(ck_true k2).2.2] at K2
    have E := Lib.hid (show cpE n d m c = 0 by unfold cpE cpB; rw [k1, k2]; rfl)
    have K2 := Lib.hid K2
    clear k1 k2
    go_enter Tryd.func30, Tryd.ntmps30
    go_wp2_with fail
    refine (K1.out _).mono ?_
    rintro e w1 ⟨rfl, hb1⟩
    obtain ⟨hc1_0, hf1_0, hz1_0⟩ := own_stays hb1 (b := w.heap.size) (by first | (simp; done) | (simp; omega) | omega)
    obtain ⟨hc1_1, hf1_1, hz1_1⟩ := own_stays hb1 (b := w.heap.size + 1) (by first | (simp; done) | (simp; omega) | omega)
    go_wp2_with fail
    refine (K2.out _).mono ?_
    rintro e w2 ⟨rfl, hb2⟩
    go_wp2_with fail
    go_ret
    exact ⟨ret_i E.out.symm, (by repeat (with_reducible (first | exact Below.refl _ _ | assumption | refine bl_alloc ?_ _ | refine bl_drewN ?_ _ | refine bl_drew ?_ | refine bl_call ?_ (by assumption) | (refine bl_setCell ?_ _ (Nat.le_refl _)) | (refine bl_setCell ?_ _ (by first | omega | (simp; done) | (simp; omega))))))⟩
theorem rem_pos {n d : Int} (h : ckB n d = true) : (1 < d → 0 < n % d) ∧ (¬ 1 < d → n % d = 0) := by
  obtain ⟨h1, h2, _⟩ := ck_true h
  refine ⟨fun h3 => ?_, fun h3 => ?_⟩
  · have r0 := Int.emod_nonneg n (show d ≠ 0 by omega)
    apply Classical.byContradiction
    intro hr
    have hz : n % d = 0 := by omega
    have hd : d ∣ n := Int.dvd_of_emod_eq_zero hz
    have hn := Int.natAbs_dvd_natAbs.2 hd
    have : Nat.gcd n.natAbs d.natAbs = d.natAbs := Nat.gcd_eq_right hn
    unfold gN at h2
    omega
  · have : d = 1 := by omega
    subst this; omega
end Go.Proofs.YtkejohmghacdhaaDoor
