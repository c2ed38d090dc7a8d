/- Contracts of the package ratio. -/
import Derived.Test.YtkejohmghacdhaaDoorMathR
import Derived.Test.YtkejohmghacdhaaDoorWideC
import Derived.Test.YtkejohmghacdhaaDoorKitT
import Derived.Deep.QuietTactic
namespace Go.Proofs.YtkejohmghacdhaaDoor
set_option linter.unusedVariables false
set_option linter.unusedSimpArgs false
open Go.RowKit
set_option maxHeartbeats 400000 in
theorem rat_size (a : Int) (w : World) (ha : In a) :
    Calls Tryd.prog 29 #[.int .i64 a] w fun e w' => e = .returned (.int .u64 (a.natAbs : Nat)) ∧ w = w' := by
  go_enter Tryd.func29, Tryd.ntmps29
  go_wp2
  · have h : a < 0 := by assumption
    go_ret
    exact ⟨ret_u (by unfold In at ha; simp only [IntKind.wrap_u64]; omega), rfl⟩
  · have h : 0 ≤ a := by assumption
    go_ret
    exact ⟨ret_u (by unfold In at ha; simp only [IntKind.wrap_u64]; omega), rfl⟩
theorem gcd_rem {x y : Nat} (h : 0 < y) : Nat.gcd y (x % y) = Nat.gcd x y := by
  rw [Nat.gcd_comm x y, Nat.gcd_rec y x, Nat.gcd_comm]
set_option maxRecDepth 100000 in
set_option maxHeartbeats 1000000 in
theorem rat_common (X Y : Nat) (w : World) (hx : X < 18446744073709551616) (hy : Y < 18446744073709551616) :
    Calls Tryd.prog 52 #[.int .u64 (X : Int), .int .u64 (Y : Int)] w fun e w' => e = .returned (.int .u64 (Nat.gcd X Y : Nat)) ∧ Below w.heap.size w w' := by
  obtain ⟨g, hg⟩ : ∃ g, Nat.gcd X Y = g := ⟨_, rfl⟩
  rw [hg]
  have HG := Lib.hid hg
  clear hg
  go_enter Tryd.func52, Tryd.ntmps52
  go_wp2
  go_loopw [0, 1] (fun u v wr => ∃ x y : Nat, x < 18446744073709551616 ∧ y < 18446744073709551616 ∧ u = .int .u64 (x : Int) ∧ v = .int .u64 (y : Int) ∧ Nat.gcd x y = g ∧ Below w.heap.size w wr) (fun _ v _ => (intOf v).toNat)
  case atStart => exact ⟨X, Y, hx, hy, rfl, rfl, HG.out, Below.refl _ _⟩
  case round =>
    obtain ⟨x, y, l1, l2, rfl, rfl, hg, hb⟩ := hrel
    have HG := Lib.hid hg
    have HB := Lib.hid hb
    clear hg hb
    by_cases hy : y = 0
    · subst hy
      have e : x = g := by have := HG.out; rw [Nat.gcd_zero_right] at this; exact this
      subst e
      go_wp2
      go_ret
      exact ⟨rfl, HB.out⟩
    · have hy0 : 0 < y := by omega
      have hyb : ((y : Int) == 0) = false := by simp; omega
      have hm : x % y < y := Nat.mod_lt _ hy0
      have e : (x : Int).tmod (y : Int) = ((x % y : Nat) : Int) := by rw [Int.tmod_eq_emod_of_nonneg (by omega)]; rfl
      have e2 : (x : Int) % (y : Int) = ((x % y : Nat) : Int) := rfl
      have G := Lib.hid (gcd_rem (x := x) hy0)
      have hy1 : (0 : Int) < (y : Int) := by omega
      clear hy
      generalize x % y = z at *
      go_wp2_with fail
      go_quiet (fail)
      go_wp2
      go_roundw
      case rel => exact ⟨y, z, l2, by omega, rfl, by first | rfl | (congr 1; done), by rw [G.out]; exact HG.out, by have := HB.out; exact (by repeat (with_reducible (first | exact Below.refl _ _ | assumption | refine bl_alloc ?_ _ | refine bl_drewN ?_ _ | refine bl_drew ?_ | refine bl_call ?_ (by assumption) | (refine bl_setCell ?_ _ (Nat.le_refl _)) | (refine bl_setCell ?_ _ (by first | omega | (simp; done) | (simp; omega))))))⟩
      case measure => simp [intOf]; omega
theorem ret_re {a b c d x y : Int} (h1 : a = c) (h2 : b = d) (h3 : x = y) : Ending.returned (.tuple #[ratA a b, .int .i64 x]) = .returned (.tuple #[ratA c d, .int .i64 y]) := by rw [h1, h2, h3]
set_option maxHeartbeats 2000000 in
theorem made_ok (b : Bool) (n d : Int) (w : World) (hn : 0 ≤ n) (hd : 0 ≤ d) (h1 : d ≤ 9223372036854775807) (h2 : n ≤ 9223372036854775807 ∨ (n ≤ 9223372036854775808 ∧ b = true)) :
    Calls Tryd.prog 53 #[.bool b, .int .u64 n, .int .u64 d, .int .u64 0] w fun e w' => e = .returned (.tuple #[ratA (sgn b n) d, .int .i64 0]) ∧ Below w.heap.size w w' := by
  have T := Lib.hid (show ∀ b v, sgn b v = if b = true then -v else v from fun _ _ => rfl)
  cases b
  · have h3 : n ≤ 9223372036854775807 := by rcases h2 with h | ⟨_, h⟩; exact h; cases h
    clear h2
    go_enter Tryd.func53, Tryd.ntmps53
    go_wp2
    refine bodyPost_ret (v := .tuple #[ratA n d, .int .i64 0]) (by simp [results, Tryd.results53, go_sem]) rfl ⟨ret_re (by rw [sgn_false]) rfl rfl, ?_⟩
    exact (by repeat (with_reducible (first | exact Below.refl _ _ | assumption | refine bl_alloc ?_ _ | refine bl_drewN ?_ _ | refine bl_drew ?_ | refine bl_call ?_ (by assumption) | (refine bl_setCell ?_ _ (Nat.le_refl _)) | (refine bl_setCell ?_ _ (by first | omega | (simp; done) | (simp; omega))))))
  · have h3 : n ≤ 9223372036854775808 := by rcases h2 with h | ⟨h, _⟩ <;> omega
    clear h2
    have W := Lib.hid (show wrap64 (IntKind.u64.wrap (-n)) = -n by rw [IntKind.wrap_u64]; unfold wrap64; omega)
    go_enter Tryd.func53, Tryd.ntmps53
    go_wp2
    all_goals
      refine bodyPost_ret (v := .tuple #[ratA (wrap64 (IntKind.u64.wrap (-n))) d, .int .i64 0]) (by simp [results, Tryd.results53, go_sem]) rfl ⟨ret_re (by rw [sgn_true, W.out]) rfl rfl, ?_⟩
      exact (by repeat (with_reducible (first | exact Below.refl _ _ | assumption | refine bl_alloc ?_ _ | refine bl_drewN ?_ _ | refine bl_drew ?_ | refine bl_call ?_ (by assumption) | (refine bl_setCell ?_ _ (Nat.le_refl _)) | (refine bl_setCell ?_ _ (by first | omega | (simp; done) | (simp; omega))))))
set_option maxHeartbeats 2000000 in
theorem made_over (b : Bool) (n d h : Int) (w : World) (hn : 0 ≤ n) (hd : 0 ≤ d) (hh : 0 ≤ h) (hc : 0 < h ∨ 9223372036854775807 < d ∨ 9223372036854775808 < n ∨ (9223372036854775807 < n ∧ b = false)) :
    Calls Tryd.prog 53 #[.bool b, .int .u64 n, .int .u64 d, .int .u64 h] w fun e w' => e = .returned (.tuple #[ratA 0 0, .int .i64 2]) ∧ Below w.heap.size w w' := by
  by_cases c1 : 0 < h
  · go_enter Tryd.func53, Tryd.ntmps53
    go_wp2
    refine bodyPost_ret (v := .tuple #[ratA 0 0, .int .i64 2]) (by simp [results, Tryd.results53, go_sem]) rfl ⟨rfl, ?_⟩
    exact (by repeat (with_reducible (first | exact Below.refl _ _ | assumption | refine bl_alloc ?_ _ | refine bl_drewN ?_ _ | refine bl_drew ?_ | refine bl_call ?_ (by assumption) | (refine bl_setCell ?_ _ (Nat.le_refl _)) | (refine bl_setCell ?_ _ (by first | omega | (simp; done) | (simp; omega))))))
  by_cases c2 : 9223372036854775807 < d
  · go_enter Tryd.func53, Tryd.ntmps53
    go_wp2
    refine bodyPost_ret (v := .tuple #[ratA 0 0, .int .i64 2]) (by simp [results, Tryd.results53, go_sem]) rfl ⟨rfl, ?_⟩
    exact (by repeat (with_reducible (first | exact Below.refl _ _ | assumption | refine bl_alloc ?_ _ | refine bl_drewN ?_ _ | refine bl_drew ?_ | refine bl_call ?_ (by assumption) | (refine bl_setCell ?_ _ (Nat.le_refl _)) | (refine bl_setCell ?_ _ (by first | omega | (simp; done) | (simp; omega))))))
  by_cases c3 : 9223372036854775808 < n
  · go_enter Tryd.func53, Tryd.ntmps53
    go_wp2
    refine bodyPost_ret (v := .tuple #[ratA 0 0, .int .i64 2]) (by simp [results, Tryd.results53, go_sem]) rfl ⟨rfl, ?_⟩
    exact (by repeat (with_reducible (first | exact Below.refl _ _ | assumption | refine bl_alloc ?_ _ | refine bl_drewN ?_ _ | refine bl_drew ?_ | refine bl_call ?_ (by assumption) | (refine bl_setCell ?_ _ (Nat.le_refl _)) | (refine bl_setCell ?_ _ (by first | omega | (simp; done) | (simp; omega))))))
  · have c4 : 9223372036854775807 < n ∧ b = false := by
      rcases hc with h | h | h | h
      · exact absurd h c1
      · exact absurd h c2
      · exact absurd h c3
      · exact h
    obtain ⟨c4, rfl⟩ := c4
    clear hc
    go_enter Tryd.func53, Tryd.ntmps53
    go_wp2
    refine bodyPost_ret (v := .tuple #[ratA 0 0, .int .i64 2]) (by simp [results, Tryd.results53, go_sem]) rfl ⟨rfl, ?_⟩
    exact (by repeat (with_reducible (first | exact Below.refl _ _ | assumption | refine bl_alloc ?_ _ | refine bl_drewN ?_ _ | refine bl_drew ?_ | refine bl_call ?_ (by assumption) | (refine bl_setCell ?_ _ (Nat.le_refl _)) | (refine bl_setCell ?_ _ (by first | omega | (simp; done) | (simp; omega))))))
end Go.Proofs.YtkejohmghacdhaaDoor
