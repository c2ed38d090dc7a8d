/- Contracts of the reference's chapter 1. -/
import Derived.Test.YtnjjihlknkmllaaDoorGcdA
import Derived.Deep.QuietTactic
namespace Go.Proofs.YtnjjihlknkmllaaDoor
set_option linter.unusedVariables false
set_option linter.unusedSimpArgs false
open Go.RowKit
theorem ret_over {v : Int} (h : ¬ In v) : Ending.returned (.tuple #[.int .i64 0, .int .i64 2]) = .returned (.tuple #[.int .i64 (capN v), .int .i64 (errN v)]) := ret_ii (capN_over (fitB_not h)).symm (errN_over (fitB_not h)).symm
theorem ret_fit {r v : Int} (h : In v) (e : r = v) : Ending.returned (.tuple #[.int .i64 r, .int .i64 0]) = .returned (.tuple #[.int .i64 (capN v), .int .i64 (errN v)]) := ret_ii (by rw [capN_fit (fitB_of h), e]) (errN_fit (fitB_of h)).symm
set_option maxHeartbeats 1000000 in
theorem r1add (a b : Int) (w : World) (ha : In a) (hb : In b) :
    Calls Tryd.prog 11 #[.int .i64 a, .int .i64 b] w fun e w' => e = .returned (.tuple #[.int .i64 (capN (a + b)), .int .i64 (errN (a + b))]) ∧ w = w' := by
  have HA := Lib.hid ha
  have HB := Lib.hid hb
  unfold In at ha hb
  obtain ⟨a0, a1⟩ := ha
  obtain ⟨b0, b1⟩ := hb
  by_cases h0 : 0 < b
  · by_cases h1 : 9223372036854775807 - b < a
    · go_enter Tryd.func11, Tryd.ntmps11
      go_wp2
      go_ret2
      exact ⟨ret_over (by unfold In; omega), rfl⟩
    · have h2 : ¬ b < 0 := by omega
      go_enter Tryd.func11, Tryd.ntmps11
      go_wp2
      go_ret2
      exact ⟨ret_fit (by unfold In; omega) rfl, rfl⟩
  · by_cases h3 : b < 0
    · by_cases h1 : a < -9223372036854775808 - b
      · go_enter Tryd.func11, Tryd.ntmps11
        go_wp2
        go_ret2
        exact ⟨ret_over (by unfold In; omega), rfl⟩
      · go_enter Tryd.func11, Tryd.ntmps11
        go_wp2
        go_ret2
        exact ⟨ret_fit (by unfold In; omega) rfl, rfl⟩
    · go_enter Tryd.func11, Tryd.ntmps11
      go_wp2
      go_ret2
      exact ⟨ret_fit (by unfold In; omega) rfl, rfl⟩
set_option maxHeartbeats 1000000 in
theorem r1sub (a b : Int) (w : World) (ha : In a) (hb : In b) :
    Calls Tryd.prog 13 #[.int .i64 a, .int .i64 b] w fun e w' => e = .returned (.tuple #[.int .i64 (capN (a - b)), .int .i64 (errN (a - b))]) ∧ w = w' := by
  unfold In at ha hb
  obtain ⟨a0, a1⟩ := ha
  obtain ⟨b0, b1⟩ := hb
  by_cases h3 : b < 0
  · by_cases h1 : 9223372036854775807 + b < a
    · go_enter Tryd.func13, Tryd.ntmps13
      go_wp2
      go_ret2
      exact ⟨ret_over (by unfold In; omega), rfl⟩
    · have h2 : ¬ 0 < b := by omega
      go_enter Tryd.func13, Tryd.ntmps13
      go_wp2
      go_ret2
      exact ⟨ret_fit (by unfold In; omega) rfl, rfl⟩
  · by_cases h0 : 0 < b
    · by_cases h1 : a < -9223372036854775808 + b
      · go_enter Tryd.func13, Tryd.ntmps13
        go_wp2
        go_ret2
        exact ⟨ret_over (by unfold In; omega), rfl⟩
      · go_enter Tryd.func13, Tryd.ntmps13
        go_wp2
        go_ret2
        exact ⟨ret_fit (by unfold In; omega) rfl, rfl⟩
    · go_enter Tryd.func13, Tryd.ntmps13
      go_wp2
      go_ret2
      exact ⟨ret_fit (by unfold In; omega) rfl, rfl⟩
set_option maxHeartbeats 400000 in
theorem r1neg (a : Int) (w : World) (ha : In a) :
    Calls Tryd.prog 16 #[.int .i64 a] w fun e w' => e = .returned (.tuple #[.int .i64 (capN (-a)), .int .i64 (errN (-a))]) ∧ w = w' := by
  unfold In at ha
  obtain ⟨a0, a1⟩ := ha
  by_cases h : a = -9223372036854775808
  · subst h
    go_enter Tryd.func16, Tryd.ntmps16
    go_wp2
    go_ret2
    exact ⟨ret_over (by unfold In; omega), rfl⟩
  · have h1 : (a == -9223372036854775808) = false := by simpa using h
    go_enter Tryd.func16, Tryd.ntmps16
    go_wp2
    go_ret2
    exact ⟨ret_fit (by unfold In; omega) rfl, rfl⟩
set_option maxHeartbeats 400000 in
theorem r1size (a : Int) (w : World) (ha : In a) :
    Calls Tryd.prog 23 #[.int .i64 a] w fun e w' => e = .returned (.int .u64 (absI a)) ∧ w = w' := by
  have T := Lib.hid (show absI a = (a.natAbs : Int) from rfl)
  unfold In at ha
  obtain ⟨h1, h2⟩ := ha
  by_cases h : a < 0
  · have e : IntKind.u64.wrap (-(a + 1)) = -(a + 1) := by rw [IntKind.wrap_u64]; omega
    go_enter Tryd.func23, Tryd.ntmps23
    go_wp2
    go_ret
    exact ⟨ret_u (by rw [T.out]; omega), rfl⟩
  · go_enter Tryd.func23, Tryd.ntmps23
    go_wp2
    go_ret
    exact ⟨ret_u (by rw [T.out]; omega), rfl⟩
set_option maxHeartbeats 1000000 in
theorem r1signed (n : Int) (b : Bool) (w : World) (hn : InU n) :
    Calls Tryd.prog 24 #[.int .u64 n, .bool b] w fun e w' => e = .returned (.tuple #[.int .i64 (capN (sgn b n)), .int .i64 (errN (sgn b n))]) ∧ w = w' := by
  unfold InU at hn
  obtain ⟨n0, n1⟩ := hn
  have T := Lib.hid (show ∀ b v, sgn b v = if b = true then -v else v from fun _ _ => rfl)
  by_cases h1 : n = 9223372036854775808
  · subst h1
    cases b
    · go_enter Tryd.func24, Tryd.ntmps24
      go_wp2
      go_ret2
      exact ⟨ret_over (by rw [sgn_false]; unfold In; omega), rfl⟩
    · go_enter Tryd.func24, Tryd.ntmps24
      go_wp2
      go_ret2
      exact ⟨ret_fit (by rw [sgn_true]; unfold In; omega) (by rw [sgn_true]), rfl⟩
  · have h2 : (n == 9223372036854775808) = false := by simpa using h1
    by_cases h3 : 9223372036854775807 < n
    · cases b
      all_goals
        go_enter Tryd.func24, Tryd.ntmps24
        go_wp2
        go_ret2
        exact ⟨ret_over (by first | rw [sgn_false] | rw [sgn_true]
                            unfold In; omega), rfl⟩
    · have h4 : n ≤ 9223372036854775807 := by omega
      cases b
      all_goals
        go_enter Tryd.func24, Tryd.ntmps24
        go_wp2
        go_ret2
        exact ⟨ret_fit (by first | rw [sgn_false] | rw [sgn_true]
                           unfold In; omega) (by first | rw [sgn_false] | rw [sgn_true]), rfl⟩
theorem gcd_rem {x y : Nat} (h : 0 < y) : Nat.gcd y (x % y) = Nat.gcd x y := by
  rw [Nat.gcd_comm x y, Nat.gcd_rec y x, Nat.gcd_comm]
set_option maxRecDepth 100000 in
set_option maxHeartbeats 1000000 in
theorem r1gcd (a b : Int) (w : World) (ha : In a) (hb : In b) :
    Calls Tryd.prog 18 #[.int .i64 a, .int .i64 b] w fun e w' => e = .returned (.tuple #[.int .i64 (capN (gI a b)), .int .i64 (errN (gI a b))]) ∧ Below w.heap.size w w' := by
  obtain ⟨X, hX⟩ : ∃ X, a.natAbs = X := ⟨_, rfl⟩
  obtain ⟨Y, hY⟩ : ∃ Y, b.natAbs = Y := ⟨_, rfl⟩
  have sa := fun w => r1size a w ha
  have sb := fun w => r1size b w hb
  have lX : X ≤ 9223372036854775808 := by unfold In at ha; omega
  have lY : Y ≤ 9223372036854775808 := by unfold In at hb; omega
  unfold absI at sa sb
  rw [hX] at sa
  rw [hY] at sb
  have SA := Lib.hid sa
  have SB := Lib.hid sb
  have hg : gI a b = (Nat.gcd X Y : Int) := by unfold gI; rw [hX, hY]
  rw [hg]
  clear sa sb hX hY hg ha hb
  obtain ⟨g, hg⟩ : ∃ g, Nat.gcd X Y = g := ⟨_, rfl⟩
  rw [hg]
  have HG := Lib.hid hg
  clear hg
  go_enter Tryd.func18, Tryd.ntmps18
  go_wp2_with fail
  refine (SA.out _).mono ?_
  rintro e1 w1 ⟨rfl, rfl⟩
  go_wp2_with fail
  refine (SB.out _).mono ?_
  rintro e1 w1 ⟨rfl, rfl⟩
  go_wp2
  go_loopw [6, 7] (fun u v wr => ∃ x y : Nat, x ≤ 9223372036854775808 ∧ y ≤ 9223372036854775808 ∧ u = .int .u64 (x : Int) ∧ v = .int .u64 (y : Int) ∧ Nat.gcd x y = g ∧ Below w.heap.size w wr) (fun _ v _ => (intOf v).toNat)
  case atStart => exact ⟨X, Y, lX, lY, rfl, rfl, HG.out, (by repeat (with_reducible (first | exact Below.refl _ _ | assumption | refine bl_alloc ?_ _ | refine bl_drewN ?_ _ | refine bl_drew ?_ | refine bl_call ?_ (by assumption) | (refine bl_setCell ?_ _ (Nat.le_refl _)) | (refine bl_setCell ?_ _ (by simp)))))⟩
  case round =>
    obtain ⟨x, y, l1, l2, rfl, rfl, hg, hb⟩ := hrel
    have HG := Lib.hid hg
    have HB := Lib.hid hb
    clear hg hb
    by_cases hy : y = 0
    · subst hy
      have e : x = g := by have := HG.out; rw [Nat.gcd_zero_right] at this; exact this
      subst e
      have SG := fun w => r1signed (x : Int) false w (by unfold InU; omega)
      rw [sgn_false] at SG
      have SG := Lib.hid SG
      go_wp2_with fail
      refine (SG.out _).mono ?_
      rintro e1 w1 ⟨rfl, rfl⟩
      go_wp2
      go_ret2
      exact ⟨rfl, HB.out⟩
    · have hy0 : 0 < y := by omega
      have hyb : ((y : Int) == 0) = false := by simp; omega
      have hm : x % y < y := Nat.mod_lt _ hy0
      have e : (x : Int).tmod (y : Int) = ((x % y : Nat) : Int) := by rw [Int.tmod_eq_emod_of_nonneg (by omega)]; rfl
      have e2 : (x : Int) % (y : Int) = ((x % y : Nat) : Int) := rfl
      have G := Lib.hid (gcd_rem (x := x) hy0)
      clear hy
      generalize x % y = z at *
      go_wp2_with fail
      go_quiet (fail)
      go_wp2
      go_roundw
      case rel => exact ⟨y, z, l2, by omega, rfl, by first | rfl | (congr 1; done), by rw [G.out]; exact HG.out, by have := HB.out; exact (by repeat (with_reducible (first | exact Below.refl _ _ | assumption | refine bl_alloc ?_ _ | refine bl_drewN ?_ _ | refine bl_drew ?_ | refine bl_call ?_ (by assumption) | (refine bl_setCell ?_ _ (Nat.le_refl _)) | (refine bl_setCell ?_ _ (by first | omega | (simp; done) | (simp; omega))))))⟩
      case measure => simp [intOf]; omega
end Go.Proofs.YtnjjihlknkmllaaDoor
