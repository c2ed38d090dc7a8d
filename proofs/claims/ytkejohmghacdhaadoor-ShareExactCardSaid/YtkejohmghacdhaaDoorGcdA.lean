/- Contracts: math/bits.TrailingZeros64, whole.Gcd. -/
import Derived.Test.YtkejohmghacdhaaDoorWhole
import Derived.Test.YtkejohmghacdhaaDoorMathQ
import Derived.Shelf.Spec.TrailingZeros
namespace Go.Proofs.YtkejohmghacdhaaDoor
set_option linter.unusedVariables false
set_option linter.unusedSimpArgs false
open Go.RowKit
/-- The library's table lies in its variable. -/
def Tab (w : World) : Prop := ∀ j, j < 64 → w.cell? ⟨0, j, none⟩ = some (.int .u8 (Lib.deBruijn64tab.getD j 0))
theorem Tab.go {w w' : World} (h : Tab w) (hb : Below w.heap.size w w') : Tab w' := fun j hj => by
  have := h j hj
  exact (hb.cell (p := ⟨0, j, none⟩) (World.block_lt_of_cell? w _ this)).trans this
set_option maxHeartbeats 1000000 in
theorem tz_core (x : Int) (k idx : Nat) (w : World) (hx0 : (x == 0) = false)
    (key : IntKind.u64.wrap (bits BinOp.and IntKind.u64 x (IntKind.u64.wrap (-x)) * 285870213051353865) / 288230376151711744 = (idx : Int)) (hi : idx < 64) (hk : k < 64) (hcell : w.cell? ⟨0, idx, none⟩ = some (.int .u8 k)) :
    Calls Tryd.prog 78 #[.int .u64 x] w fun e w' => e = .returned (.int .i64 k) ∧ w = w' := by
  go_enter Tryd.func78, Tryd.ntmps78
  go_wp2_with (simp only [key])
  go_ret
  exact ⟨rfl, rfl⟩
theorem tz_any (x : Nat) (w : World) (h0 : 0 < x) (hx : x < 18446744073709551616) (hT : Tab w) :
    Calls Tryd.prog 78 #[.int .u64 x] w fun e w' => e = .returned (.int .i64 (Lib.ctz 64 x)) ∧ w = w' := by
  obtain ⟨hlow, hk⟩ := Lib.lowest_bit 64 x (by omega) hx
  obtain ⟨hi, htab⟩ := Lib.deBruijn64_at _ hk
  exact tz_core x (Lib.ctz 64 x) _ w (by simp; omega) (tz64_key x _ hx (by omega) hlow) hi hk (by rw [hT _ hi, htab])
/-- what divides both -/
def gI (a b : Int) : Int := (Nat.gcd a.natAbs b.natAbs : Int)
theorem or_zero_left (y : Nat) (h : y < 18446744073709551616) : bits BinOp.or IntKind.u64 0 (y : Int) = (y : Int) := by
  have := bits_or_u64_nat 0 y (by omega) h
  simpa using this
set_option maxRecDepth 100000 in
set_option maxHeartbeats 1000000 in
theorem whole_gcd (a b : Int) (w : World) (ha : In a) (hb : In b) (hT : Tab w) :
    Calls Tryd.prog 54 #[.int .i64 a, .int .i64 b] w fun e w' => e = .returned (.tuple #[.int .i64 (capN (gI a b)), .int .i64 (errN (gI a b))]) ∧ w = w' := by
  obtain ⟨X, hX⟩ : ∃ X, a.natAbs = X := ⟨_, rfl⟩
  obtain ⟨Y, hY⟩ : ∃ Y, b.natAbs = Y := ⟨_, rfl⟩
  have sa := fun w => whole_size a w ha
  have sb := fun w => whole_size b w hb
  have lX : X ≤ 9223372036854775808 := by unfold In at ha; omega
  have lY : Y ≤ 9223372036854775808 := by unfold In at hb; omega
  unfold absI at sa sb
  rw [hX] at sa
  rw [hY] at sb
  have SA := Lib.hid sa
  have SB := Lib.hid sb
  have TT := Lib.hid hT
  have hg : gI a b = (Nat.gcd X Y : Int) := by unfold gI; rw [hX, hY]
  rw [hg]
  clear sa sb hX hY hT hg ha hb
  by_cases hz : X = 0 ∨ Y = 0
  · have e : bits BinOp.or IntKind.u64 (X : Int) (Y : Int) = (Nat.gcd X Y : Int) := by
      rw [bits_or_u64_nat X Y (by omega) (by omega)]
      rcases hz with rfl | rfl <;> simp
    have lg : Nat.gcd X Y ≤ 9223372036854775808 := by rcases hz with rfl | rfl <;> simp <;> assumption
    have SG := fun w => whole_signed 0 (Nat.gcd X Y : Int) false w (by unfold InU; omega) (by unfold InU; omega)
    rw [sgn_false, Int.zero_mul, Int.zero_add] at SG
    have SG := Lib.hid SG
    generalize Nat.gcd X Y = g at *
    by_cases h0 : X = 0
    · have h1 : ((X : Int) == 0) = true := by simp; omega
      clear hz h0 lX lY lg
      go_enter Tryd.func54, Tryd.ntmps54
      go_wp2_with fail
      refine (SA.out _).mono ?_
      rintro e1 w1 ⟨rfl, rfl⟩
      go_wp2_with fail
      refine (SB.out _).mono ?_
      rintro e1 w1 ⟨rfl, rfl⟩
      go_wp2_with fail
      refine (SG.out _).mono ?_
      rintro e1 w1 ⟨rfl, rfl⟩
      go_wp2
      go_ret2
      exact ⟨rfl, rfl⟩
    · have h1 : ((X : Int) == 0) = false := by simp; omega
      have h2 : ((Y : Int) == 0) = true := by simp; omega
      clear hz h0 lX lY lg
      go_enter Tryd.func54, Tryd.ntmps54
      go_wp2_with fail
      refine (SA.out _).mono ?_
      rintro e1 w1 ⟨rfl, rfl⟩
      go_wp2_with fail
      refine (SB.out _).mono ?_
      rintro e1 w1 ⟨rfl, rfl⟩
      go_wp2_with fail
      refine (SG.out _).mono ?_
      rintro e1 w1 ⟨rfl, rfl⟩
      go_wp2
      go_ret2
      exact ⟨rfl, rfl⟩
  have hX0 : 0 < X := by omega
  have hY0 : 0 < Y := by omega
  have h1 : ((X : Int) == 0) = false := by simp; omega
  have h2 : ((Y : Int) == 0) = false := by simp; omega
  have e : bits BinOp.or IntKind.u64 (X : Int) (Y : Int) = ((X ||| Y : Nat) : Int) := bits_or_u64_nat X Y (by omega) (by omega)
  have lo : X ||| Y < 18446744073709551616 := Nat.or_lt_two_pow (n := 64) (by omega) (by omega)
  have lo0 : 0 < X ||| Y := by
    rcases Nat.eq_zero_or_pos (X ||| Y) with h | h
    · have := (Nat.or_eq_zero_iff.1 h).1; omega
    · exact h
  obtain ⟨g1, g2, g3, g4, g5⟩ := gcd_start hX0 hY0 (by omega) (by omega)
  have T1 := Lib.hid (fun w h => tz_any (X ||| Y) w lo0 lo h)
  have T2 := Lib.hid (fun w h => tz_any X w hX0 (by omega) h)
  have lg : Nat.gcd X Y ≤ 9223372036854775808 := by have := Nat.le_of_dvd hX0 (Nat.gcd_dvd_left X Y); omega
  generalize X ||| Y = O at *
  generalize Lib.ctz 64 O = t at *
  generalize Lib.ctz 64 X = p at *
  have SG := fun w => whole_signed 0 (Nat.gcd X Y : Int) false w (by unfold InU; omega) (by unfold InU; omega)
  rw [sgn_false, Int.zero_mul, Int.zero_add] at SG
  have SG := Lib.hid SG
  have hd : (X : Int) / 2 ^ p = ((X / 2 ^ p : Nat) : Int) := by rw [Int.natCast_ediv, Int.natCast_pow]; rfl
  have G5 := Lib.hid g5
  clear g5 hz
  obtain ⟨x0, hx0⟩ : ∃ x0, X / 2 ^ p = x0 := ⟨_, rfl⟩
  have G5 := G5.out
  rw [hx0] at G5 g3 g4 hd
  have G5 := Lib.hid G5
  clear hx0
  have LG := Lib.hid lg
  generalize Nat.gcd X Y = g at *
  go_enter Tryd.func54, Tryd.ntmps54
  go_wp2_with fail
  refine (SA.out _).mono ?_
  rintro e1 w1 ⟨rfl, rfl⟩
  go_wp2_with fail
  refine (SB.out _).mono ?_
  rintro e1 w1 ⟨rfl, rfl⟩
  go_wp2_with fail
  refine (T1.out _ TT.out).mono ?_
  rintro e1 w1 ⟨rfl, rfl⟩
  go_wp2_with fail
  refine (T2.out _ TT.out).mono ?_
  rintro e1 w1 ⟨rfl, rfl⟩
  go_wp2
  go_loop [6, 7] (fun u v => ∃ x y : Nat, x % 2 = 1 ∧ x ≤ 9223372036854775808 ∧ y ≤ 9223372036854775808 ∧ u = .int .u64 (x : Int) ∧ v = .int .u64 (y : Int) ∧ Nat.gcd x y * 2 ^ t = g) (fun u v => ((intOf u).toNat + (intOf v).toNat))
  case atStart => exact ⟨x0, Y, g3, by omega, lY, rfl, rfl, G5.out⟩
  case round =>
    clear hd e
    obtain ⟨x, y, o1, l1, l2, rfl, rfl, hg⟩ := hrel
    have HG := Lib.hid hg
    clear hg
    by_cases hy : y = 0
    · subst hy
      have e : (x : Int) * 2 ^ t = (g : Int) := by
        have := HG.out
        rw [Nat.gcd_zero_right] at this
        rw [← this, Int.natCast_mul, Int.natCast_pow]; rfl
      have e2 : IntKind.u64.wrap (x * 2 ^ t) = (g : Int) := by rw [e, IntKind.wrap_u64]; have := LG.out; omega
      clear e
      go_wp2_with fail
      refine (SG.out _).mono ?_
      rintro e1 w1 ⟨rfl, rfl⟩
      go_wp2
      go_ret2
      exact ⟨rfl, rfl⟩
    · have hy0 : 0 < y := by omega
      have hyb : ((y : Int) == 0) = false := by simp; omega
      obtain ⟨s1, s2, s3, s4, s5⟩ := gcd_shift o1 hy0 (by omega)
      have T3 := Lib.hid (fun w h => tz_any y w hy0 (by omega) h)
      generalize Lib.ctz 64 y = k at *
      have hd2 : (y : Int) / 2 ^ k = ((y / 2 ^ k : Nat) : Int) := by rw [Int.natCast_ediv, Int.natCast_pow]; rfl
      generalize y / 2 ^ k = z at *
      have S5 := Lib.hid s5
      clear s5
      go_wp2_with fail
      refine (T3.out _ TT.out).mono ?_
      rintro e1 w1 ⟨rfl, rfl⟩
      by_cases hle : x ≤ z
      · have zo : (z - x : Nat) = z - x := rfl
        have G := Lib.hid (gcd_sub_le hle)
        go_wp2
        go_round
        case rel =>
          exact ⟨x, z - x, o1, l1, by omega, by first | rfl | (congr 1; (try split); omega), by first | rfl | (congr 1; split <;> omega) | (congr 1; omega), by rw [G.out, S5.out]; exact HG.out⟩
        case measure => simp [intOf]; (try split) <;> omega
      · have hlt : z < x := by omega
        have G := Lib.hid (gcd_sub_ge (Nat.le_of_lt hlt))
        go_wp2
        go_round
        case rel =>
          exact ⟨z, x - z, s4, by omega, by omega, by first | rfl | (congr 1; (try split) <;> omega), by first | rfl | (congr 1; split <;> omega) | (congr 1; omega), by rw [G.out, S5.out]; exact HG.out⟩
        case measure => simp [intOf]; (try split) <;> omega
end Go.Proofs.YtkejohmghacdhaaDoor
