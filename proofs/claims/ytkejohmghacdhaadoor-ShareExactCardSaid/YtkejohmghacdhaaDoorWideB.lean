/- Contracts of the package wide: Cmp, Mul. -/
import Derived.Test.YtkejohmghacdhaaDoorWideA
import Derived.Deep.RegionWith
import Derived.StillTailTactics
namespace Go.Proofs.YtkejohmghacdhaaDoor
set_option linter.unusedVariables false
set_option linter.unusedSimpArgs false
open Go.RowKit
def orI (x y : Int) : Int := if x = 0 then y else x
set_option maxHeartbeats 1000000 in
theorem or_any (x y : Int) (w : World) (b : Nat) (h1 : w.cell? ⟨b, 0, none⟩ = some (.int .i64 x)) (h2 : w.cell? ⟨b, 1, none⟩ = some (.int .i64 y)) :
    Calls Tryd.prog 67 #[.slice (some ⟨b, 0, none⟩) 2 2] w fun e w' => e = .returned (.int .i64 (orI x y)) ∧ w = w' := by
  have T := Lib.hid (show orI x y = if x = 0 then y else x from rfl)
  go_enter Tryd.func67, Tryd.ntmps67
  go_wp2
  go_loop [8] (fun i => ∃ k : Nat, k ≤ 2 ∧ i = .int .i64 k ∧ (k = 0 ∨ x = 0) ∧ (k ≤ 1 ∨ y = 0)) (fun i => 2 - (intOf i).toNat)
  case atStart => exact ⟨0, by omega, rfl, by omega, by omega⟩
  case round =>
    obtain ⟨k, hk, rfl, hx, hy⟩ := hrel
    have hk' : k = 0 ∨ k = 1 ∨ k = 2 := by omega
    rcases hk' with rfl | rfl | rfl
    · clear hx hy hk
      by_cases hx : x = 0
      · subst hx
        go_wp2
        go_round
        case rel => exact ⟨1, by omega, rfl, by first | omega | simp, by first | omega | simp⟩
        case measure => simp [intOf]
      · go_wp2
        go_ret
        exact ⟨ret_i (by rw [T.out, if_neg hx]), rfl⟩
    · have hx : x = 0 := by omega
      subst hx
      clear hy hk
      by_cases hy : y = 0
      · subst hy
        go_wp2
        go_round
        case rel => exact ⟨2, by omega, rfl, by first | omega | simp, by first | omega | simp⟩
        case measure => simp [intOf]
      · go_wp2
        go_ret
        exact ⟨ret_i (by rw [T.out]; simp), rfl⟩
    · have hx : x = 0 := by omega
      have hy : y = 0 := by omega
      subst hx hy
      clear hk
      go_wp2
      go_ret
      exact ⟨ret_i (by rw [T.out]; simp), rfl⟩
/-- A region that draws its order: n operations that leave the world alone, then the rest in one order. -/
theorem region_st {P : Program} {id : Nat} {Q : Exit → Act → World → Prop} {a : Act} {w : World} {l : List Oper} (n : Nat) (F : World → Prop) (hF : F w.drew) (hm : P.follows .mixedOrders = true) (hB : Region.lexTailB .any l.toArray n = true)
    (h : ∀ W, F W → wpStill P l.toArray W (fun a' => wpList P l.toArray Q (l.drop n) a' W) (l.take n) a) : (Code.region id l.toArray true).wp P Q a w :=
  wp_region_still_tail n hm hB (h w.drew hF)
set_option maxRecDepth 100000 in
set_option maxHeartbeats 400000 in
theorem wcmp_any (x y : Int) (w : World) :
    Calls Tryd.prog 39 #[wideA x, wideA y] w fun e w' => e = .returned (.int .i64 (cmpI x y)) ∧ Below w.heap.size w w' := by
  have T := Lib.hid (show cmpI x y = orI (cmpI (hiW x) (hiW y)) (cmpI (loW x) (loW y)) from cmpW x y)
  go_enter Tryd.func39, Tryd.ntmps39
  go_wp2_with fail
  refine region_st 10 (fun W => W.cell? ⟨w.heap.size, 0, none⟩ = some (.int .i64 (hiW x)) ∧ W.cell? ⟨w.heap.size, 1, none⟩ = some (.int .u64 (loW x)) ∧ W.cell? ⟨w.heap.size + 1, 0, none⟩ = some (.int .i64 (hiW y)) ∧ W.cell? ⟨w.heap.size + 1, 1, none⟩ = some (.int .u64 (loW y)) ∧ Below w.heap.size w W) ⟨by go_simp, by go_simp, by go_simp, by go_simp, (by repeat (with_reducible (first | exact Below.refl _ _ | assumption | refine bl_alloc ?_ _ | refine bl_drewN ?_ _ | refine bl_drew ?_ | refine bl_call ?_ (by assumption) | (refine bl_setCell ?_ _ (Nat.le_refl _)) | (refine bl_setCell ?_ _ (by simp)))))⟩ (by kernel_rfl) (by kernel_rfl) ?_
  intro W ⟨k0, k1, k2, k3, hbW⟩
  simp only [List.take_succ_cons, List.take_zero, List.drop_succ_cons, List.drop_zero]
  repeat still_step
  still_call ((cmp_i64 _ _ _).mono fun _ _ ⟨h1, h2⟩ => ⟨h1, h2.symm⟩)
  repeat still_step
  still_call ((cmp_u64 _ _ _).mono fun _ _ ⟨h1, h2⟩ => ⟨h1, h2.symm⟩)
  refine wpStill_nil ?_
  go_wp2_with fail
  refine (or_any (cmpI (hiW x) (hiW y)) (cmpI (loW x) (loW y)) _ _ (by simp) (by simp)).mono ?_
  rintro e w' ⟨rfl, rfl⟩
  go_wp2
  go_ret
  exact ⟨ret_i T.out.symm, (by repeat (with_reducible (first | exact Below.refl _ _ | assumption | refine bl_alloc ?_ _ | refine bl_drewN ?_ _ | refine bl_drew ?_ | refine bl_call ?_ (by assumption) | (refine bl_setCell ?_ _ (Nat.le_refl _)) | (refine bl_setCell ?_ _ (by simp)))))⟩
theorem umul_low (a b : Int) : IntKind.u64.wrap a * IntKind.u64.wrap b % 18446744073709551616 = loW (a * b) := by
  rw [IntKind.wrap_u64, IntKind.wrap_u64]; unfold loW
  exact (Int.mul_emod a b _).symm
theorem neg_part {a : Int} (h : In a) : a < 0 → IntKind.u64.wrap a = a + 18446744073709551616 := by rw [IntKind.wrap_u64]; unfold In at h; omega
theorem pos_part {a : Int} (h : In a) : 0 ≤ a → IntKind.u64.wrap a = a := by rw [IntKind.wrap_u64]; unfold In at h; omega
/-- the upper word of a product -/
theorem umul_hi {a b : Int} (ha : In a) (hb : In b) (H : Int) (hH : H = IntKind.u64.wrap a * IntKind.u64.wrap b / 18446744073709551616) :
    hiW (a * b) = H - (if a < 0 then IntKind.u64.wrap b else 0) - (if b < 0 then IntKind.u64.wrap a else 0) + (if a < 0 ∧ b < 0 then 18446744073709551616 else 0) := by
  subst hH
  unfold hiW
  rcases Int.lt_or_le a 0 with h1 | h1 <;> rcases Int.lt_or_le b 0 with h2 | h2
  · rw [neg_part ha h1, neg_part hb h2, if_pos h1, if_pos h2, if_pos ⟨h1, h2⟩]
    have e : (a + 18446744073709551616) * (b + 18446744073709551616) = a * b + (a + b + 18446744073709551616) * 18446744073709551616 := by
      rw [Int.add_mul, Int.mul_add, Int.mul_add, Int.add_mul, Int.add_mul]; omega
    rw [e, Int.add_mul_ediv_right _ _ (by decide)]; omega
  · rw [neg_part ha h1, pos_part hb h2, if_pos h1, if_neg (by omega), if_neg (by omega)]
    have e : (a + 18446744073709551616) * b = a * b + b * 18446744073709551616 := by rw [Int.add_mul]; omega
    rw [e, Int.add_mul_ediv_right _ _ (by decide)]; omega
  · rw [pos_part ha h1, neg_part hb h2, if_neg (by omega), if_pos h2, if_neg (by omega)]
    have e : a * (b + 18446744073709551616) = a * b + a * 18446744073709551616 := by rw [Int.mul_add]
    rw [e, Int.add_mul_ediv_right _ _ (by decide)]; omega
  · rw [pos_part ha h1, pos_part hb h2, if_neg (by omega), if_neg (by omega), if_neg (by omega)]; omega
end Go.Proofs.YtkejohmghacdhaaDoor
