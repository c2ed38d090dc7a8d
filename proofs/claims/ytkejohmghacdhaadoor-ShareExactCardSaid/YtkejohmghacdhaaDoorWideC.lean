/- Contracts of the package wide: Mul. -/
import Derived.Test.YtkejohmghacdhaaDoorWideB
namespace Go.Proofs.YtkejohmghacdhaaDoor
set_option linter.unusedVariables false
set_option linter.unusedSimpArgs false
open Go.RowKit
/-- the upper word, round by round -/
def mulSt (a b : Int) (H X Y : Int) (k : Nat) : Int :=
  if k = 0 then H else if k = 1 then (if a < 0 then IntKind.u64.wrap (H - Y) else H) else
    (if b < 0 then IntKind.u64.wrap ((if a < 0 then IntKind.u64.wrap (H - Y) else H) - X) else (if a < 0 then IntKind.u64.wrap (H - Y) else H))
theorem prod_InW {a b : Int} (ha : In a) (hb : In b) : InW (a * b) := by
  have h1 : (a * b).natAbs ≤ 9223372036854775808 * 9223372036854775808 := by
    rw [Int.natAbs_mul]; exact Nat.mul_le_mul (by unfold In at ha; omega) (by unfold In at hb; omega)
  unfold InW; omega
theorem mulSt_two {a b : Int} (ha : In a) (hb : In b) (X Y : Nat) (hX : IntKind.u64.wrap a = X) (hY : IntKind.u64.wrap b = Y) :
    wrap64 (mulSt a b ((X : Int) * (Y : Int) / 18446744073709551616) X Y 2) = hiW (a * b) := by
  have e := umul_hi ha hb ((X : Int) * (Y : Int) / 18446744073709551616) (by rw [hX, hY])
  have i := In_hi (prod_InW ha hb)
  rw [hX, hY] at e
  rw [e] at i ⊢
  have hx : (X : Int) < 18446744073709551616 := by rw [← hX, IntKind.wrap_u64]; omega
  have hy : (Y : Int) < 18446744073709551616 := by rw [← hY, IntKind.wrap_u64]; omega
  generalize (X : Int) * (Y : Int) / 18446744073709551616 = H at *
  unfold mulSt
  rw [if_neg (by decide), if_neg (by decide)]
  rw [← wrap64_of i]
  simp only [IntKind.wrap_u64]
  unfold wrap64
  clear e i
  by_cases h1 : a < 0 <;> by_cases h2 : b < 0 <;> simp only [h1, h2, if_true, if_false, and_self, and_true, true_and, and_false, false_and] <;> omega
theorem mulSt_lo {a b : Int} (X Y : Nat) (hX : IntKind.u64.wrap a = X) (hY : IntKind.u64.wrap b = Y) : (X : Int) * (Y : Int) % 18446744073709551616 = loW (a * b) := by
  rw [← umul_low, hX, hY]
set_option maxRecDepth 100000 in
set_option maxHeartbeats 2000000 in
theorem wmul_any (a b : Int) (w : World) (ha : In a) (hb : In b) :
    Calls Tryd.prog 40 #[.int .i64 a, .int .i64 b] w fun e w' => e = .returned (wideA (a * b)) ∧ Below w.heap.size w w' := by
  obtain ⟨X, hX⟩ := Int.eq_ofNat_of_zero_le (InU_wrap a).1
  obtain ⟨Y, hY⟩ := Int.eq_ofNat_of_zero_le (InU_wrap b).1
  have bX := (InU_wrap a).2
  have bY := (InU_wrap b).2
  rw [hX] at bX
  rw [hY] at bY
  have T := Lib.hid (mulSt_two ha hb X Y hX hY)
  have L := Lib.hid (mulSt_lo X Y hX hY)
  have i0 : ∀ w, (Instr.index 90 (.agg #[.int .i64 a, .int .i64 b, .int .i64 b, .int .i64 a]) (.int .i64 0)).run Tryd.prog w = .ok (.agg #[.int .i64 a, .int .i64 b]) w := fun _ => by kernel_rfl
  have i1 : ∀ w, (Instr.index 90 (.agg #[.int .i64 a, .int .i64 b, .int .i64 b, .int .i64 a]) (.int .i64 1)).run Tryd.prog w = .ok (.agg #[.int .i64 b, .int .i64 a]) w := fun _ => by kernel_rfl
  go_enter Tryd.func40, Tryd.ntmps40
  go_wp2_with fail
  refine (Tryd.bits_Mul64 X Y (by omega) (by omega) _).mono ?_
  rintro e w' ⟨rfl, rfl⟩
  go_wp2
  have H0 := Lib.hid (show mulSt a b ((X : Int) * (Y : Int) / 18446744073709551616) X Y 0 = (X : Int) * (Y : Int) / 18446744073709551616 from rfl)
  have hH : 0 ≤ (X : Int) * (Y : Int) / 18446744073709551616 ∧ (X : Int) * (Y : Int) / 18446744073709551616 ≤ 18446744073709551615 := by
    have h0 : 0 ≤ (X : Int) * (Y : Int) := Int.mul_nonneg (by omega) (by omega)
    have h1 : (X : Int) * (Y : Int) ≤ 18446744073709551615 * 18446744073709551615 := Int.mul_le_mul (by omega) (by omega) (by omega) (by omega)
    omega
  rw [← H0.out]
  rw [L.out]
  have ST := Lib.hid (show mulSt a b ((X : Int) * (Y : Int) / 18446744073709551616) X Y = mulSt a b ((X : Int) * (Y : Int) / 18446744073709551616) X Y from rfl)
  generalize hHH : (X : Int) * (Y : Int) / 18446744073709551616 = H at *
  clear hHH
  go_loopw [5, 24] (fun h i wr => ∃ k : Nat, k ≤ 2 ∧ i = .int .i64 k ∧ h = .int .u64 (mulSt a b H X Y k) ∧ Below w.heap.size w wr ∧ w.heap.size < wr.heap.size ∧ wr.cell? ⟨w.heap.size, 0, none⟩ = some (.int .i64 0) ∧ wr.cell? ⟨w.heap.size, 1, none⟩ = some (.int .u64 0) ∧ (∀ o, wr.frozen? ⟨w.heap.size, o, none⟩ = false)) (fun _ i _ => 2 - (intOf i).toNat)
  case atStart => exact ⟨0, by omega, rfl, rfl, (by repeat (with_reducible (first | exact Below.refl _ _ | assumption | refine bl_alloc ?_ _ | refine bl_drewN ?_ _ | refine bl_drew ?_ | refine bl_call ?_ (by assumption) | (refine bl_setCell ?_ _ (Nat.le_refl _)) | (refine bl_setCell ?_ _ (by simp))))), by simp, by simp, by simp, by simp⟩
  case round =>
    obtain ⟨k, hk, rfl, rfl, hbr, hzr, q0, q1, qf⟩ := hrel
    have hk' : k = 0 ∨ k = 1 ∨ k = 2 := by omega
    rcases hk' with rfl | rfl | rfl
    · have M := Lib.hid (show mulSt a b H X Y 1 = if a < 0 then IntKind.u64.wrap (mulSt a b H X Y 0 - Y) else mulSt a b H X Y 0 from rfl)
      clear hk
      by_cases hA : a < 0
      all_goals
        go_wp2
        go_roundw
        case rel =>
          have K := own_stays (bl_alloc (Below.refl wr.heap.size wr) (Obj.cells #[Value.int IntKind.i64 a, Value.int IntKind.i64 b] 87)) hzr
          exact ⟨1, by omega, rfl, by rw [M.out]; simp [hA], bl_alloc hbr _, K.2.2, (K.1 0).trans q0, (K.1 1).trans q1, fun o => (K.2.1 o).trans (qf o)⟩
        case measure => simp [intOf]
    · have M := Lib.hid (show mulSt a b H X Y 2 = if b < 0 then IntKind.u64.wrap (mulSt a b H X Y 1 - X) else mulSt a b H X Y 1 from rfl)
      clear hk
      by_cases hB : b < 0
      all_goals
        go_wp2
        go_roundw
        case rel =>
          have K := own_stays (bl_alloc (Below.refl wr.heap.size wr) (Obj.cells #[Value.int IntKind.i64 b, Value.int IntKind.i64 a] 87)) hzr
          exact ⟨2, by omega, rfl, by rw [M.out]; simp [hB], bl_alloc hbr _, K.2.2, (K.1 0).trans q0, (K.1 1).trans q1, fun o => (K.2.1 o).trans (qf o)⟩
        case measure => simp [intOf]
    · clear hk
      go_wp2
      have T' := T.out
      obtain ⟨s0, s1⟩ := set2 (.int .i64 (wrap64 (mulSt a b H X Y 2))) (.int .u64 (loW (a * b))) q0 q1
      refine bodyPost_ret (v := .agg #[.int .i64 (wrap64 (mulSt a b H X Y 2)), .int .u64 (loW (a * b))]) (by simp [results, Tryd.results40, go_sem, s0, s1]) rfl ⟨ret_w T' rfl, ?_⟩
      exact (by repeat (with_reducible (first | exact Below.refl _ _ | assumption | refine bl_alloc ?_ _ | refine bl_drewN ?_ _ | refine bl_drew ?_ | refine bl_call ?_ (by assumption) | (refine bl_setCell ?_ _ (Nat.le_refl _)) | (refine bl_setCell ?_ _ (by simp)))))
end Go.Proofs.YtkejohmghacdhaaDoor
