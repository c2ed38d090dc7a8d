/- Contracts of the package wide. -/
import Derived.Test.YtkejohmghacdhaaDoorWhole
import Derived.Test.YtkejohmghacdhaaDoorMathW
namespace Go.Proofs.YtkejohmghacdhaaDoor
set_option linter.unusedVariables false
set_option linter.unusedSimpArgs false
open Go.RowKit
abbrev wideA (n : Int) : Value := .agg #[.int .i64 (hiW n), .int .u64 (loW n)]
theorem set2 {w : World} {b : Nat} {o0 o1 : Value} (x0 x1 : Value) (q0 : w.cell? ⟨b, 0, none⟩ = some o0) (q1 : w.cell? ⟨b, 1, none⟩ = some o1) :
    (w.setCell ⟨b, 0, none⟩ x0).cell? ⟨b, 0, none⟩ = some x0 ∧ ((w.setCell ⟨b, 0, none⟩ x0).setCell ⟨b, 1, none⟩ x1).cell? ⟨b, 1, none⟩ = some x1 := by
  refine ⟨World.cell?_setCell_same _ _ _ q0, World.cell?_setCell_same (u := o1) _ _ _ ?_⟩
  rw [World.cell?_setCell_other _ _ _ _ (by simp)]; exact q1
theorem ret_w {a b c d : Int} (h1 : a = c) (h2 : b = d) : Ending.returned (.agg #[.int .i64 a, .int .u64 b]) = .returned (.agg #[.int .i64 c, .int .u64 d]) := by rw [h1, h2]
theorem ret_wi {a b c d x y : Int} (h1 : a = c) (h2 : b = d) (h3 : x = y) : Ending.returned (.tuple #[.agg #[.int .i64 a, .int .u64 b], .int .i64 x]) = .returned (.tuple #[.agg #[.int .i64 c, .int .u64 d], .int .i64 y]) := by rw [h1, h2, h3]
theorem of_hi {a : Int} (h : In a) : a / 9223372036854775808 = hiW a := by unfold hiW In at *; omega
set_option maxHeartbeats 400000 in
theorem wof_any (a : Int) (w : World) (ha : In a) :
    Calls Tryd.prog 43 #[.int .i64 a] w fun e w' => e = .returned (wideA a) ∧ Below w.heap.size w w' := by
  have HA := Lib.hid ha
  clear ha
  go_enter Tryd.func43, Tryd.ntmps43
  go_wp2
  refine bodyPost_ret (v := .agg #[.int .i64 (a / 9223372036854775808), .int .u64 (IntKind.u64.wrap a)]) (by simp [results, Tryd.results43, go_sem]) rfl ⟨ret_w (of_hi HA.out) (by rw [IntKind.wrap_u64]; rfl), ?_⟩
  exact (by repeat (with_reducible (first | exact Below.refl _ _ | assumption | refine bl_alloc ?_ _ | refine bl_drewN ?_ _ | refine bl_drew ?_ | refine bl_call ?_ (by assumption) | (refine bl_setCell ?_ _ (Nat.le_refl _)) | (refine bl_setCell ?_ _ (by simp)))))
theorem add64_call (x y c : Int) (hx : InU x) (hy : InU y) (h0 : 0 ≤ c) (h1 : c ≤ 1) : ∀ w, (callFunc 72 #[.int .u64 x, .int .u64 y, .int .u64 c]).run Tryd.prog w = .ok (.value (.tuple #[.int .u64 (sumLo x y c), .int .u64 (sumCy x y c)])) w := fun w => by
  rw [run_callFunc_extern Tryd.func72 (by kernel_rfl) (by kernel_rfl) (by kernel_rfl) (e := add64Entry) (by kernel_rfl), run_add64 x y c hx.1 hy.1 h0 h1 w]
  rfl
set_option maxHeartbeats 1000000 in
theorem wadd_any (x y : Int) (w : World) (hx : InW x) (hy : InW y) :
    Calls Tryd.prog 46 #[wideA x, wideA y] w fun e w' => e = .returned (.tuple #[wideA (capW (x + y)), .int .i64 (errW (x + y))]) ∧ Below w.heap.size w w' := by
  have a1 := add64_call (loW x) (loW y) 0 (InU_lo _) (InU_lo _) (by decide) (by decide)
  have c1 := sumCy_01 (InU_lo x) (InU_lo y) (c := 0) (by decide) (by decide)
  have a2 := add64_call (IntKind.u64.wrap (hiW x)) (IntKind.u64.wrap (hiW y)) (sumCy (loW x) (loW y) 0) (InU_wrap _) (InU_wrap _) c1.1 c1.2
  have T := Lib.hid (wadd_test hx hy)
  clear c1
  go_enter Tryd.func46, Tryd.ntmps46
  go_wp2
  · have h : ¬ InW (x + y) := T.out.1 (by assumption)
    obtain ⟨e1, e2⟩ := capW_not h
    refine bodyPost_ret (v := .tuple #[.agg #[.int .i64 0, .int .u64 0], .int .i64 2]) (by simp [results, Tryd.results46, go_sem]) rfl ⟨ret_wi (by rw [e1]; rfl) (by rw [e1]; rfl) e2.symm, ?_⟩
    exact (by repeat (with_reducible (first | exact Below.refl _ _ | assumption | refine bl_alloc ?_ _ | refine bl_drewN ?_ _ | refine bl_drew ?_ | refine bl_call ?_ (by assumption) | (refine bl_setCell ?_ _ (Nat.le_refl _)) | (refine bl_setCell ?_ _ (by simp)))))
  · have h : InW (x + y) := Classical.byContradiction fun hn => absurd (T.out.2 hn) (Int.not_lt.2 (by assumption))
    obtain ⟨e1, e2⟩ := capW_of h
    refine bodyPost_ret (v := .tuple #[.agg #[.int .i64 (hiSum x y), .int .u64 (sumLo (loW x) (loW y) 0)], .int .i64 0]) (by simp [results, Tryd.results46, go_sem, hiSum]) rfl ⟨ret_wi (by rw [e1]; exact hiSum_fit h) (by rw [e1]; exact (wsum_lo x y).symm) e2.symm, ?_⟩
    exact (by repeat (with_reducible (first | exact Below.refl _ _ | assumption | refine bl_alloc ?_ _ | refine bl_drewN ?_ _ | refine bl_drew ?_ | refine bl_call ?_ (by assumption) | (refine bl_setCell ?_ _ (Nat.le_refl _)) | (refine bl_setCell ?_ _ (by simp)))))
set_option maxHeartbeats 1000000 in
theorem wneg_any (x : Int) (w : World) (hx : InW x) :
    Calls Tryd.prog 45 #[wideA x] w fun e w' => e = .returned (.tuple #[wideA (capW (-x)), .int .i64 (errW (-x))]) ∧ Below w.heap.size w w' := by
  go_enter Tryd.func45, Tryd.ntmps45
  go_wp2_with fail
  have c := wadd_any (-x - 1) 1
  unfold wideA at c
  rw [← not_hi hx, ← not_lo x, hi_one, lo_one, show -x - 1 + 1 = -x by omega] at c
  refine (c _ (InW_not hx) InW_one).mono ?_
  rintro e w1 ⟨rfl, hb1⟩
  clear c
  obtain ⟨hc1, hf1, hz1⟩ := own_stays hb1 (b := w.heap.size + 1) (by simp)
  go_wp2
  have q0 : w1.cell? ⟨w.heap.size + 1, 0, none⟩ = some (.int .i64 0) := by rw [hc1]; simp
  have q1 : w1.cell? ⟨w.heap.size + 1, 1, none⟩ = some (.int .u64 0) := by rw [hc1]; simp
  obtain ⟨s0, s1⟩ := set2 (.int .i64 (hiW (capW (-x)))) (.int .u64 (loW (capW (-x)))) q0 q1
  refine bodyPost_ret (v := .tuple #[wideA (capW (-x)), .int .i64 (errW (-x))]) (by simp [results, Tryd.results45, go_sem, s0, s1]) rfl ⟨rfl, ?_⟩
  exact (by repeat (with_reducible (first | exact Below.refl _ _ | assumption | refine bl_alloc ?_ _ | refine bl_drewN ?_ _ | refine bl_drew ?_ | refine bl_call ?_ (by assumption) | (refine bl_setCell ?_ _ (Nat.le_refl _)) | (refine bl_setCell ?_ _ (by simp)))))
set_option maxHeartbeats 1000000 in
theorem wfit_any (x : Int) (w : World) (hx : InW x) :
    Calls Tryd.prog 47 #[wideA x] w fun e w' => e = .returned (.tuple #[.int .i64 (capN x), .int .i64 (errN x)]) ∧ Below w.heap.size w w' := by
  have ha : In (wrap64 (loW x)) := In_wrap64 _
  rcases fit_cases hx with ⟨e, c1, c2⟩ | ⟨e, c1, c2⟩
  · have C1 := Lib.hid c1
    have C2 := Lib.hid c2
    have I := Lib.hid (show In x from e ▸ ha)
    clear c1 c2 ha
    go_enter Tryd.func47, Tryd.ntmps47
    go_wp2_with fail
    refine region_qb (fun W => W.cell? ⟨w.heap.size, 0, none⟩ = some (.int .i64 (hiW x)) ∧ W.cell? ⟨w.heap.size, 1, none⟩ = some (.int .u64 (loW x)) ∧ Below w.heap.size w W) ⟨by go_simp, by go_simp, (by repeat (with_reducible (first | exact Below.refl _ _ | assumption | refine bl_alloc ?_ _ | refine bl_drewN ?_ _ | refine bl_drew ?_ | refine bl_call ?_ (by assumption) | (refine bl_setCell ?_ _ (Nat.le_refl _)) | (refine bl_setCell ?_ _ (by simp)))))⟩ (by kernel_rfl) (by kernel_rfl) ?_
    intro W ⟨k0, k1, hbW⟩
    replace k0 := rcell k0
    replace k1 := rcell k1
    repeat (quiet_step (first | exact Calls.regrown_of (wof_any _ _ I.out)))
    refine wpQuiet_nil ?_
    intro w2 hb2
    go_wp2
    go_ret2
    exact ⟨ret_ii C1.out.symm C2.out.symm, bl_call hbW hb2⟩
  · have C1 := Lib.hid c1
    have C2 := Lib.hid c2
    clear c1 c2
    go_enter Tryd.func47, Tryd.ntmps47
    go_wp2_with fail
    refine region_qb (fun W => W.cell? ⟨w.heap.size, 0, none⟩ = some (.int .i64 (hiW x)) ∧ W.cell? ⟨w.heap.size, 1, none⟩ = some (.int .u64 (loW x)) ∧ Below w.heap.size w W) ⟨by go_simp, by go_simp, (by repeat (with_reducible (first | exact Below.refl _ _ | assumption | refine bl_alloc ?_ _ | refine bl_drewN ?_ _ | refine bl_drew ?_ | refine bl_call ?_ (by assumption) | (refine bl_setCell ?_ _ (Nat.le_refl _)) | (refine bl_setCell ?_ _ (by simp)))))⟩ (by kernel_rfl) (by kernel_rfl) ?_
    intro W ⟨k0, k1, hbW⟩
    replace k0 := rcell k0
    replace k1 := rcell k1
    repeat (quiet_step (first | exact Calls.regrown_of (wof_any _ _ ha)))
    refine wpQuiet_nil ?_
    intro w2 hb2
    go_wp2
    go_ret2
    exact ⟨ret_ii C1.out.symm C2.out.symm, bl_call hbW hb2⟩
set_option maxHeartbeats 400000 in
theorem cmp_i64 (a b : Int) (w : World)  :
    Calls Tryd.prog 50 #[.int .i64 a, .int .i64 b] w fun e w' => e = .returned (.int .i64 (cmpI a b)) ∧ w = w' := by
  have T := Lib.hid (show cmpI a b = if a < b then -1 else if b < a then 1 else 0 from rfl)
  go_enter Tryd.func50, Tryd.ntmps50
  go_wp2
  all_goals go_ret
  all_goals (constructor; · rw [T.out]; simp [*]; try omega)
  all_goals rfl
set_option maxHeartbeats 400000 in
theorem cmp_u64 (a b : Int) (w : World)  :
    Calls Tryd.prog 68 #[.int .u64 a, .int .u64 b] w fun e w' => e = .returned (.int .i64 (cmpI a b)) ∧ w = w' := by
  have T := Lib.hid (show cmpI a b = if a < b then -1 else if b < a then 1 else 0 from rfl)
  go_enter Tryd.func68, Tryd.ntmps68
  go_wp2
  all_goals go_ret
  all_goals (constructor; · rw [T.out]; simp [*]; try omega)
  all_goals rfl
end Go.Proofs.YtkejohmghacdhaaDoor
