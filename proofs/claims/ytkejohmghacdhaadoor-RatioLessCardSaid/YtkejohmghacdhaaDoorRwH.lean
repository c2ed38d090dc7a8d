/- Contracts of the reference's chapter 2: Add. -/
import Derived.Test.YtkejohmghacdhaaDoorRwG
import Derived.Test.YtkejohmghacdhaaDoorSumA
import Derived.Deep.RegionWith
namespace Go.Proofs.YtkejohmghacdhaaDoor
set_option linter.unusedVariables false
set_option linter.unusedSimpArgs false
open Go.RowKit
set_option maxRecDepth 100000 in
set_option maxHeartbeats 8000000 in
theorem radd_any (x y : Int) (w : World) (hx : InW x) (hy : InW y) :
    Calls Tryd.prog 31 #[wideA x, wideA y] w fun e w' => e = .returned (.tuple #[wideA (capW (x + y)), .int .i64 (errW (x + y))]) ∧ Below w.heap.size w w' := by
  have F := Lib.hid (fun w => rwof_any x w hx)
  have G := Lib.hid (fun w => rwof_any y w hy)
  obtain ⟨S, K, ok, hK0, hK1, P, T⟩ := plus_sum hx hy
  have P := Lib.hid P
  have B := fun w => back_any S K w hK0 hK1
  have T' : (capW (x + y) = backV S K ∧ errW (x + y) = 0 ∧ ok = true ∧ backB S K = true) ∨ (capW (x + y) = 0 ∧ errW (x + y) = 2 ∧ ok = true ∧ backB S K = false) ∨ (capW (x + y) = 0 ∧ errW (x + y) = 2 ∧ ok = false) := by
    rcases T with ⟨h, h1, h2, h3⟩ | ⟨h, h1, h2⟩ | ⟨h, h1⟩
    · obtain ⟨c1, c2⟩ := capW_of h; exact .inl ⟨by rw [c1, h3], c2, h1, h2⟩
    · obtain ⟨c1, c2⟩ := capW_not h; exact .inr (.inl ⟨c1, c2, h1, h2⟩)
    · obtain ⟨c1, c2⟩ := capW_not h; exact .inr (.inr ⟨c1, c2, h1⟩)
  clear T hx hy hK0 hK1
  generalize absW x = n at *
  generalize absW y = m at *
  generalize decide (x < 0) = s at *
  generalize decide (y < 0) = t at *
  generalize backV S K = V at *
  generalize backB S K = vb at *
  have B := Lib.hid B
  have go : ∀ (C1 : Hid ((capW (x + y) = V ∧ errW (x + y) = 0 ∧ ok = true ∧ vb = true) ∨ (capW (x + y) = 0 ∧ errW (x + y) = 2 ∧ ¬ (ok = true ∧ vb = true)))), Calls Tryd.prog 31 #[wideA x, wideA y] w fun e w' => e = .returned (.tuple #[wideA (capW (x + y)), .int .i64 (errW (x + y))]) ∧ Below w.heap.size w w' := by
    intro C1
    clear T'
    go_enter Tryd.func31, Tryd.ntmps31
    go_wp2_with fail
    refine region_t (lay1 8 (Obj.cells #[.bool false, .int .u64 0, .int .u64 0, .int .u64 0, .int .u64 0, .int .u64 0, .int .u64 0, .int .u64 0, .int .u64 0] 80)) (st1 9 8) (cl1 8) (fun W => W.cell? ⟨w.heap.size, 0, none⟩ = some (.int .i64 (hiW x)) ∧ W.cell? ⟨w.heap.size, 1, none⟩ = some (.int .u64 (loW x)) ∧ W.cell? ⟨w.heap.size + 1, 0, none⟩ = some (.int .i64 (hiW y)) ∧ W.cell? ⟨w.heap.size + 1, 1, none⟩ = some (.int .u64 (loW y)) ∧ W.cell? ⟨w.heap.size + 2, 0, none⟩ = some (.int .i64 0) ∧ W.cell? ⟨w.heap.size + 2, 1, none⟩ = some (.int .u64 0) ∧ (∀ o, W.frozen? ⟨w.heap.size + 2, o, none⟩ = false) ∧ w.heap.size + 2 < W.heap.size ∧ Below w.heap.size w W) ⟨by go_simp, by go_simp, by go_simp, by go_simp, by go_simp, by go_simp, by go_simp, by go_simp, (by repeat (with_reducible (first | exact Below.refl _ _ | assumption | refine bl_alloc ?_ _ | refine bl_drewN ?_ _ | refine bl_drew ?_ | refine bl_call ?_ (by assumption) | (refine bl_setCell ?_ _ (Nat.le_refl _)) | (refine bl_setCell ?_ _ (by first | omega | (simp; done) | (simp; omega))))))⟩ (by kernel_rfl) (by kernel_rfl) (kinds1 (by kernel_rfl)) ?_
    intro W ⟨k0, k1, k2, k3, k4, k5, k6, k7, hbW⟩
    have K4 := Lib.hid k4
    have K5 := Lib.hid k5
    have K6 := Lib.hid k6
    clear k4 k5 k6
    replace k0 := rcell k0
    replace k1 := rcell k1
    replace k2 := rcell k2
    replace k3 := rcell k3
    repeat ((first | refine wpT_op true rfl rfl rfl (fun K hK => ?_) | refine wpT_op false rfl rfl rfl (fun K hK => ?_)); go_simp; first | (refine hK _ ?_; clear hK K) | (apply Exists.intro; refine ⟨fun _ => ?_, hK _ ?_⟩; (first | with_reducible exact Calls.stay (F.out _) | with_reducible exact Calls.stay (G.out _) | with_reducible exact Calls.stay (P.out _)); clear hK K))
    refine wpT_lay _ rfl ?_ ?_
    · exact ⟨fun a w => by go_simp, fun y => rfl⟩
    intro nb hnb
    refine wpT_st 8 nb _ (Obj.cells #[.bool S, .int .u64 (dg K 0), .int .u64 (dg K 1), .int .u64 (dg K 2), .int .u64 (dg K 3), .int .u64 (dg K 4), .int .u64 (dg K 5), .int .u64 (dg K 6), .int .u64 (dg K 7)] 80) rfl rfl (upd_same _ _ _ _) hnb ⟨fun y => rfl, fun w1 hb1 hlt hx => ⟨_, ?_, touch_set9 hx (.bool S) (.int .u64 (dg K 0)) (.int .u64 (dg K 1)) (.int .u64 (dg K 2)) (.int .u64 (dg K 3)) (.int .u64 (dg K 4)) (.int .u64 (dg K 5)) (.int .u64 (dg K 6)) (.int .u64 (dg K 7))⟩⟩ ?_
    · have c0 := laid_cell hx 0 _ rfl
      have c1 := laid_cell hx 1 _ rfl
      have c2 := laid_cell hx 2 _ rfl
      have c3 := laid_cell hx 3 _ rfl
      have c4 := laid_cell hx 4 _ rfl
      have c5 := laid_cell hx 5 _ rfl
      have c6 := laid_cell hx 6 _ rfl
      have c7 := laid_cell hx 7 _ rfl
      have c8 := laid_cell hx 8 _ rfl
      have f0 := laid_free hx 0
      have f1 := laid_free hx 1
      have f2 := laid_free hx 2
      have f3 := laid_free hx 3
      have f4 := laid_free hx 4
      have f5 := laid_free hx 5
      have f6 := laid_free hx 6
      have f7 := laid_free hx 7
      have f8 := laid_free hx 8
      clear hx hb1
      go_simp
    repeat ((first | refine wpT_op true rfl rfl rfl (fun K hK => ?_) | refine wpT_op false rfl rfl rfl (fun K hK => ?_)); go_simp; first | (refine hK _ ?_; clear hK K) | (apply Exists.intro; refine ⟨fun _ => ?_, hK _ ?_⟩; (fail); clear hK K))
    refine wpT_nil ?_
    intro w2 hfr
    obtain ⟨l1, l2, l3⟩ := hfr.low 8 nb _ (upd_same _ _ _ _)
    have hb2 := hfr.below
    have m0 := laid_cell l3 0 _ rfl
    have m1 := laid_cell l3 1 _ rfl
    have m2 := laid_cell l3 2 _ rfl
    have m3 := laid_cell l3 3 _ rfl
    have m4 := laid_cell l3 4 _ rfl
    have m5 := laid_cell l3 5 _ rfl
    have m6 := laid_cell l3 6 _ rfl
    have m7 := laid_cell l3 7 _ rfl
    have m8 := laid_cell l3 8 _ rfl
    obtain ⟨hc2, hf2, hz2⟩ := own_stays hb2 k7
    have d0 : w2.cell? ⟨w.heap.size + 2, 0, none⟩ = some (.int .i64 0) := (hc2 0).trans K4.out
    have d1 : w2.cell? ⟨w.heap.size + 2, 1, none⟩ = some (.int .u64 0) := (hc2 1).trans K5.out
    have d2 : ∀ o, w2.frozen? ⟨w.heap.size + 2, o, none⟩ = false := fun o => (hf2 o).trans (K6.out o)
    have HW := Lib.hid (show Below w.heap.size w w2 from bl_call hbW hb2)
    clear l3 hfr hc2 hf2 hb2 hbW k0 k1 k2 k3
    go_wp2_with fail
    refine (B.out _).mono ?_
    rintro e w3 ⟨rfl, hb3⟩
    obtain ⟨hc3, hf3, hz3⟩ := own_stays hb3 (b := w.heap.size + 2) hz2
    have HW3 := Lib.hid (show Below w.heap.size w w3 from bl_call HW.out hb3)
    have d0' : w3.cell? ⟨w.heap.size + 2, 0, none⟩ = some (.int .i64 0) := (hc3 0).trans d0
    have d1' : w3.cell? ⟨w.heap.size + 2, 1, none⟩ = some (.int .u64 0) := (hc3 1).trans d1
    clear hb3
    rcases C1.out with ⟨e1, e2, rfl, rfl⟩ | ⟨e1, e2, e3⟩
    · have E1 := Lib.hid e1
      have E2 := Lib.hid e2
      clear e1 e2 C1
      go_wp2
      obtain ⟨u0, u1⟩ := set2 (.int .i64 (hiW V)) (.int .u64 (loW V)) d0' d1'
      refine bodyPost_ret (v := .tuple #[wideA V, .int .i64 0]) (by simp [results, Tryd.results31, go_sem, u0, u1, hz3]) rfl ⟨by rw [E1.out, E2.out], bl_alloc (bl_setCell (bl_setCell HW3.out _ (by simp; omega)) _ (by simp; omega)) _⟩
    · have E1 := Lib.hid e1
      have E2 := Lib.hid e2
      clear e1 e2 C1
      cases ok <;> cases vb <;> first | (exact absurd ⟨rfl, rfl⟩ e3) | skip
      all_goals
        clear e3
        go_wp2
        obtain ⟨u0, u1⟩ := set2 (.int .i64 0) (.int .u64 0) d0' d1'
        refine bodyPost_ret (v := .tuple #[.agg #[.int .i64 0, .int .u64 0], .int .i64 2]) (by simp [results, Tryd.results31, go_sem, u0, u1, hz3]) rfl ⟨by rw [E1.out, E2.out]; rfl, bl_alloc (bl_setCell (bl_setCell HW3.out _ (by simp; omega)) _ (by simp; omega)) _⟩
  rcases T' with ⟨h, h1, h2, h3⟩ | ⟨h, h1, h2, h3⟩ | ⟨h, h1, h2⟩
  · exact go (Lib.hid (.inl ⟨h, h1, h2, h3⟩))
  · exact go (Lib.hid (.inr ⟨h, h1, by rw [h3]; simp⟩))
  · exact go (Lib.hid (.inr ⟨h, h1, by rw [h2]; simp⟩))
end Go.Proofs.YtkejohmghacdhaaDoor
