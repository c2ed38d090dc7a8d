/- Contracts of the reference's chapter 2: Add. -/
import Derived.Test.YtkejohmghacdhaaRwG
import Derived.Test.YtkejohmghacdhaaSumA
import Derived.Deep.RegionWith
namespace Go.Proofs.Ytkejohmghacdhaa
set_option linter.unusedVariables false
set_option linter.unusedSimpArgs false
open Go.RowKit
set_option maxRecDepth 100000 in
set_option maxHeartbeats 8000000 in
theorem radd_any (x y : Int) (w : World) (hx : InW x) (hy : InW y) :
    Calls Try.prog 77 #[wideA x, wideA y] w fun e w' => e = .returned (.tuple #[wideA (capW (x + y)), .int .i64 (errW (x + y))]) ∧ Below w.heap.size w w' := by
  have F := Lib.hid (fun w => rwof_any x w hx)
  have G := Lib.hid (fun w => rwof_any y w hy)
  obtain ⟨S, K, ok, hK0, hK1, P, T⟩ := plus_sum hx hy
  have P := Lib.hid P
  have B := fun w => back_any S K w hK0 hK1
  have T' : (capW (x + y) = backV S K ∧ errW (x + y) = 0 ∧ ok = true ∧ backB S K = true) ∨ (capW (x + y) = 0 ∧ errW (x + y) = 2 ∧ ok = true ∧ backB S K = false) ∨ (capW (x + y) = 0 ∧ errW (x + y) = 2 ∧ ok = false) := by
    rcases T with ⟨h, h1, h2, h3⟩ | ⟨h, h1, h2⟩ | ⟨h, h1⟩
    · obtain ⟨c1, c2⟩ := capW_of h; exact .inl ⟨by rw [c1, h3], c2, h1, h2⟩
    · obtain ⟨c1, c2⟩ := capW_not h; exact .inr (.inl ⟨c1, c2, h1, h2⟩)
    · obtain ⟨c1, c2⟩ := capW_not h; exact .inr (.inr ⟨c1, c2, h1⟩)
  clear T hx hy hK0 hK1
  generalize absW x = n at *
  generalize absW y = m at *
  generalize decide (x < 0) = s at *
  generalize decide (y < 0) = t at *
  generalize backV S K = V at *
  generalize backB S K = vb at *
  have B := Lib.hid B
  have go : ∀ (C1 : Hid ((capW (x + y) = V ∧ errW (x + y) = 0 ∧ ok = true ∧ vb = true) ∨ (capW (x + y) = 0 ∧ errW (x + y) = 2 ∧ ¬ (ok = true ∧ vb = true)))), Calls Try.prog 77 #[wideA x, wideA y] w fun e w' => e = .returned (.tuple #[wideA (capW (x + y)), .int .i64 (errW (x + y))]) ∧ Below w.heap.size w w' := by
    intro C1
    clear T'
    go_enter Try.func77, Try.ntmps77
    go_wp2_with fail
    refine region_t (lay1 8 (Obj.cells #[.bool false, .int .u64 0, .int .u64 0, .int .u64 0, .int .u64 0, .int .u64 0, .int .u64 0, .int .u64 0, .int .u64 0] 90)) (st1 9 8) (cl1 8) (fun W => W.cell? ⟨w.heap.size, 0, none⟩ = some (.int .i64 (hiW x)) ∧ W.cell? ⟨w.heap.size, 1, none⟩ = some (.int .u64 (loW x)) ∧ W.cell? ⟨w.heap.size + 1, 0, none⟩ = some (.int .i64 (hiW y)) ∧ W.cell? ⟨w.heap.size + 1, 1, none⟩ = some (.int .u64 (loW y)) ∧ W.cell? ⟨w.heap.size + 2, 0, none⟩ = some (.int .i64 0) ∧ W.cell? ⟨w.heap.size + 2, 1, none⟩ = some (.int .u64 0) ∧ (∀ o, W.frozen? ⟨w.heap.size + 2, o, none⟩ = false) ∧ w.heap.size + 2 < W.heap.size ∧ Below w.heap.size w W) ⟨by go_simp, by go_simp, by go_simp, by go_simp, by go_simp, by go_simp, by go_simp, by go_simp, (by repeat (with_reducible (first | exact Below.refl _ _ | assumption | refine bl_alloc ?_ _ | refine bl_drewN ?_ _ | refine bl_drew ?_ | refine bl_call ?_ (by assumption) | (refine bl_setCell ?_ _ (Nat.le_refl _)) | (refine bl_setCell ?_ _ (by first | omega | (simp; done) | (simp; omega))))))⟩ (by kernel_rfl) (by kernel_rfl) (kinds1 (by kernel_rfl)) ?_
    intro W ⟨k0, k1, k2, k3, k4, k5, k6, k7, hbW⟩
    have K4 := Lib.hid k4
    have K5 := Lib.hid k5
    have K6 := Lib.hid k6
    clear k4 k5 k6
    replace k0 := rcell k0
    replace k1 := rcell k1
    replace k2 := rcell k2
    replace k3 := rcell k3
    repeat ((first | refine wpT_op true rfl rfl rfl (fun K hK => ?_) | refine wpT_op false rfl rfl rfl (fun K hK => ?_)); go_simp; first | (refine hK _ ?_; clear hK K) | (apply Exists.intro; refine ⟨fun _ => ?_, hK _ ?_⟩; (first | with_reducible exact Calls.stay (F.out _) | with_reducible exact Calls.stay (G.out _) | with_reducible exact Calls.stay (P.out _)); clear hK K))
    refine wpT_lay _ rfl ?_ ?_
    · exact ⟨fun a w => by go_simp, fun y => rfl⟩
    intro nb hnb
    refine wpT_st 8 nb _ (Obj.cells #[.bool S, .int .u64 (dg K 0), .int .u64 (dg K 1), .int .u64 (dg K 2), .int .u64 (dg K 3), .int .u64 (dg K 4), .int .u64 (dg K 5), .int .u64 (dg K 6), .int .u64 (dg K 7)] 90) rfl rfl (upd_same _ _ _ _) hnb ⟨fun y => rfl, fun w1 hb1 hlt hx => ⟨_, ?_, touch_set9 hx (.bool S) (.int .u64 (dg K 0)) (.int .u64 (dg K 1)) (.int .u64 (dg K 2)) (.int .u64 (dg K 3)) (.int .u64 (dg K 4)) (.int .u64 (dg K 5)) (.int .u64 (dg K 6)) (.int .u64 (dg K 7))⟩⟩ ?_
    · have c0 := laid_cell hx 0 _ rfl
      have c1 := laid_cell hx 1 _ rfl
      have c2 := laid_cell hx 2 _ rfl
      have c3 := laid_cell hx 3 _ rfl
      have c4 := laid_cell hx 4 _ rfl
      have c5 := laid_cell hx 5 _ rfl
      have c6 := laid_cell hx 6 _ rfl
      have c7 := laid_cell hx 7 _ rfl
      have c8 := laid_cell hx 8 _ rfl
      have f0 := laid_free hx 0
      have f1 := laid_free hx 1
      have f2 := laid_free hx 2
      have f3 := laid_free hx 3
      have f4 := laid_free hx 4
      have f5 := laid_free hx 5
      have f6 := laid_free hx 6
      have f7 := laid_free hx 7
      have f8 := laid_free hx 8
      clear hx hb1
      go_simp
    repeat ((first | refine wpT_op true rfl rfl rfl (fun K hK => ?_) | refine wpT_op false rfl rfl rfl (fun K hK => ?_)); go_simp; first | (refine hK _ ?_; clear hK K) | (apply Exists.intro; refine ⟨fun _ => ?_, hK _ ?_⟩; (fail); clear hK K))
    refine wpT_nil ?_
    intro w2 hfr
    obtain ⟨l1, l2, l3⟩ := hfr.low 8 nb _ (upd_same _ _ _ _)
    have hb2 := hfr.below
    have m0 := laid_cell l3 0 _ rfl
    have m1 := laid_cell l3 1 _ rfl
    have m2 := laid_cell l3 2 _ rfl
    have m3 := laid_cell l3 3 _ rfl
    have m4 := laid_cell l3 4 _ rfl
    have m5 := laid_cell l3 5 _ rfl
    have m6 := laid_cell l3 6 _ rfl
    have m7 := laid_cell l3 7 _ rfl
    have m8 := laid_cell l3 8 _ rfl
    obtain ⟨hc2, hf2, hz2⟩ := own_stays hb2 k7
    have d0 : w2.cell? ⟨w.heap.size + 2, 0, none⟩ = some (.int .i64 0) := (hc2 0).trans K4.out
    have d1 : w2.cell? ⟨w.heap.size + 2, 1, none⟩ = some (.int .u64 0) := (hc2 1).trans K5.out
    have d2 : ∀ o, w2.frozen? ⟨w.heap.size + 2, o, none⟩ = false := fun o => (hf2 o).trans (K6.out o)
    have HW := Lib.hid (show Below w.heap.size w w2 from bl_call hbW hb2)
    clear l3 hfr hc2 hf2 hb2 hbW k0 k1 k2 k3
    go_wp2_with fail
    refine (B.out _).mono ?_
    rintro e w3 ⟨rfl, hb3⟩
    obtain ⟨hc3, hf3, hz3⟩ := own_stays hb3 (b := w.heap.size + 2) hz2
    have HW3 := Lib.hid (show Below w.heap.size w w3 from bl_call HW.out hb3)
    have d0' : w3.cell? ⟨w.heap.size + 2, 0, none⟩ = some (.int .i64 0) := (hc3 0).trans d0
    have d1' : w3.cell? ⟨w.heap.size + 2, 1, none⟩ = some (.int .u64 0) := (hc3 1).trans d1
    clear hb3
    rcases C1.out with ⟨e1, e2, rfl, rfl⟩ | ⟨e1, e2, e3⟩
    · have E1 := Lib.hid e1
      have E2 := Lib.hid e2
      clear e1 e2 C1
      go_wp2
      obtain ⟨u0, u1⟩ := set2 (.int .i64 (hiW V)) (.int .u64 (loW V)) d0' d1'
      refine bodyPost_ret (v := .tuple #[wideA V, .int .i64 0]) (by simp [results, Try.results77, go_sem, u0, u1, hz3]) rfl ⟨by rw [E1.out, E2.out], bl_alloc (bl_setCell (bl_setCell HW3.out _ (by simp; omega)) _ (by simp; omega)) _⟩
    · have E1 := Lib.hid e1
      have E2 := Lib.hid e2
      clear e1 e2 C1
      cases ok <;> cases vb <;> first | (exact absurd ⟨rfl, rfl⟩ e3) | skip
      all_goals
        clear e3
        go_wp2
        obtain ⟨u0, u1⟩ := set2 (.int .i64 0) (.int .u64 0) d0' d1'
        refine bodyPost_ret (v := .tuple #[.agg #[.int .i64 0, .int .u64 0], .int .i64 2]) (by simp [results, Try.results77, go_sem, u0, u1, hz3]) rfl ⟨by rw [E1.out, E2.out]; rfl, bl_alloc (bl_setCell (bl_setCell HW3.out _ (by simp; omega)) _ (by simp; omega)) _⟩
  rcases T' with ⟨h, h1, h2, h3⟩ | ⟨h, h1, h2, h3⟩ | ⟨h, h1, h2⟩
  · exact go (Lib.hid (.inl ⟨h, h1, h2, h3⟩))
  · exact go (Lib.hid (.inr ⟨h, h1, by rw [h3]; simp⟩))
  · exact go (Lib.hid (.inr ⟨h, h1, by rw [h2]; simp⟩))
set_option maxRecDepth 100000 in
set_option maxHeartbeats 8000000 in
theorem rsum_any (xs : List Int) (a : Option Addr) (cap : Nat) (w : World) (hn : xs.length ≤ 9223372036854775807) (hx : ∀ k, k < xs.length → In (xs.getD k 0)) (hs : SlI .i64 w a xs) :
    Calls Try.prog 75 #[.slice a xs.length cap] w fun e w' => e = .returned (.tuple #[.int .i64 (capN (sumI xs)), .int .i64 (errN (sumI xs))]) ∧ Below w.heap.size w w' := by
  have HX := Lib.hid hx
  have HS := Lib.hid hs
  clear hx hs
  have S := Lib.hid (fun k => sumI_take_In xs k HX.out hn)
  generalize hlen : xs.length = n at *
  have HL := Lib.hid hlen
  clear hlen
  go_enter Try.func75, Try.ntmps75
  go_wp2
  go_loopw [10] (fun i wr => ∃ k : Nat, k ≤ n ∧ i = .int .i64 k ∧ Below w.heap.size w wr ∧ w.heap.size < wr.heap.size ∧ wr.cell? ⟨w.heap.size, 0, none⟩ = some (.int .i64 (hiW (sumI (xs.take k)))) ∧ wr.cell? ⟨w.heap.size, 1, none⟩ = some (.int .u64 (loW (sumI (xs.take k)))) ∧ (∀ o, wr.frozen? ⟨w.heap.size, o, none⟩ = false)) (fun i _ => n - (intOf i).toNat)
  case atStart => exact ⟨0, by omega, rfl, (by repeat (with_reducible (first | exact Below.refl _ _ | assumption | refine bl_alloc ?_ _ | refine bl_drewN ?_ _ | refine bl_drew ?_ | refine bl_call ?_ (by assumption) | (refine bl_setCell ?_ _ (Nat.le_refl _)) | (refine bl_setCell ?_ _ (by first | omega | (simp; done) | (simp; omega)))))), by simp, by simp [sumI, hi_zero], by simp [sumI, lo_zero], by simp⟩
  case round =>
    obtain ⟨k, hk, rfl, hbr, hzr, q0, q1, qf⟩ := hrel
    by_cases hlt : k < n
    · obtain ⟨b, off, ea, hbz, hc⟩ := HS.out.at k (by rw [HL.out]; exact hlt)
      subst ea
      have hcell : wr.cell? ⟨b, off + k, none⟩ = some (.int .i64 (xs.getD k 0)) := by
        rw [hbr.cell (p := ⟨b, off + k, none⟩) hbz]; exact hc k (by rw [HL.out]; exact hlt)
      clear hc
      have hin := HX.out k hlt
      have hS := S.out k
      have hS1 := S.out (k + 1)
      rw [sumI_take_succ xs k (by rw [HL.out]; exact hlt)] at hS1
      obtain ⟨e1, e2⟩ := capW_of hS1
      have ST := Lib.hid (sumI_take_succ xs k (by rw [HL.out]; exact hlt))
      generalize xs.getD k 0 = x at *
      generalize sumI (xs.take k) = s at *
      have hxw := InW_of_In hin
      have OF := Lib.hid (fun w => rof_any x w hin)
      have AD := fun w => radd_any s x w hS hxw
      rw [e1, e2] at AD
      have AD := Lib.hid AD
      clear hS1 e1 e2 hin hxw hS
      have HB := Lib.hid hbr
      clear hbr
      go_wp2_with fail
      go_region_with (first | (go_at_call 78; refine (OF.out _).mono ?_; rintro e w1 ⟨rfl, hb1⟩; obtain ⟨hc1_0, hf1_0, hz1_0⟩ := own_stays hb1 (b := w.heap.size) (by first | (simp; done) | (simp; omega) | omega)) | (go_at_call 77; refine (AD.out _).mono ?_; rintro e w2 ⟨rfl, hb2⟩; obtain ⟨hc2_0, hf2_0, hz2_0⟩ := own_stays hb2 (b := w.heap.size) (by first | (simp; done) | (simp; omega) | omega)))
      all_goals
        have d0 : w2.cell? ⟨w.heap.size, 0, none⟩ = some (.int .i64 (hiW s)) := by rw [hc2_0, hc1_0]; simpa using q0
        have d1 : w2.cell? ⟨w.heap.size, 1, none⟩ = some (.int .u64 (loW s)) := by rw [hc2_0, hc1_0]; simpa using q1
        have d2 : ∀ o, w2.frozen? ⟨w.heap.size, o, none⟩ = false := by intro o; rw [hf2_0, hf1_0]; simpa using qf o
        have hb := HB.out
        have HW := Lib.hid (show Below w.heap.size w w2 from (by repeat (with_reducible (first | exact Below.refl _ _ | assumption | refine bl_alloc ?_ _ | refine bl_drewN ?_ _ | refine bl_drew ?_ | refine bl_call ?_ (by assumption) | (refine bl_setCell ?_ _ (Nat.le_refl _)) | (refine bl_setCell ?_ _ (by first | omega | (simp; done) | (simp; omega)))))))
        have hz2 := hz2_0
        clear hc1_0 hc2_0 hf1_0 hf2_0 hb1 hb2 hb q0 q1 qf
        go_wp2
        go_roundw
        case rel =>
          obtain ⟨s0, s1⟩ := set2 (.int .i64 (hiW (s + x))) (.int .u64 (loW (s + x))) d0 d1
          exact ⟨k + 1, by omega, by go_num, bl_setCell (bl_setCell HW.out _ (Nat.le_refl _)) _ (Nat.le_refl _), by simpa using hz2, by rw [ST.out]; exact (World.cell?_setCell_other _ _ _ _ (by simp)).trans s0, by rw [ST.out]; exact s1, by intro o; simpa using d2 o⟩
        case measure => simp [intOf]; omega
    · have hkn : k = n := by omega
      have T := Lib.hid (show xs.take k = xs by rw [List.take_of_length_le]; have := HL.out; omega)
      rw [T.out] at q0 q1
      have hS := S.out k
      rw [T.out] at hS
      generalize hs : sumI xs = s at *
      have HS := Lib.hid hs
      clear hs
      have HB := Lib.hid hbr
      go_wp2_with fail
      refine (rfit_any s _ hS).mono ?_
      rintro e w1 ⟨rfl, hb1⟩
      go_wp2
      go_ret2
      exact ⟨ret_ii (by rw [HS.out]) (by rw [HS.out]), bl_call HB.out hb1⟩
end Go.Proofs.Ytkejohmghacdhaa
