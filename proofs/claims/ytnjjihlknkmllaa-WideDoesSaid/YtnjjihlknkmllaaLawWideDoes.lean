import Derived.Test.YtnjjihlknkmllaaRwH
import Derived.Test.YtnjjihlknkmllaaLawWideBack
namespace Go.Proofs.Ytnjjihlknkmllaa
set_option linter.unusedVariables false
set_option linter.unusedSimpArgs false
open Go.RowKit
set_option maxRecDepth 100000 in
set_option maxHeartbeats 8000000 in
theorem wideDoes_core (x y : Int) (w : World) (hx : InW x) (hy : InW y) :
    Calls Try.prog 9 #[wideA x, wideA y] w fun e w' => e = .returned (.bool true) ∧ Below w.heap.size w w' := by
  have A := Lib.hid (fun w => wadd_any x y w hx hy)
  have RA := Lib.hid (fun w => radd_any x y w hx hy)
  have N := Lib.hid (fun w => wneg_any x w hx)
  have RN := Lib.hid (fun w => rneg_any x w hx)
  have F := Lib.hid (fun w => wfit_any x w hx)
  have RF := Lib.hid (fun w => rfit_any x w hx)
  have C := Lib.hid (fun w => wcmp_any x y w)
  have RC := Lib.hid (fun w => rwcmp_any x y w hx hy)
  generalize capW (x + y) = v1 at *
  generalize errW (x + y) = v2 at *
  generalize capW (-x) = v3 at *
  generalize errW (-x) = v4 at *
  generalize capN x = v5 at *
  generalize errN x = v6 at *
  generalize cmpI x y = v7 at *
  go_enter Try.func9, Try.ntmps9
  go_wp2_with fail
  refine (live2 _).mono ?_
  rintro e w1 ⟨rfl, hb1⟩
  obtain ⟨hc1_0, hf1_0, hz1_0⟩ := own_stays hb1 (b := w.heap.size) (by first | (simp; done) | (simp; omega) | omega)
  obtain ⟨hc1_1, hf1_1, hz1_1⟩ := own_stays hb1 (b := w.heap.size + 1) (by first | (simp; done) | (simp; omega) | omega)
  go_wp2_with fail
  refine (A.out _).mono ?_
  rintro e w2 ⟨rfl, hb2⟩
  obtain ⟨hc2_0, hf2_0, hz2_0⟩ := own_stays hb2 (b := w.heap.size) (by first | (simp; done) | (simp; omega) | omega)
  obtain ⟨hc2_1, hf2_1, hz2_1⟩ := own_stays hb2 (b := w.heap.size + 1) (by first | (simp; done) | (simp; omega) | omega)
  go_wp2_with fail
  refine (RA.out _).mono ?_
  rintro e w3 ⟨rfl, hb3⟩
  obtain ⟨hc3_0, hf3_0, hz3_0⟩ := own_stays hb3 (b := w.heap.size) (by first | (simp; done) | (simp; omega) | omega)
  obtain ⟨hc3_1, hf3_1, hz3_1⟩ := own_stays hb3 (b := w.heap.size + 1) (by first | (simp; done) | (simp; omega) | omega)
  obtain ⟨hc3_2, hf3_2, hz3_2⟩ := own_stays hb3 (b := w2.heap.size) (by first | (simp; done) | (simp; omega) | omega)
  go_wp2_with fail
  refine (N.out _).mono ?_
  rintro e w4 ⟨rfl, hb4⟩
  obtain ⟨hc4_0, hf4_0, hz4_0⟩ := own_stays hb4 (b := w.heap.size) (by first | (simp; done) | (simp; omega) | omega)
  obtain ⟨hc4_1, hf4_1, hz4_1⟩ := own_stays hb4 (b := w.heap.size + 1) (by first | (simp; done) | (simp; omega) | omega)
  obtain ⟨hc4_2, hf4_2, hz4_2⟩ := own_stays hb4 (b := w2.heap.size) (by first | (simp; done) | (simp; omega) | omega)
  obtain ⟨hc4_3, hf4_3, hz4_3⟩ := own_stays hb4 (b := w3.heap.size) (by first | (simp; done) | (simp; omega) | omega)
  go_wp2_with fail
  refine (RN.out _).mono ?_
  rintro e w5 ⟨rfl, hb5⟩
  obtain ⟨hc5_0, hf5_0, hz5_0⟩ := own_stays hb5 (b := w.heap.size) (by first | (simp; done) | (simp; omega) | omega)
  obtain ⟨hc5_1, hf5_1, hz5_1⟩ := own_stays hb5 (b := w.heap.size + 1) (by first | (simp; done) | (simp; omega) | omega)
  obtain ⟨hc5_2, hf5_2, hz5_2⟩ := own_stays hb5 (b := w2.heap.size) (by first | (simp; done) | (simp; omega) | omega)
  obtain ⟨hc5_3, hf5_3, hz5_3⟩ := own_stays hb5 (b := w3.heap.size) (by first | (simp; done) | (simp; omega) | omega)
  obtain ⟨hc5_4, hf5_4, hz5_4⟩ := own_stays hb5 (b := w4.heap.size) (by first | (simp; done) | (simp; omega) | omega)
  go_wp2_with fail
  refine (F.out _).mono ?_
  rintro e w6 ⟨rfl, hb6⟩
  obtain ⟨hc6_0, hf6_0, hz6_0⟩ := own_stays hb6 (b := w.heap.size) (by first | (simp; done) | (simp; omega) | omega)
  obtain ⟨hc6_1, hf6_1, hz6_1⟩ := own_stays hb6 (b := w.heap.size + 1) (by first | (simp; done) | (simp; omega) | omega)
  obtain ⟨hc6_2, hf6_2, hz6_2⟩ := own_stays hb6 (b := w2.heap.size) (by first | (simp; done) | (simp; omega) | omega)
  obtain ⟨hc6_3, hf6_3, hz6_3⟩ := own_stays hb6 (b := w3.heap.size) (by first | (simp; done) | (simp; omega) | omega)
  obtain ⟨hc6_4, hf6_4, hz6_4⟩ := own_stays hb6 (b := w4.heap.size) (by first | (simp; done) | (simp; omega) | omega)
  obtain ⟨hc6_5, hf6_5, hz6_5⟩ := own_stays hb6 (b := w5.heap.size) (by first | (simp; done) | (simp; omega) | omega)
  go_wp2_with fail
  refine (RF.out _).mono ?_
  rintro e w7 ⟨rfl, hb7⟩
  obtain ⟨hc7_0, hf7_0, hz7_0⟩ := own_stays hb7 (b := w.heap.size) (by first | (simp; done) | (simp; omega) | omega)
  obtain ⟨hc7_1, hf7_1, hz7_1⟩ := own_stays hb7 (b := w.heap.size + 1) (by first | (simp; done) | (simp; omega) | omega)
  obtain ⟨hc7_2, hf7_2, hz7_2⟩ := own_stays hb7 (b := w2.heap.size) (by first | (simp; done) | (simp; omega) | omega)
  obtain ⟨hc7_3, hf7_3, hz7_3⟩ := own_stays hb7 (b := w3.heap.size) (by first | (simp; done) | (simp; omega) | omega)
  obtain ⟨hc7_4, hf7_4, hz7_4⟩ := own_stays hb7 (b := w4.heap.size) (by first | (simp; done) | (simp; omega) | omega)
  obtain ⟨hc7_5, hf7_5, hz7_5⟩ := own_stays hb7 (b := w5.heap.size) (by first | (simp; done) | (simp; omega) | omega)
  go_wp2_with fail
  go_wp2_with fail
  refine region_qb (fun W => W.cell? ⟨w.heap.size, 0, none⟩ = some (.int .i64 (hiW x)) ∧ W.cell? ⟨w.heap.size, 1, none⟩ = some (.int .u64 (loW x)) ∧ W.cell? ⟨w.heap.size + 1, 0, none⟩ = some (.int .i64 (hiW y)) ∧ W.cell? ⟨w.heap.size + 1, 1, none⟩ = some (.int .u64 (loW y)) ∧
    W.cell? ⟨w2.heap.size, 0, none⟩ = some (.int .i64 (hiW v1)) ∧ W.cell? ⟨w2.heap.size, 1, none⟩ = some (.int .u64 (loW v1)) ∧ W.cell? ⟨w3.heap.size, 0, none⟩ = some (.int .i64 (hiW v1)) ∧ W.cell? ⟨w3.heap.size, 1, none⟩ = some (.int .u64 (loW v1)) ∧
    W.cell? ⟨w4.heap.size, 0, none⟩ = some (.int .i64 (hiW v3)) ∧ W.cell? ⟨w4.heap.size, 1, none⟩ = some (.int .u64 (loW v3)) ∧ W.cell? ⟨w5.heap.size, 0, none⟩ = some (.int .i64 (hiW v3)) ∧ W.cell? ⟨w5.heap.size, 1, none⟩ = some (.int .u64 (loW v3)) ∧ Below w.heap.size w W)
    ⟨by go_simp, by go_simp, by go_simp, by go_simp, by go_simp, by go_simp, by go_simp, by go_simp, by go_simp, by go_simp, by go_simp, by go_simp, (by repeat (with_reducible (first | exact Below.refl _ _ | assumption | refine bl_alloc ?_ _ | refine bl_drewN ?_ _ | refine bl_drew ?_ | refine bl_call ?_ (by assumption) | (refine bl_setCell ?_ _ (Nat.le_refl _)) | (refine bl_setCell ?_ _ (by first | omega | (simp; done) | (simp; omega))))))⟩ (by kernel_rfl) (by kernel_rfl) ?_
  intro W ⟨k0, k1, k2, k3, k4, k5, k6, k7, k8, k9, ka, kb, hbW⟩
  replace k0 := rcell k0
  replace k1 := rcell k1
  replace k2 := rcell k2
  replace k3 := rcell k3
  replace k4 := rcell k4
  replace k5 := rcell k5
  replace k6 := rcell k6
  replace k7 := rcell k7
  replace k8 := rcell k8
  replace k9 := rcell k9
  replace ka := rcell ka
  replace kb := rcell kb
  repeat (quiet_step (first | with_reducible exact Calls.regrown_of (C.out _) | with_reducible exact Calls.regrown_of (RC.out _)))
  refine wpQuiet_nil ?_
  intro w9 hb9
  go_wp2
  go_ret
  exact ⟨ret_b (by first | rfl | (simp; done)), bl_call hbW hb9⟩
theorem wideDoes_any (h1 l1 h2 l2 : Int) (w : World) (i1 : In h1) (j1 : InU l1) (i2 : In h2) (j2 : InU l2) :
    Calls Try.prog 9 #[.agg #[.int .i64 h1, .int .u64 l1], .agg #[.int .i64 h2, .int .u64 l2]] w fun e w' => e = .returned (.bool true) ∧ Below w.heap.size w w' := by
  obtain ⟨a, ha, rfl, rfl⟩ := wide_of i1 j1
  obtain ⟨b, hb, rfl, rfl⟩ := wide_of i2 j2
  exact wideDoes_core a b w ha hb
end Go.Proofs.Ytnjjihlknkmllaa
