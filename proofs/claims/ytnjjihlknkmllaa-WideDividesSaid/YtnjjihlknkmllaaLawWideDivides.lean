import Derived.Test.YtnjjihlknkmllaaRwK
import Derived.Test.YtnjjihlknkmllaaLawWideBack
namespace Go.Proofs.Ytnjjihlknkmllaa
set_option linter.unusedVariables false
set_option linter.unusedSimpArgs false
open Go.RowKit
set_option maxRecDepth 100000 in
set_option maxHeartbeats 8000000 in
theorem wideDivides_core (x a b c : Int) (w : World) (hx : InW x) (ha : In a) (hb : In b) (hc : In c) :
    Calls Try.prog 12 #[wideA x, .int .i64 a, .int .i64 b, .int .i64 c] w fun e w' => e = .returned (.bool true) ∧ Below w.heap.size w w' := by
  have D := Lib.hid (fun w => wdiv_any x c w hx hc)
  have RD := Lib.hid (fun w => rwdiv_any x c w hx hc)
  have M := Lib.hid (fun w => muldiv_any a b c w ha hb hc)
  have RM := Lib.hid (fun w => rmuldiv_any a b c w ha hb hc)
  have P := Lib.hid (fun w => wmul_any a b w ha hb)
  have RP := Lib.hid (fun w => rmul_any a b w ha hb)
  have O := Lib.hid (fun w => wof_any a w ha)
  have RO := Lib.hid (fun w => rof_any a w ha)
  generalize wdQ x c = v1 at *
  generalize wdR x c = v2 at *
  generalize wdE c = v3 at *
  generalize mdQ (a * b) c = v4 at *
  generalize mdR (a * b) c = v5 at *
  generalize mdE (a * b) c = v6 at *
  generalize a * b = p at *
  go_enter Try.func12, Try.ntmps12
  go_wp2_with fail
  refine (live2 _).mono ?_
  rintro e w1 ⟨rfl, hb1⟩
  obtain ⟨hc1_0, hf1_0, hz1_0⟩ := own_stays hb1 (b := w.heap.size) (by first | (simp; done) | (simp; omega) | omega)
  go_wp2_with fail
  refine (D.out _).mono ?_
  rintro e w2 ⟨rfl, hb2⟩
  obtain ⟨hc2_0, hf2_0, hz2_0⟩ := own_stays hb2 (b := w.heap.size) (by first | (simp; done) | (simp; omega) | omega)
  go_wp2_with fail
  refine (RD.out _).mono ?_
  rintro e w3 ⟨rfl, hb3⟩
  obtain ⟨hc3_0, hf3_0, hz3_0⟩ := own_stays hb3 (b := w.heap.size) (by first | (simp; done) | (simp; omega) | omega)
  obtain ⟨hc3_1, hf3_1, hz3_1⟩ := own_stays hb3 (b := w2.heap.size) (by first | (simp; done) | (simp; omega) | omega)
  go_wp2_with fail
  refine (M.out _).mono ?_
  rintro e w4 ⟨rfl, hb4⟩
  obtain ⟨hc4_0, hf4_0, hz4_0⟩ := own_stays hb4 (b := w.heap.size) (by first | (simp; done) | (simp; omega) | omega)
  obtain ⟨hc4_1, hf4_1, hz4_1⟩ := own_stays hb4 (b := w2.heap.size) (by first | (simp; done) | (simp; omega) | omega)
  obtain ⟨hc4_2, hf4_2, hz4_2⟩ := own_stays hb4 (b := w3.heap.size) (by first | (simp; done) | (simp; omega) | omega)
  go_wp2_with fail
  refine (RM.out _).mono ?_
  rintro e w5 ⟨rfl, hb5⟩
  obtain ⟨hc5_0, hf5_0, hz5_0⟩ := own_stays hb5 (b := w.heap.size) (by first | (simp; done) | (simp; omega) | omega)
  obtain ⟨hc5_1, hf5_1, hz5_1⟩ := own_stays hb5 (b := w2.heap.size) (by first | (simp; done) | (simp; omega) | omega)
  obtain ⟨hc5_2, hf5_2, hz5_2⟩ := own_stays hb5 (b := w3.heap.size) (by first | (simp; done) | (simp; omega) | omega)
  go_wp2_with fail
  refine (P.out _).mono ?_
  rintro e w6 ⟨rfl, hb6⟩
  go_wp2_with fail
  refine (RP.out _).mono ?_
  rintro e w7 ⟨rfl, hb7⟩
  go_wp2_with fail
  refine (O.out _).mono ?_
  rintro e w8 ⟨rfl, hb8⟩
  go_wp2_with fail
  refine (RO.out _).mono ?_
  rintro e w9 ⟨rfl, hb9⟩
  go_wp2_with fail
  go_ret
  exact ⟨ret_b (by first | rfl | (simp; done)), (by repeat (with_reducible (first | exact Below.refl _ _ | assumption | refine bl_alloc ?_ _ | refine bl_drewN ?_ _ | refine bl_drew ?_ | refine bl_call ?_ (by assumption) | (refine bl_setCell ?_ _ (Nat.le_refl _)) | (refine bl_setCell ?_ _ (by first | omega | (simp; done) | (simp; omega))))))⟩
theorem wideDivides_any (h l a b c : Int) (w : World) (i1 : In h) (j1 : InU l) (ha : In a) (hb : In b) (hc : In c) :
    Calls Try.prog 12 #[.agg #[.int .i64 h, .int .u64 l], .int .i64 a, .int .i64 b, .int .i64 c] w fun e w' => e = .returned (.bool true) ∧ Below w.heap.size w w' := by
  obtain ⟨x, hx, rfl, rfl⟩ := wide_of i1 j1
  exact wideDivides_core x a b c w hx ha hb hc
end Go.Proofs.Ytnjjihlknkmllaa
