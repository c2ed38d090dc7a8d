/- Contracts of the reference's chapter 2: MulDiv. -/
import Derived.Test.YtkejohmghacdhaaRwJ
namespace Go.Proofs.Ytkejohmghacdhaa
set_option linter.unusedVariables false
set_option linter.unusedSimpArgs false
open Go.RowKit
set_option maxHeartbeats 2000000 in
theorem rmuldiv_any (a b c : Int) (w : World) (ha : In a) (hb : In b) (hc : In c) :
    Calls Try.prog 57 #[.int .i64 a, .int .i64 b, .int .i64 c] w fun e w' => e = .returned (.tuple #[.int .i64 (mdQ (a * b) c), .int .i64 (mdR (a * b) c), .int .i64 (mdE (a * b) c)]) ∧ Below w.heap.size w w' := by
  have hp := prod_InW ha hb
  have A := Lib.hid (fun w => rmul_any a b w ha hb)
  generalize a * b = p at *
  have C := rwdiv_any p c
  have cb : c ≤ 9223372036854775807 := hc.2
  rcases md_ways p c with ⟨h, d1, d2, d3, e1, e2, e3, g1, g2, g3⟩ | ⟨h, d1, d2, d3, e1, e2, e3, g1, g2, g3⟩ | ⟨h, d1, d2, d3, g1, g2, g3⟩
  · have hq := (wide_div hp h cb).2.2.2.1
    rw [d1, d2, d3] at C
    have C := Lib.hid (fun w => C w hp hc)
    have F := Lib.hid (fun w => rfit_any (p / c) w hq)
    have G1 := Lib.hid g1
    have G2 := Lib.hid g2
    have G3 := Lib.hid g3
    clear d1 d2 d3 g1 g2 g3 hp hq
    generalize p / c = q at *
    generalize p % c = r at *
    go_enter Try.func57, Try.ntmps57
    go_wp2_with fail
    refine (A.out _).mono ?_
    rintro e w1 ⟨rfl, hb1⟩
    go_wp2_with fail
    refine (C.out _).mono ?_
    rintro e w2 ⟨rfl, hb2⟩
    go_wp2_with fail
    refine (F.out _).mono ?_
    rintro e w3 ⟨rfl, hb3⟩
    obtain ⟨hc3_0, hf3_0, hz3_0⟩ := own_stays hb3 (b := w2.heap.size) (by first | (simp; done) | (simp; omega) | omega)
    go_wp2_with fail
    go_ret3
    exact ⟨ret_iii G1.out.symm G2.out.symm G3.out.symm, (by repeat (with_reducible (first | exact Below.refl _ _ | assumption | refine bl_alloc ?_ _ | refine bl_drewN ?_ _ | refine bl_drew ?_ | refine bl_call ?_ (by assumption) | (refine bl_setCell ?_ _ (Nat.le_refl _)) | (refine bl_setCell ?_ _ (by simp)))))⟩
  · have hq := (wide_div hp h cb).2.2.2.1
    rw [d1, d2, d3] at C
    have C := Lib.hid (fun w => C w hp hc)
    have F := Lib.hid (fun w => rfit_any (p / c) w hq)
    have G1 := Lib.hid g1
    have G2 := Lib.hid g2
    have G3 := Lib.hid g3
    clear d1 d2 d3 g1 g2 g3 hp hq
    generalize p / c = q at *
    generalize p % c = r at *
    go_enter Try.func57, Try.ntmps57
    go_wp2_with fail
    refine (A.out _).mono ?_
    rintro e w1 ⟨rfl, hb1⟩
    go_wp2_with fail
    refine (C.out _).mono ?_
    rintro e w2 ⟨rfl, hb2⟩
    go_wp2_with fail
    refine (F.out _).mono ?_
    rintro e w3 ⟨rfl, hb3⟩
    obtain ⟨hc3_0, hf3_0, hz3_0⟩ := own_stays hb3 (b := w2.heap.size) (by first | (simp; done) | (simp; omega) | omega)
    go_wp2_with fail
    go_ret3
    exact ⟨ret_iii G1.out.symm G2.out.symm G3.out.symm, (by repeat (with_reducible (first | exact Below.refl _ _ | assumption | refine bl_alloc ?_ _ | refine bl_drewN ?_ _ | refine bl_drew ?_ | refine bl_call ?_ (by assumption) | (refine bl_setCell ?_ _ (Nat.le_refl _)) | (refine bl_setCell ?_ _ (by simp)))))⟩
  · rw [d1, d2] at C
    have C := Lib.hid (fun w => C w hp hc)
    have G1 := Lib.hid g1
    have G2 := Lib.hid g2
    have G3 := Lib.hid g3
    clear d1 d2 g1 g2 g3 hp
    generalize wdE c = e at *
    have d4 : (e != 0) = true := by simpa using d3
    go_enter Try.func57, Try.ntmps57
    go_wp2_with fail
    refine (A.out _).mono ?_
    rintro e w1 ⟨rfl, hb1⟩
    go_wp2_with fail
    refine (C.out _).mono ?_
    rintro e w2 ⟨rfl, hb2⟩
    go_wp2_with fail
    go_ret3
    exact ⟨ret_iii G1.out.symm G2.out.symm G3.out.symm, (by repeat (with_reducible (first | exact Below.refl _ _ | assumption | refine bl_alloc ?_ _ | refine bl_drewN ?_ _ | refine bl_drew ?_ | refine bl_call ?_ (by assumption) | (refine bl_setCell ?_ _ (Nat.le_refl _)) | (refine bl_setCell ?_ _ (by simp)))))⟩
end Go.Proofs.Ytkejohmghacdhaa
