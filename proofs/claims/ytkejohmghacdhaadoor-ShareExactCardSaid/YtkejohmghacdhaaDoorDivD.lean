/- Contract of the package wide: MulDiv. -/
import Derived.Test.YtkejohmghacdhaaDoorDivC
namespace Go.Proofs.YtkejohmghacdhaaDoor
set_option linter.unusedVariables false
set_option linter.unusedSimpArgs false
open Go.RowKit
/-- a product divided: the quotient, what is left over, and the error -/
def mdQ (p c : Int) : Int := if 0 < c ∧ fitB (p / c) = true then p / c else 0
def mdR (p c : Int) : Int := if 0 < c ∧ fitB (p / c) = true then p % c else 0
def mdE (p c : Int) : Int := if 0 < c then errN (p / c) else wdE c
theorem md_ways (p c : Int) : (0 < c ∧ wdQ p c = p / c ∧ wdR p c = p % c ∧ wdE c = 0 ∧ capN (p / c) = p / c ∧ errN (p / c) = 0 ∧ In (p / c) ∧ mdQ p c = p / c ∧ mdR p c = p % c ∧ mdE p c = 0) ∨
    (0 < c ∧ wdQ p c = p / c ∧ wdR p c = p % c ∧ wdE c = 0 ∧ capN (p / c) = 0 ∧ errN (p / c) = 2 ∧ ¬ In (p / c) ∧ mdQ p c = 0 ∧ mdR p c = 0 ∧ mdE p c = 2) ∨
    (c ≤ 0 ∧ wdQ p c = 0 ∧ wdR p c = 0 ∧ (wdE c == 0) = false ∧ mdQ p c = 0 ∧ mdR p c = 0 ∧ mdE p c = wdE c) := by
  by_cases h : 0 < c
  · obtain ⟨d1, d2, d3⟩ := wd_pos p c h
    rcases cap_cases (p / c) with ⟨c1, c2, c3⟩ | ⟨c1, c2, c3⟩
    · have f := fitB_of c3
      exact .inl ⟨h, d1, d2, d3, c1, c2, c3, by unfold mdQ; rw [if_pos ⟨h, f⟩], by unfold mdR; rw [if_pos ⟨h, f⟩], by unfold mdE; rw [if_pos h, c2]⟩
    · have f : ¬ (0 < c ∧ fitB (p / c) = true) := fun hh => c3 ((fitB_iff _).1 hh.2)
      exact .inr (.inl ⟨h, d1, d2, d3, c1, c2, c3, by unfold mdQ; rw [if_neg f], by unfold mdR; rw [if_neg f], by unfold mdE; rw [if_pos h, c2]⟩)
  · refine .inr (.inr ⟨by omega, by unfold wdQ; rw [if_neg h], by unfold wdR; rw [if_neg h], ?_, by unfold mdQ; rw [if_neg (fun hh => h hh.1)], by unfold mdR; rw [if_neg (fun hh => h hh.1)], by unfold mdE; rw [if_neg h]⟩)
    unfold wdE
    by_cases c0 : c = 0
    · rw [if_pos c0]; rfl
    · rw [if_neg c0, if_pos (by omega)]; rfl
set_option maxHeartbeats 2000000 in
theorem muldiv_any (a b c : Int) (w : World) (ha : In a) (hb : In b) (hc : In c) :
    Calls Tryd.prog 44 #[.int .i64 a, .int .i64 b, .int .i64 c] w fun e w' => e = .returned (.tuple #[.int .i64 (mdQ (a * b) c), .int .i64 (mdR (a * b) c), .int .i64 (mdE (a * b) c)]) ∧ Below w.heap.size w w' := by
  have hp := prod_InW ha hb
  have A := Lib.hid (fun w => wmul_any a b w ha hb)
  generalize a * b = p at *
  have C := wdiv_any p c
  have cb : c ≤ 9223372036854775807 := hc.2
  rcases md_ways p c with ⟨h, d1, d2, d3, e1, e2, e3, g1, g2, g3⟩ | ⟨h, d1, d2, d3, e1, e2, e3, g1, g2, g3⟩ | ⟨h, d1, d2, d3, g1, g2, g3⟩
  · have hq := (wide_div hp h cb).2.2.2.1
    rw [d1, d2, d3] at C
    have C := Lib.hid (fun w => C w hp hc)
    have F := Lib.hid (fun w => wfit_any (p / c) w hq)
    have G1 := Lib.hid g1
    have G2 := Lib.hid g2
    have G3 := Lib.hid g3
    clear d1 d2 d3 g1 g2 g3 hp hq
    generalize p / c = q at *
    generalize p % c = r at *
    go_enter Tryd.func44, Tryd.ntmps44
    go_wp2_with fail
    refine (A.out _).mono ?_
    rintro e w1 ⟨rfl, hb1⟩
    go_wp2_with fail
    refine (C.out _).mono ?_
    rintro e w2 ⟨rfl, hb2⟩
    go_wp2_with fail
    refine (F.out _).mono ?_
    rintro e w3 ⟨rfl, hb3⟩
    obtain ⟨hc3_0, hf3_0, hz3_0⟩ := own_stays hb3 (b := w2.heap.size) (by first | (simp; done) | (simp; omega) | omega)
    go_wp2_with fail
    go_ret3
    exact ⟨ret_iii G1.out.symm G2.out.symm G3.out.symm, (by repeat (with_reducible (first | exact Below.refl _ _ | assumption | refine bl_alloc ?_ _ | refine bl_drewN ?_ _ | refine bl_drew ?_ | refine bl_call ?_ (by assumption) | (refine bl_setCell ?_ _ (Nat.le_refl _)) | (refine bl_setCell ?_ _ (by simp)))))⟩
  · have hq := (wide_div hp h cb).2.2.2.1
    rw [d1, d2, d3] at C
    have C := Lib.hid (fun w => C w hp hc)
    have F := Lib.hid (fun w => wfit_any (p / c) w hq)
    have G1 := Lib.hid g1
    have G2 := Lib.hid g2
    have G3 := Lib.hid g3
    clear d1 d2 d3 g1 g2 g3 hp hq
    generalize p / c = q at *
    generalize p % c = r at *
    go_enter Tryd.func44, Tryd.ntmps44
    go_wp2_with fail
    refine (A.out _).mono ?_
    rintro e w1 ⟨rfl, hb1⟩
    go_wp2_with fail
    refine (C.out _).mono ?_
    rintro e w2 ⟨rfl, hb2⟩
    go_wp2_with fail
    refine (F.out _).mono ?_
    rintro e w3 ⟨rfl, hb3⟩
    obtain ⟨hc3_0, hf3_0, hz3_0⟩ := own_stays hb3 (b := w2.heap.size) (by first | (simp; done) | (simp; omega) | omega)
    go_wp2_with fail
    go_ret3
    exact ⟨ret_iii G1.out.symm G2.out.symm G3.out.symm, (by repeat (with_reducible (first | exact Below.refl _ _ | assumption | refine bl_alloc ?_ _ | refine bl_drewN ?_ _ | refine bl_drew ?_ | refine bl_call ?_ (by assumption) | (refine bl_setCell ?_ _ (Nat.le_refl _)) | (refine bl_setCell ?_ _ (by simp)))))⟩
  · rw [d1, d2] at C
    have C := Lib.hid (fun w => C w hp hc)
    have G1 := Lib.hid g1
    have G2 := Lib.hid g2
    have G3 := Lib.hid g3
    clear d1 d2 g1 g2 g3 hp
    generalize wdE c = e at *
    have d4 : (e != 0) = true := by simpa using d3
    go_enter Tryd.func44, Tryd.ntmps44
    go_wp2_with fail
    refine (A.out _).mono ?_
    rintro e w1 ⟨rfl, hb1⟩
    go_wp2_with fail
    refine (C.out _).mono ?_
    rintro e w2 ⟨rfl, hb2⟩
    go_wp2_with fail
    go_ret3
    exact ⟨ret_iii G1.out.symm G2.out.symm G3.out.symm, (by repeat (with_reducible (first | exact Below.refl _ _ | assumption | refine bl_alloc ?_ _ | refine bl_drewN ?_ _ | refine bl_drew ?_ | refine bl_call ?_ (by assumption) | (refine bl_setCell ?_ _ (Nat.le_refl _)) | (refine bl_setCell ?_ _ (by simp)))))⟩
end Go.Proofs.YtkejohmghacdhaaDoor
