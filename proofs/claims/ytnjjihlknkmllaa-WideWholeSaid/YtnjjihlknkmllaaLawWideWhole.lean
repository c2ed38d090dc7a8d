import Derived.Test.YtnjjihlknkmllaaDivC
import Derived.Test.YtnjjihlknkmllaaWideD
namespace Go.Proofs.Ytnjjihlknkmllaa
set_option linter.unusedVariables false
set_option linter.unusedSimpArgs false
open Go.RowKit
theorem sum_InW {a b d : Int} (ha : In a) (hb : In b) (hd : In d) : InW (a * b + d) := by
  have h1 : (a * b).natAbs ≤ 9223372036854775808 * 9223372036854775808 := by
    rw [Int.natAbs_mul]; exact Nat.mul_le_mul (by unfold In at ha; omega) (by unfold In at hb; omega)
  unfold InW; unfold In at hd; omega
set_option maxRecDepth 100000 in
set_option maxHeartbeats 8000000 in
theorem wideWhole_any (a b c d : Int) (w : World) (ha : In a) (hb : In b) (hc : In c) (hd : In d) :
    Calls Try.prog 11 #[.int .i64 a, .int .i64 b, .int .i64 c, .int .i64 d] w fun e w' => e = .returned (.bool true) ∧ Below w.heap.size w w' := by
  have hx := sum_InW ha hb hd
  have hp := prod_InW ha hb
  have hdw := InW_of_In hd
  obtain ⟨s1, s2⟩ := capW_of hx
  have A := Lib.hid (fun w => wmul_any a b w ha hb)
  have B := Lib.hid (fun w => wadd_any _ _ w hp hdw)
  generalize a * b = p at *
  have s1' := s1
  rw [s1] at B
  rw [s2] at B
  clear s1' s1 s2
  by_cases c1 : c < 0
  · obtain ⟨d1, d2, d3⟩ := wd_neg (p + d) c c1
    have c2 : (c == 0) = false := by simp; omega
    have C := wdiv_any (p + d) c
    unfold wideA at C
    rw [d1, d2, d3, hi_zero, lo_zero] at C
    have C := Lib.hid (fun w => C w hx hc)
    clear d1 d2 d3
    go_enter Try.func11, Try.ntmps11
    go_wp2_with fail
    refine (live2 _).mono ?_
    rintro e w1 ⟨rfl, hb1⟩
    go_wp2_with fail
    refine (A.out _).mono ?_
    rintro e w2 ⟨rfl, hb2⟩
    go_wp2_with fail
    refine (wof_any _ _ hd).mono ?_
    rintro e w3 ⟨rfl, hb3⟩
    go_wp2_with fail
    refine (B.out _).mono ?_
    rintro e w4 ⟨rfl, hb4⟩
    go_wp2_with fail
    refine (C.out _).mono ?_
    rintro e w5 ⟨rfl, hb5⟩
    obtain ⟨hc5_0, hf5_0, hz5_0⟩ := own_stays hb5 (b := w4.heap.size) (by first | (simp; done) | (simp; omega) | omega)
    go_wp2_with fail
    go_ret
    exact ⟨ret_b (by first | rfl | (simp; done)), (by repeat (with_reducible (first | exact Below.refl _ _ | assumption | refine bl_alloc ?_ _ | refine bl_drewN ?_ _ | refine bl_drew ?_ | refine bl_call ?_ (by assumption) | (refine bl_setCell ?_ _ (Nat.le_refl _)) | (refine bl_setCell ?_ _ (by simp)))))⟩
  by_cases c2 : c = 0
  · subst c2
    obtain ⟨d1, d2, d3⟩ := wd_zero (p + d)
    have C := wdiv_any (p + d) 0
    unfold wideA at C
    rw [d1, d2, d3, hi_zero, lo_zero] at C
    have C := Lib.hid (fun w => C w hx hc)
    clear d1 d2 d3
    go_enter Try.func11, Try.ntmps11
    go_wp2_with fail
    refine (live2 _).mono ?_
    rintro e w1 ⟨rfl, hb1⟩
    go_wp2_with fail
    refine (A.out _).mono ?_
    rintro e w2 ⟨rfl, hb2⟩
    go_wp2_with fail
    refine (wof_any _ _ hd).mono ?_
    rintro e w3 ⟨rfl, hb3⟩
    go_wp2_with fail
    refine (B.out _).mono ?_
    rintro e w4 ⟨rfl, hb4⟩
    go_wp2_with fail
    refine (C.out _).mono ?_
    rintro e w5 ⟨rfl, hb5⟩
    obtain ⟨hc5_0, hf5_0, hz5_0⟩ := own_stays hb5 (b := w4.heap.size) (by first | (simp; done) | (simp; omega) | omega)
    go_wp2_with fail
    go_ret
    exact ⟨ret_b (by first | rfl | (simp; done)), (by repeat (with_reducible (first | exact Below.refl _ _ | assumption | refine bl_alloc ?_ _ | refine bl_drewN ?_ _ | refine bl_drew ?_ | refine bl_call ?_ (by assumption) | (refine bl_setCell ?_ _ (Nat.le_refl _)) | (refine bl_setCell ?_ _ (by simp)))))⟩
  have c3 : 0 < c := by omega
  have c4 : (c == 0) = false := by simp; omega
  have cb : c ≤ 9223372036854775807 := hc.2
  obtain ⟨d1, d2, d3⟩ := wd_pos (p + d) c c3
  have C := wdiv_any (p + d) c
  rw [d1, d2, d3] at C
  have C := Lib.hid (fun w => C w hx hc)
  clear d1 d2 d3
  obtain ⟨e1, e2, e3, e4, e5, e6, e7, e8⟩ := wide_div hx c3 cb
  clear e1 e2 e3 e6 e7 e8
  have m1 := Int.mul_ediv_add_emod (p + d) c
  have m2 := Int.emod_nonneg (p + d) (b := c) (by omega)
  have m3 := Int.emod_lt_of_pos (p + d) c3
  have mc : c * ((p + d) / c) = (p + d) / c * c := Int.mul_comm _ _
  have mm : (p + d) / c * c + (p + d) % c = p + d := by omega
  have MM := Lib.hid mm
  have H5 := Lib.hid e5
  have H4 := Lib.hid e4
  have HX := Lib.hid hx
  clear m1 mc mm e5 e4
  have e50 : 0 ≤ (p + d) % c ∧ (p + d) % c < c := ⟨m2, m3⟩
  generalize (p + d) / c = q at *
  generalize (p + d) % c = r at *
  rcases cap_cases q with ⟨f1, f2, f3⟩ | ⟨f1, f2, f3⟩
  · have F1 := Lib.hid (fun w => wfit_any q w H4.out)
    have D := Lib.hid (fun w => wmul_any q c w f3 hc)
    have hqc := prod_InW f3 hc
    have E := wadd_any (q * c) r
    rw [MM.out, (capW_of HX.out).1, (capW_of HX.out).2] at E
    have E := Lib.hid (fun w => E w hqc (InW_of_In H5.out))
    clear hqc hx
    generalize q * c = z at *
    go_enter Try.func11, Try.ntmps11
    go_wp2_with fail
    refine (live2 _).mono ?_
    rintro e w1 ⟨rfl, hb1⟩
    go_wp2_with fail
    refine (A.out _).mono ?_
    rintro e w2 ⟨rfl, hb2⟩
    go_wp2_with fail
    refine (wof_any _ _ hd).mono ?_
    rintro e w3 ⟨rfl, hb3⟩
    go_wp2_with fail
    refine (B.out _).mono ?_
    rintro e w4 ⟨rfl, hb4⟩
    go_wp2_with fail
    refine (C.out _).mono ?_
    rintro e w5 ⟨rfl, hb5⟩
    obtain ⟨hc5_0, hf5_0, hz5_0⟩ := own_stays hb5 (b := w4.heap.size) (by first | (simp; done) | (simp; omega) | omega)
    go_wp2_with fail
    refine (F1.out _).mono ?_
    rintro e w6 ⟨rfl, hb6⟩
    obtain ⟨hc6_0, hf6_0, hz6_0⟩ := own_stays hb6 (b := w4.heap.size) (by first | (simp; done) | (simp; omega) | omega)
    obtain ⟨hc6_1, hf6_1, hz6_1⟩ := own_stays hb6 (b := w5.heap.size) (by first | (simp; done) | (simp; omega) | omega)
    go_wp2_with fail
    refine (D.out _).mono ?_
    rintro e w7 ⟨rfl, hb7⟩
    obtain ⟨hc7_0, hf7_0, hz7_0⟩ := own_stays hb7 (b := w4.heap.size) (by first | (simp; done) | (simp; omega) | omega)
    obtain ⟨hc7_1, hf7_1, hz7_1⟩ := own_stays hb7 (b := w5.heap.size) (by first | (simp; done) | (simp; omega) | omega)
    go_wp2_with fail
    refine (wof_any _ _ H5.out).mono ?_
    rintro e w8 ⟨rfl, hb8⟩
    obtain ⟨hc8_0, hf8_0, hz8_0⟩ := own_stays hb8 (b := w4.heap.size) (by first | (simp; done) | (simp; omega) | omega)
    obtain ⟨hc8_1, hf8_1, hz8_1⟩ := own_stays hb8 (b := w5.heap.size) (by first | (simp; done) | (simp; omega) | omega)
    go_wp2_with fail
    refine (E.out _).mono ?_
    rintro e w9 ⟨rfl, hb9⟩
    obtain ⟨hc9_0, hf9_0, hz9_0⟩ := own_stays hb9 (b := w4.heap.size) (by first | (simp; done) | (simp; omega) | omega)
    obtain ⟨hc9_1, hf9_1, hz9_1⟩ := own_stays hb9 (b := w5.heap.size) (by first | (simp; done) | (simp; omega) | omega)
    go_wp2_with fail
    go_ret
    exact ⟨ret_b (by first | rfl | (simp; done)), (by repeat (with_reducible (first | exact Below.refl _ _ | assumption | refine bl_alloc ?_ _ | refine bl_drewN ?_ _ | refine bl_drew ?_ | refine bl_call ?_ (by assumption) | (refine bl_setCell ?_ _ (Nat.le_refl _)) | (refine bl_setCell ?_ _ (by simp)))))⟩
  · have F1 := Lib.hid (fun w => wfit_any q w H4.out)
    go_enter Try.func11, Try.ntmps11
    go_wp2_with fail
    refine (live2 _).mono ?_
    rintro e w1 ⟨rfl, hb1⟩
    go_wp2_with fail
    refine (A.out _).mono ?_
    rintro e w2 ⟨rfl, hb2⟩
    go_wp2_with fail
    refine (wof_any _ _ hd).mono ?_
    rintro e w3 ⟨rfl, hb3⟩
    go_wp2_with fail
    refine (B.out _).mono ?_
    rintro e w4 ⟨rfl, hb4⟩
    go_wp2_with fail
    refine (C.out _).mono ?_
    rintro e w5 ⟨rfl, hb5⟩
    obtain ⟨hc5_0, hf5_0, hz5_0⟩ := own_stays hb5 (b := w4.heap.size) (by first | (simp; done) | (simp; omega) | omega)
    go_wp2_with fail
    refine (F1.out _).mono ?_
    rintro e w6 ⟨rfl, hb6⟩
    obtain ⟨hc6_0, hf6_0, hz6_0⟩ := own_stays hb6 (b := w4.heap.size) (by first | (simp; done) | (simp; omega) | omega)
    obtain ⟨hc6_1, hf6_1, hz6_1⟩ := own_stays hb6 (b := w5.heap.size) (by first | (simp; done) | (simp; omega) | omega)
    go_wp2_with fail
    go_ret
    exact ⟨ret_b (by first | rfl | (simp; done)), (by repeat (with_reducible (first | exact Below.refl _ _ | assumption | refine bl_alloc ?_ _ | refine bl_drewN ?_ _ | refine bl_drew ?_ | refine bl_call ?_ (by assumption) | (refine bl_setCell ?_ _ (Nat.le_refl _)) | (refine bl_setCell ?_ _ (by simp)))))⟩
end Go.Proofs.Ytnjjihlknkmllaa
