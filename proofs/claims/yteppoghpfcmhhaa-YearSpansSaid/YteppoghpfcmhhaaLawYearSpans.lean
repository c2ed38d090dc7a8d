import Derived.Test.YteppoghpfcmhhaaYearLive
import Derived.Test.YteppoghpfcmhhaaMathL
namespace Go.Proofs.Yteppoghpfcmhhaa
set_option linter.unusedVariables false
set_option linter.unusedSimpArgs false
open Go.RowKit
set_option maxRecDepth 100000 in
set_option maxHeartbeats 8000000 in
theorem yearSpans_any (c : CalI) (w : World) (hc : CalOk c) :
    Calls Try.prog 11 #[calA c] w fun e w' => e = .returned (.bool true) ∧ Below w.heap.size w w' := by
  have hs := hc.1
  have hs' := hs
  unfold maxLen at hs'
  by_cases hn : 100 < c.name.size
  · have hn' : (100 : Int) < c.name.size := by omega
    go_enter Try.func11, Try.ntmps11
    go_wp2_with fail
    refine (live14 _).mono ?_
    rintro e w1 ⟨rfl, hb1⟩
    obtain ⟨hc1_0, hf1_0, hz1_0⟩ := own_stays hb1 (b := w.heap.size) (by first | (simp; done) | (simp; omega) | omega)
    go_wp2_with fail
    go_ret
    exact ⟨rfl, (by repeat (with_reducible (first | exact Below.refl _ _ | assumption | refine bl_alloc ?_ _ | refine bl_drewN ?_ _ | refine bl_drew ?_ | refine bl_call ?_ (by assumption) | (refine bl_setCell ?_ _ (Nat.le_refl _)) | (refine bl_setCell ?_ _ (by simp)))))⟩
  have hn' : ¬ (100 : Int) < c.name.size := by omega
  have B := bounds_any c
  rcases Bool.eq_false_or_eq_true (calB c) with h | h
  · obtain ⟨s1, s2, s3, s4⟩ := serve_bd h
    obtain ⟨b1, b2, b3, b4, b5, b6⟩ := bo_bd h
    rw [h] at B
    have B := Lib.hid (fun w => B w hs)
    have S := fun w => astart_told c c.first w hs h (by omega) (by omega)
    have E := fun w => aend_told c c.last w hs h (by omega) (by omega)
    rw [← show boA c = endN c (c.first - 1) + 1 from if_pos h] at S
    rw [← show boB c = endN c c.last from if_pos h] at E
    have S := Lib.hid S
    have E := Lib.hid E
    clear hc hn h
    generalize boA c = P at *
    generalize boB c = R at *
    go_enter Try.func11, Try.ntmps11
    go_wp2_with fail
    refine (live14 _).mono ?_
    rintro e w1 ⟨rfl, hb1⟩
    obtain ⟨hc1_0, hf1_0, hz1_0⟩ := own_stays hb1 (b := w.heap.size) (by first | (simp; done) | (simp; omega) | omega)
    go_wp2_with fail
    refine (B.out _).mono ?_
    rintro e w2 ⟨rfl, hb2⟩
    obtain ⟨hc2_0, hf2_0, hz2_0⟩ := own_stays hb2 (b := w.heap.size) (by first | (simp; done) | (simp; omega) | omega)
    go_wp2_with fail
    refine (S.out _).mono ?_
    rintro e w3 ⟨rfl, hb3⟩
    obtain ⟨hc3_0, hf3_0, hz3_0⟩ := own_stays hb3 (b := w.heap.size) (by first | (simp; done) | (simp; omega) | omega)
    obtain ⟨hc3_1, hf3_1, hz3_1⟩ := own_stays hb3 (b := w2.heap.size) (by first | (simp; done) | (simp; omega) | omega)
    go_wp2_with fail
    refine (E.out _).mono ?_
    rintro e w4 ⟨rfl, hb4⟩
    obtain ⟨hc4_0, hf4_0, hz4_0⟩ := own_stays hb4 (b := w.heap.size) (by first | (simp; done) | (simp; omega) | omega)
    obtain ⟨hc4_1, hf4_1, hz4_1⟩ := own_stays hb4 (b := w2.heap.size) (by first | (simp; done) | (simp; omega) | omega)
    go_wp2_with fail
    go_ret
    exact ⟨ret_b (by first | rfl | (simp; done)), (by repeat (with_reducible (first | exact Below.refl _ _ | assumption | refine bl_alloc ?_ _ | refine bl_drewN ?_ _ | refine bl_drew ?_ | refine bl_call ?_ (by assumption) | (refine bl_setCell ?_ _ (Nat.le_refl _)) | (refine bl_setCell ?_ _ (by simp)))))⟩
  · rw [show boA c = 0 from if_neg (by simp [h]), show boB c = 0 from if_neg (by simp [h]), h] at B
    have B := Lib.hid (fun w => B w hs)
    have C := fcheck_any c
    rw [h] at C
    have C := Lib.hid (fun w => C w hs)
    clear hc hn h
    go_enter Try.func11, Try.ntmps11
    go_wp2_with fail
    refine (live14 _).mono ?_
    rintro e w1 ⟨rfl, hb1⟩
    obtain ⟨hc1_0, hf1_0, hz1_0⟩ := own_stays hb1 (b := w.heap.size) (by first | (simp; done) | (simp; omega) | omega)
    go_wp2_with fail
    refine (B.out _).mono ?_
    rintro e w2 ⟨rfl, hb2⟩
    obtain ⟨hc2_0, hf2_0, hz2_0⟩ := own_stays hb2 (b := w.heap.size) (by first | (simp; done) | (simp; omega) | omega)
    go_wp2_with fail
    refine (C.out _).mono ?_
    rintro e w3 ⟨rfl, hb3⟩
    obtain ⟨hc3_0, hf3_0, hz3_0⟩ := own_stays hb3 (b := w.heap.size) (by first | (simp; done) | (simp; omega) | omega)
    obtain ⟨hc3_1, hf3_1, hz3_1⟩ := own_stays hb3 (b := w2.heap.size) (by first | (simp; done) | (simp; omega) | omega)
    go_wp2_with fail
    go_ret
    exact ⟨ret_b (by first | rfl | (simp; done)), (by repeat (with_reducible (first | exact Below.refl _ _ | assumption | refine bl_alloc ?_ _ | refine bl_drewN ?_ _ | refine bl_drew ?_ | refine bl_call ?_ (by assumption) | (refine bl_setCell ?_ _ (Nat.le_refl _)) | (refine bl_setCell ?_ _ (by simp)))))⟩
end Go.Proofs.Yteppoghpfcmhhaa
