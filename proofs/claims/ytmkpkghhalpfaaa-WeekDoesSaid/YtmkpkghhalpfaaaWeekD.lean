/- Contracts of the package week: Day; the example. -/
import Derived.Test.YtmkpkghhalpfaaaWeekC
namespace Go.Proofs.Ytmkpkghhalpfaaa
open Go.RowKit
set_option linter.unusedVariables false
/-- where an ISO day would be -/
def wkB (y : Int) : Int := if y < 1600 then firstI 1600 - 364 else firstI y
def wkC (y k d : Int) : Int := wkB y + 7 * (k - 1) + d - 1
noncomputable def wkOk (y k d : Int) : Bool := decide (y ≤ 9999 ∧ 1 ≤ k ∧ k ≤ 53 ∧ 1 ≤ d ∧ d ≤ 7) && (isB (wkC y k d) && (decide (isoY (wkC y k d) = y) && (decide (isoW (wkC y k d) = k) && decide (isoD (wkC y k d) = d))))
noncomputable def wkV (y k d : Int) : Int := if wkOk y k d = true then wkC y k d else 0
theorem wk_facts (y k d : Int) : (y ≤ 9999 ∧ 1 ≤ k ∧ k ≤ 53 ∧ 1 ≤ d ∧ d ≤ 7 ∧ isB (wkC y k d) = true ∧ isoY (wkC y k d) = y ∧ isoW (wkC y k d) = k ∧ isoD (wkC y k d) = d ∧ wkOk y k d = true) ∨
    (wkOk y k d = false ∧ (9999 < y ∨ (y ≤ 9999 ∧ k < 1) ∨ (y ≤ 9999 ∧ 1 ≤ k ∧ 53 < k) ∨ (y ≤ 9999 ∧ 1 ≤ k ∧ k ≤ 53 ∧ d < 1) ∨ (y ≤ 9999 ∧ 1 ≤ k ∧ k ≤ 53 ∧ 1 ≤ d ∧ 7 < d))) ∨
    (wkOk y k d = false ∧ y ≤ 9999 ∧ 1 ≤ k ∧ k ≤ 53 ∧ 1 ≤ d ∧ d ≤ 7 ∧ (isB (wkC y k d) = false ∨ (isB (wkC y k d) = true ∧ ((isoY (wkC y k d) == y) = false ∨ (isoY (wkC y k d) = y ∧ (isoW (wkC y k d) == k) = false) ∨ (isoY (wkC y k d) = y ∧ isoW (wkC y k d) = k ∧ (isoD (wkC y k d) == d) = false))))) := by
  rcases Bool.eq_false_or_eq_true (wkOk y k d) with h | h
  · have h' := h
    unfold wkOk at h'
    simp only [Bool.and_eq_true, decide_eq_true_eq] at h'
    obtain ⟨⟨h1, h2, h3, h4, h5⟩, h6, h7, h8, h9⟩ := h'
    exact .inl ⟨h1, h2, h3, h4, h5, h6, h7, h8, h9, h⟩
  · refine .inr ?_
    by_cases c1 : y ≤ 9999 ∧ 1 ≤ k ∧ k ≤ 53 ∧ 1 ≤ d ∧ d ≤ 7
    · refine .inr ⟨h, c1.1, c1.2.1, c1.2.2.1, c1.2.2.2.1, c1.2.2.2.2, ?_⟩
      unfold wkOk at h
      simp only [beq_eq_false_iff_ne]
      rcases Bool.eq_false_or_eq_true (isB (wkC y k d)) with i | i
      · refine .inr ⟨i, ?_⟩
        by_cases a : isoY (wkC y k d) = y
        · by_cases b : isoW (wkC y k d) = k
          · refine .inr (.inr ⟨a, b, fun e => ?_⟩)
            simp [c1, i, a, b, e] at h
          · exact .inr (.inl ⟨a, b⟩)
        · exact .inl a
      · exact .inl i
    · exact .inl ⟨h, by omega⟩
theorem firV_1600 : firV 1600 = firstI 1600 ∧ dateE (thereB 1600 1) = 0 ∧ firstI 1600 = 2 := by decide +kernel
theorem firV_no {y : Int} (h : 9999 < y) : firV y = 0 ∧ dateE (thereB y 1) = 4 := by
  have h' : thereB y 1 = false := by unfold thereB; simp; omega
  exact ⟨by unfold firV; rw [h']; rfl, dateE_false h'⟩
theorem firV_ext (y : Int) : (9999 < y ∧ firV y = 0 ∧ dateE (thereB y 1) = 4) ∨ y < 1600 ∨ (1600 ≤ y ∧ y ≤ 9999 ∧ firV y = firstI y ∧ dateE (thereB y 1) = 0 ∧ -4 ≤ firstI y ∧ firstI y ≤ 3068100) := by
  by_cases h : 9999 < y
  · exact .inl ⟨h, firV_no h⟩
  · by_cases h' : y < 1600
    · exact .inr (.inl h')
    · obtain ⟨f1, f2⟩ := firV_of (y := y) (by omega) (by omega)
      have fb := first_bd y
      have yb := years_bd y (by omega) (by omega)
      exact .inr (.inr ⟨by omega, by omega, f1, f2, by omega, by omega⟩)
theorem wk_base (y k d : Int) (h : y ≤ 9999) (hk : 1 ≤ k ∧ k ≤ 53) (hd : 1 ≤ d ∧ d ≤ 7) : (y < 1600 ∧ firstI 1600 - 364 + 7 * (k - 1) + d - 1 = wkC y k d ∧ -400 ≤ wkC y k d ∧ wkC y k d ≤ 400) ∨ (1600 ≤ y ∧ firV y = firstI y ∧ dateE (thereB y 1) = 0 ∧ firstI y + 7 * (k - 1) + d - 1 = wkC y k d ∧ -4 ≤ firstI y ∧ firstI y ≤ 3068100) := by
  unfold wkC wkB
  by_cases c : y < 1600
  · have := firV_1600.2.2
    refine .inl ⟨c, by rw [if_pos c], by rw [if_pos c]; omega, by rw [if_pos c]; omega⟩
  · obtain ⟨f1, f2⟩ := firV_of (y := y) (by omega) h
    have fb := first_bd y
    have yb := years_bd y (by omega) (by omega)
    exact .inr ⟨by omega, f1, f2, by rw [if_neg c], by omega, by omega⟩
set_option maxRecDepth 100000 in
set_option maxHeartbeats 4000000 in
theorem wday_any (y k d : Int) (w : World) :
    Calls Try.prog 35 #[isoA y k d] w fun e w' => e = .returned (.tuple #[.int .i64 (wkV y k d), .int .i64 (dateE (wkOk y k d))]) ∧ Below w.heap.size w w' := by
  obtain ⟨x1, x2, x3⟩ := firV_1600
  have x4 : 2 ≤ firstI 1600 ∧ firstI 1600 ≤ 2 := by omega
  clear x3
  rcases wk_facts y k d with ⟨h1, h2, h3, h4, h5, i, a, b, c, ok⟩ | ⟨ok, h⟩ | ⟨ok, h1, h2, h3, h4, h5, h⟩
  · have V := Lib.hid (show wkV y k d = wkC y k d by unfold wkV; rw [if_pos ok])
    have D := Lib.hid (dateE_true ok)
    have di := dateE_true i
    clear i ok
    rcases wk_base y k d h1 ⟨h2, h3⟩ ⟨h4, h5⟩ with ⟨b1, b2, b3, b4⟩ | ⟨b1, b2, b3, b4, b5, b6⟩
    all_goals
      go_enter Try.func35, Try.ntmps35
      go_wp2_with fail
      refine (first_any _ _).mono ?_
      rintro e w1 ⟨rfl, hb1⟩
      obtain ⟨hc1_0, hf1_0, hz1_0⟩ := own_stays hb1 (b := w.heap.size) (by first | (simp; done) | (simp; omega) | omega)
      go_wp2_with fail
      refine (iso_any _ _).mono ?_
      rintro e w2 ⟨rfl, hb2⟩
      obtain ⟨hc2_0, hf2_0, hz2_0⟩ := own_stays hb2 (b := w.heap.size) (by first | (simp; done) | (simp; omega) | omega)
      go_wp2_with fail
      go_ret2
      exact ⟨ret_ii V.out.symm D.out.symm, (by repeat (with_reducible (first | exact Below.refl _ _ | assumption | refine bl_alloc ?_ _ | refine bl_drewN ?_ _ | refine bl_drew ?_ | refine bl_call ?_ (by assumption) | (refine bl_setCell ?_ _ (Nat.le_refl _)) | (refine bl_setCell ?_ _ (by simp)))))⟩
  · have V := Lib.hid (show wkV y k d = 0 by unfold wkV; rw [ok]; rfl)
    have D := Lib.hid (dateE_false ok)
    clear ok
    rcases firV_ext y with ⟨g0, g1, g2⟩ | g0 | ⟨g0, g1, g2, g3, g4, g5⟩
    · clear h
      go_enter Try.func35, Try.ntmps35
      go_wp2_with fail
      refine (first_any _ _).mono ?_
      rintro e w1 ⟨rfl, hb1⟩
      obtain ⟨hc1_0, hf1_0, hz1_0⟩ := own_stays hb1 (b := w.heap.size) (by first | (simp; done) | (simp; omega) | omega)
      go_wp2_with fail
      go_ret2
      exact ⟨ret_ii V.out.symm D.out.symm, (by repeat (with_reducible (first | exact Below.refl _ _ | assumption | refine bl_alloc ?_ _ | refine bl_drewN ?_ _ | refine bl_drew ?_ | refine bl_call ?_ (by assumption) | (refine bl_setCell ?_ _ (Nat.le_refl _)) | (refine bl_setCell ?_ _ (by simp)))))⟩
    · rcases h with h | ⟨h, h1⟩ | ⟨h, h1, h2⟩ | ⟨h, h1, h2, h3⟩ | ⟨h, h1, h2, h3, h4⟩
      · exfalso; omega
      all_goals
        go_enter Try.func35, Try.ntmps35
        go_wp2_with fail
        refine (first_any _ _).mono ?_
        rintro e w1 ⟨rfl, hb1⟩
        obtain ⟨hc1_0, hf1_0, hz1_0⟩ := own_stays hb1 (b := w.heap.size) (by first | (simp; done) | (simp; omega) | omega)
        go_wp2_with fail
        go_ret2
        exact ⟨ret_ii V.out.symm D.out.symm, (by repeat (with_reducible (first | exact Below.refl _ _ | assumption | refine bl_alloc ?_ _ | refine bl_drewN ?_ _ | refine bl_drew ?_ | refine bl_call ?_ (by assumption) | (refine bl_setCell ?_ _ (Nat.le_refl _)) | (refine bl_setCell ?_ _ (by simp)))))⟩
    · rcases h with h | ⟨h, h1⟩ | ⟨h, h1, h2⟩ | ⟨h, h1, h2, h3⟩ | ⟨h, h1, h2, h3, h4⟩
      · exfalso; omega
      all_goals
        go_enter Try.func35, Try.ntmps35
        go_wp2_with fail
        refine (first_any _ _).mono ?_
        rintro e w1 ⟨rfl, hb1⟩
        obtain ⟨hc1_0, hf1_0, hz1_0⟩ := own_stays hb1 (b := w.heap.size) (by first | (simp; done) | (simp; omega) | omega)
        go_wp2_with fail
        go_ret2
        exact ⟨ret_ii V.out.symm D.out.symm, (by repeat (with_reducible (first | exact Below.refl _ _ | assumption | refine bl_alloc ?_ _ | refine bl_drewN ?_ _ | refine bl_drew ?_ | refine bl_call ?_ (by assumption) | (refine bl_setCell ?_ _ (Nat.le_refl _)) | (refine bl_setCell ?_ _ (by simp)))))⟩
  · have V := Lib.hid (show wkV y k d = 0 by unfold wkV; rw [ok]; rfl)
    have D := Lib.hid (dateE_false ok)
    clear ok
    rcases wk_base y k d h1 ⟨h2, h3⟩ ⟨h4, h5⟩ with ⟨b1, b2, b3, b4⟩ | ⟨b1, b2, b3, b4, b5, b6⟩
    all_goals
      rcases h with i | ⟨i, a | ⟨a, b⟩ | ⟨a, b, c⟩⟩
      all_goals
        first
          | have di := dateE_true i
          | have di := dateE_false i
        clear i
        go_enter Try.func35, Try.ntmps35
        go_wp2_with fail
        refine (first_any _ _).mono ?_
        rintro e w1 ⟨rfl, hb1⟩
        obtain ⟨hc1_0, hf1_0, hz1_0⟩ := own_stays hb1 (b := w.heap.size) (by first | (simp; done) | (simp; omega) | omega)
        go_wp2_with fail
        refine (iso_any _ _).mono ?_
        rintro e w2 ⟨rfl, hb2⟩
        obtain ⟨hc2_0, hf2_0, hz2_0⟩ := own_stays hb2 (b := w.heap.size) (by first | (simp; done) | (simp; omega) | omega)
        go_wp2_with fail
        go_ret2
        exact ⟨ret_ii V.out.symm D.out.symm, (by repeat (with_reducible (first | exact Below.refl _ _ | assumption | refine bl_alloc ?_ _ | refine bl_drewN ?_ _ | refine bl_drew ?_ | refine bl_call ?_ (by assumption) | (refine bl_setCell ?_ _ (Nat.le_refl _)) | (refine bl_setCell ?_ _ (by simp)))))⟩
end Go.Proofs.Ytmkpkghhalpfaaa
