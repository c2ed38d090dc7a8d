/- Contracts of the package week: Many, Day. -/
import Derived.Test.YteppoghpfcmhhaaWeekB
namespace Go.Proofs.Yteppoghpfcmhhaa
set_option linter.unusedVariables false
set_option linter.unusedSimpArgs false
open Go.RowKit
noncomputable def manyV (y : Int) : Int := if thereB y 1 = true then (if isB (firstI y + 367) = true ∧ ofY (firstI y + 367) = y then 53 else 52) else 0
theorem many_facts (y : Int) : (thereB y 1 = true ∧ firV y = firstI y ∧ yearsI y - 3 ≤ firstI y ∧ firstI y ≤ yearsI y + 3 ∧ 0 ≤ yearsI y ∧ yearsI y ≤ 3068037 ∧ ((isB (firstI y + 367) = true ∧ ofY (firstI y + 367) = y ∧ manyV y = 53) ∨ (isB (firstI y + 367) = true ∧ (ofY (firstI y + 367) == y) = false ∧ manyV y = 52) ∨ (isB (firstI y + 367) = false ∧ manyV y = 52))) ∨ (thereB y 1 = false ∧ firV y = 0 ∧ manyV y = 0) := by
  rcases Bool.eq_false_or_eq_true (thereB y 1) with h | h
  · have h' := h
    unfold thereB at h'; simp only [decide_eq_true_eq] at h'
    have yb := years_bd y (by omega) (by omega)
    have fb := first_bd y
    refine .inl ⟨h, by unfold firV; rw [if_pos h], fb.1, fb.2.1, yb.1, yb.2, ?_⟩
    rcases Bool.eq_false_or_eq_true (isB (firstI y + 367)) with i | i
    · by_cases e : ofY (firstI y + 367) = y
      · exact .inl ⟨i, e, by unfold manyV; rw [if_pos h, if_pos ⟨i, e⟩]⟩
      · exact .inr (.inl ⟨i, by simpa using e, by unfold manyV; rw [if_pos h, if_neg (by simp [e])]⟩)
    · exact .inr (.inr ⟨i, by unfold manyV; rw [if_pos h, if_neg (by simp [i])]⟩)
  · exact .inr ⟨h, by unfold firV; rw [h]; rfl, by unfold manyV; rw [h]; rfl⟩
set_option maxHeartbeats 1000000 in
theorem many_any (y : Int) (w : World) :
    Calls Try.prog 30 #[.int .i64 y] w fun e w' => e = .returned (.tuple #[.int .i64 (manyV y), .int .i64 (dateE (thereB y 1))]) ∧ Below w.heap.size w w' := by
  rcases many_facts y with ⟨h, f, b1, b2, b3, b4, ⟨i, o, e⟩ | ⟨i, o, e⟩ | ⟨i, e⟩⟩ | ⟨h, f, e⟩
  case' inr =>
    have E := Lib.hid e
    have d := dateE_false h
    have D := Lib.hid d
    clear h e
    go_enter Try.func30, Try.ntmps30
    go_wp2_with fail
    refine (first_any _ _).mono ?_
    rintro e w1 ⟨rfl, hb1⟩
    go_wp2_with fail
    go_ret2
    exact ⟨ret_ii E.out.symm D.out.symm, (by repeat (with_reducible (first | exact Below.refl _ _ | assumption | refine bl_alloc ?_ _ | refine bl_drewN ?_ _ | refine bl_drew ?_ | refine bl_call ?_ (by assumption) | (refine bl_setCell ?_ _ (Nat.le_refl _)) | (refine bl_setCell ?_ _ (by simp)))))⟩
  case' inl.inr.inr => have di := dateE_false i
  case' inl.inl => have di := dateE_true i
  case' inl.inr.inl => have di := dateE_true i
  all_goals
    have E := Lib.hid e
    have d := dateE_true h
    have D := Lib.hid d
    clear h e i
    generalize hF : firstI y = F at *
    clear hF
    have w1' : F + 364 + 3 = F + 367 := by omega
    go_enter Try.func30, Try.ntmps30
    go_wp2_with fail
    refine (first_any _ _).mono ?_
    rintro e w1 ⟨rfl, hb1⟩
    go_wp2_with fail
    refine (of_any _ _).mono ?_
    rintro e w2 ⟨rfl, hb2⟩
    go_wp2_with fail
    go_ret2
    exact ⟨ret_ii E.out.symm D.out.symm, (by repeat (with_reducible (first | exact Below.refl _ _ | assumption | refine bl_alloc ?_ _ | refine bl_drewN ?_ _ | refine bl_drew ?_ | refine bl_call ?_ (by assumption) | (refine bl_setCell ?_ _ (Nat.le_refl _)) | (refine bl_setCell ?_ _ (by simp)))))⟩
end Go.Proofs.Yteppoghpfcmhhaa
