/- Contracts of the package week: first, Iso. -/
import Derived.Test.YteppoghpfcmhhaaMathE
import Derived.Test.YteppoghpfcmhhaaCivF
namespace Go.Proofs.Yteppoghpfcmhhaa
set_option linter.unusedVariables false
set_option linter.unusedSimpArgs false
open Go.RowKit
set_option maxHeartbeats 1000000 in
theorem first_any (y : Int) (w : World) :
    Calls Try.prog 57 #[.int .i64 y] w fun e w' => e = .returned (.tuple #[.int .i64 (firV y), .int .i64 (dateE (thereB y 1))]) ∧ Below w.heap.size w w' := by
  rcases Bool.eq_false_or_eq_true (thereB y 1) with h | h
  · obtain ⟨e1, e2, e3, e4⟩ := d4_of y h
    have D := Lib.hid (dateE_true h)
    have d3 := dateE_true e3
    have F := Lib.hid (show firV y = firstI y by unfold firV; rw [if_pos h])
    have F2 := Lib.hid (show firstI y = yearsI y + 3 - (yearsI y + 3 + 5) % 7 from rfl)
    have yb := (isB_iff _).1 e3
    have rb : 0 ≤ (yearsI y + 3 + 5) % 7 ∧ (yearsI y + 3 + 5) % 7 < 7 := by omega
    clear h e3
    generalize (yearsI y + 3 + 5) % 7 = r at *
    go_enter Try.func57, Try.ntmps57
    go_wp2_with (go_at_call 25; refine (weekday_any _ _).mono ?_; rintro e w' ⟨rfl, rfl⟩)
    refine (day_any _ _ _ _).mono ?_
    rintro e w1 ⟨rfl, hb1⟩
    go_wp2_with (go_at_call 25; refine (weekday_any _ _).mono ?_; rintro e w' ⟨rfl, rfl⟩)
    go_ret2
    exact ⟨ret_ii (by rw [F.out, F2.out]; omega) D.out.symm, (by repeat (with_reducible (first | exact Below.refl _ _ | assumption | refine bl_alloc ?_ _ | refine bl_drewN ?_ _ | refine bl_drew ?_ | refine bl_call ?_ (by assumption) | (refine bl_setCell ?_ _ (Nat.le_refl _)) | (refine bl_setCell ?_ _ (by simp)))))⟩
  · obtain ⟨e1, e2⟩ := d4_no y h
    have D := Lib.hid (dateE_false h)
    have F := Lib.hid (show firV y = 0 by unfold firV; rw [h]; rfl)
    clear h
    go_enter Try.func57, Try.ntmps57
    go_wp2_with (go_at_call 25; refine (weekday_any _ _).mono ?_; rintro e w' ⟨rfl, rfl⟩)
    refine (day_any _ _ _ _).mono ?_
    rintro e w1 ⟨rfl, hb1⟩
    go_wp2_with (go_at_call 25; refine (weekday_any _ _).mono ?_; rintro e w' ⟨rfl, rfl⟩)
    go_ret2
    exact ⟨ret_ii F.out.symm D.out.symm, (by repeat (with_reducible (first | exact Below.refl _ _ | assumption | refine bl_alloc ?_ _ | refine bl_drewN ?_ _ | refine bl_drew ?_ | refine bl_call ?_ (by assumption) | (refine bl_setCell ?_ _ (Nat.le_refl _)) | (refine bl_setCell ?_ _ (by simp)))))⟩
end Go.Proofs.Yteppoghpfcmhhaa
