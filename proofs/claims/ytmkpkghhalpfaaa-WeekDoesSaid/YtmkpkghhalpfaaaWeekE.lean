/- The example of the statements on weeks. -/
import Derived.Test.YtmkpkghhalpfaaaWeekD
namespace Go.Proofs.Ytmkpkghhalpfaaa
open Go.RowKit
set_option linter.unusedVariables false
theorem live6_facts : wkV 2025 1 1 = 155227 ∧ dateE (wkOk 2025 1 1) = 0 ∧ isoY 155227 = 2025 ∧ isoW 155227 = 1 ∧ isoD 155227 = 1 ∧ dateE (isB 155227) = 0 ∧ manyV 2020 = 53 ∧ dateE (thereB 2020 1) = 0 := by
  have i1 : isB 155227 = true := by decide
  have m1 : monI 155227 = 155227 := by decide
  have i2 : isB (monI 155227 + 3) = true := by rw [m1]; decide
  have o1 : ofY 155230 = 2025 := (of_is 2025 1 2 155230 (by decide) (by decide)).1
  have f1 : firstI 2025 = 155227 := by decide
  have a1 : isoY 155227 = 2025 := by unfold isoY; rw [if_pos i1, if_pos i2, m1]; exact o1
  have a2 : isoW 155227 = 1 := by
    unfold isoW; rw [if_pos i1, if_pos i2, m1, show (155227 : Int) + 3 = 155230 from rfl, o1, f1]; decide
  have a3 : isoD 155227 = 1 := by decide
  have c1 : wkC 2025 1 1 = 155227 := by unfold wkC wkB; rw [if_neg (by decide), f1]; decide
  have k1 : wkOk 2025 1 1 = true := by unfold wkOk; rw [c1]; simp [a1, a2, a3, i1]
  have f2 : firstI 2020 + 367 = 153767 := by decide
  have o2 : ofY 153767 = 2020 := (of_is 2020 12 31 153767 (by decide) (by decide)).1
  have t2 : thereB 2020 1 = true := by decide
  refine ⟨by unfold wkV; rw [if_pos k1, c1], dateE_true k1, a1, a2, a3, dateE_true i1, ?_, dateE_true t2⟩
  unfold manyV
  rw [if_pos t2, f2, if_pos ⟨by decide, o2⟩]
set_option maxHeartbeats 1000000 in
theorem live6 (w : World) : Calls Try.prog 32 #[] w fun e w' => e = .returned (.bool true) ∧ Below w.heap.size w w' := by
  obtain ⟨h1, h2, h3, h4, h5, h6, h7, h8⟩ := live6_facts
  go_enter Try.func32, Try.ntmps32
  go_wp2_with fail
  refine (wday_any _ _ _ _).mono ?_
  rintro e w1 ⟨rfl, hb1⟩
  go_wp2_with fail
  refine (iso_any _ _).mono ?_
  rintro e w2 ⟨rfl, hb2⟩
  go_wp2_with fail
  refine (many_any _ _).mono ?_
  rintro e w3 ⟨rfl, hb3⟩
  obtain ⟨hc3_0, hf3_0, hz3_0⟩ := own_stays hb3 (b := w2.heap.size) (by first | (simp; done) | (simp; omega) | omega)
  go_wp2_with fail
  go_ret
  exact ⟨ret_b (by first | rfl | (simp; done)), (by repeat (with_reducible (first | exact Below.refl _ _ | assumption | refine bl_alloc ?_ _ | refine bl_drewN ?_ _ | refine bl_drew ?_ | refine bl_call ?_ (by assumption) | (refine bl_setCell ?_ _ (Nat.le_refl _)) | (refine bl_setCell ?_ _ (by simp)))))⟩
end Go.Proofs.Ytmkpkghhalpfaaa
