/- The example of the statements on anchors. -/
import Derived.Test.YteppoghpfcmhhaaAncB
namespace Go.Proofs.Yteppoghpfcmhhaa
set_option linter.unusedVariables false
set_option linter.unusedSimpArgs false
open Go.RowKit
/-- what comes in: the name's length, and the numbers -/
def CalOk (c : CalI) : Prop := c.name.size ≤ maxLen ∧ In c.kind ∧ In c.day ∧ In c.month ∧ In c.shift ∧ In c.shape ∧ In c.p0 ∧ In c.p1 ∧ In c.p2 ∧ In c.cycle ∧ In c.extra ∧ In c.first ∧ In c.last ∧ In c.policy
def liveC : CalI := ⟨⟨#[120]⟩, 3, 6, 1, 1, 1, 4, 5, 4, 0, 12, 2000, 2030, 1⟩
theorem liveC_ok : calB liveC = true := by decide +kernel
theorem liveC_end : endN liveC 2023 = 154896 ∧ endN liveC 2022 = 154525 := by constructor <;> decide +kernel
theorem live13_facts : endV liveC 2023 = 154896 ∧ tellE liveC 2023 1600 = 0 ∧ weeksV liveC 2023 = 53 ∧ weeksE liveC 2023 = 0 ∧ dayV 2024 2 3 = 154896 ∧ dateE (validB 2024 2 3) = 0 := by
  have t0 : tellE liveC 2023 1600 = 0 := tell_yes liveC_ok (by decide) (by decide)
  have t1 : tellE liveC 2023 1601 = 0 := tell_yes liveC_ok (by decide) (by decide)
  have k : liveC.kind ≠ 6 := by decide
  refine ⟨?_, t0, ?_, ?_, by decide +kernel, by decide +kernel⟩
  · unfold endV; rw [if_pos t0]; exact liveC_end.1
  · unfold weeksV daysV; rw [if_pos ⟨liveC_ok, k⟩, if_pos t1, liveC_end.1, show (2023 : Int) - 1 = 2022 from rfl, liveC_end.2]; rfl
  · unfold weeksE; rw [if_pos ⟨liveC_ok, k⟩]; exact t1
set_option maxHeartbeats 2000000 in
theorem live13 (w : World) : Calls Try.prog 15 #[] w fun e w' => e = .returned (.bool true) ∧ Below w.heap.size w w' := by
  obtain ⟨h1, h2, h3, h4, h5, h6⟩ := live13_facts
  have E := fun w => aend_any liveC 2023 w (by decide)
  have K := fun w => aweeks_any liveC 2023 w (by decide)
  have D := fun w => day_any 2024 2 3 w
  rw [h1, h2] at E
  rw [h3, h4] at K
  rw [h5, h6] at D
  have E := Lib.hid E
  have K := Lib.hid K
  have D := Lib.hid D
  clear h1 h2 h3 h4 h5 h6
  go_enter Try.func15, Try.ntmps15
  go_wp2_with fail
  refine (E.out _).mono ?_
  rintro e w1 ⟨rfl, hb1⟩
  obtain ⟨hc1_0, hf1_0, hz1_0⟩ := own_stays hb1 (b := w.heap.size) (by first | (simp; done) | (simp; omega) | omega)
  go_wp2_with fail
  refine (K.out _).mono ?_
  rintro e w2 ⟨rfl, hb2⟩
  obtain ⟨hc2_0, hf2_0, hz2_0⟩ := own_stays hb2 (b := w.heap.size) (by first | (simp; done) | (simp; omega) | omega)
  go_wp2_with fail
  refine (D.out _).mono ?_
  rintro e w3 ⟨rfl, hb3⟩
  obtain ⟨hc3_0, hf3_0, hz3_0⟩ := own_stays hb3 (b := w.heap.size) (by first | (simp; done) | (simp; omega) | omega)
  go_wp2_with fail
  go_ret
  exact ⟨ret_b (by first | rfl | (simp; done)), (by repeat (with_reducible (first | exact Below.refl _ _ | assumption | refine bl_alloc ?_ _ | refine bl_drewN ?_ _ | refine bl_drew ?_ | refine bl_call ?_ (by assumption) | (refine bl_setCell ?_ _ (Nat.le_refl _)) | (refine bl_setCell ?_ _ (by simp)))))⟩
end Go.Proofs.Yteppoghpfcmhhaa
