/- The example of the statements on years. -/
import Derived.Test.YteppoghpfcmhhaaStampA
import Derived.Test.YteppoghpfcmhhaaAncLive
namespace Go.Proofs.Yteppoghpfcmhhaa
set_option linter.unusedVariables false
set_option linter.unusedSimpArgs false
open Go.RowKit
set_option maxHeartbeats 1000000 in
theorem parse_ex (w : World) :
    Calls Try.prog 60 #[.string ⟨#[50, 48, 50, 52, 45, 48, 50, 45, 48, 51]⟩] w fun e w' => e = .returned (.tuple #[.int .i64 154896, .int .i64 0]) ∧ Below w.heap.size w w' := by
  have D := fun w => day_any 2024 2 3 w
  rw [show dayV 2024 2 3 = 154896 by decide +kernel, show dateE (validB 2024 2 3) = 0 by decide +kernel] at D
  have D := Lib.hid D
  go_enter Try.func60, Try.ntmps60
  go_wp2_with fail
  refine (numbers_ex _).mono ?_
  rintro e w1 ⟨g, cap, rfl, hown, hb1⟩
  have c0 : w1.cell? ⟨g, 0, none⟩ = some (.int .i64 2024) := (hown.cellAt 0 (by decide)).trans rfl
  have c1 : w1.cell? ⟨g, 1, none⟩ = some (.int .i64 2) := (hown.cellAt 1 (by decide)).trans rfl
  have c2 : w1.cell? ⟨g, 2, none⟩ = some (.int .i64 3) := (hown.cellAt 2 (by decide)).trans rfl
  clear hown
  go_wp2_with fail
  refine region_qb (fun W => W.cell? ⟨g, 0, none⟩ = some (.int .i64 2024) ∧ W.cell? ⟨g, 1, none⟩ = some (.int .i64 2) ∧ W.cell? ⟨g, 2, none⟩ = some (.int .i64 3) ∧ Below w.heap.size w W) ⟨by go_simp, by go_simp, by go_simp, (by repeat (with_reducible (first | exact Below.refl _ _ | assumption | refine bl_alloc ?_ _ | refine bl_drewN ?_ _ | refine bl_drew ?_ | refine bl_call ?_ (by assumption) | (refine bl_setCell ?_ _ (Nat.le_refl _)) | (refine bl_setCell ?_ _ (by simp)))))⟩ (by kernel_rfl) (by kernel_rfl) ?_
  intro W ⟨k0, k1, k2, hbW⟩
  replace k0 := rcell k0
  replace k1 := rcell k1
  replace k2 := rcell k2
  clear c0 c1 c2
  repeat (first | go_big_quiet_step (first | exact Calls.regrown_of (D.out _)) | quiet_step (first | exact Calls.regrown_of (D.out _)))
  refine wpQuiet_nil ?_
  intro w9 hb9
  go_wp2
  go_ret2
  exact ⟨rfl, bl_call hbW hb9⟩
theorem live14_facts : foY liveC 154896 = 2023 ∧ foE liveC 154896 = 0 ∧ svY liveC 154897 = 2024 ∧ svE liveC 154897 = 0 := by
  have e1 := liveC_end
  have e3 : endN liveC 2024 = 155260 := by decide +kernel
  have a1 : endN liveC 1999 + 1 ≤ 154897 := by decide +kernel
  have a2 : 154897 ≤ endN liveC 2030 := by decide +kernel
  have f1 := fo_yes liveC_ok (day := 154896) (z := 2023) (by decide) (by rw [fyOk_iff]; rw [show (2023 : Int) - 1 = 2022 from rfl, e1.1, e1.2]; decide)
  have f2 := fo_yes liveC_ok (day := 154897) (z := 2024) (by decide) (by rw [fyOk_iff]; rw [show (2024 : Int) - 1 = 2023 from rfl, e1.1, e3]; decide)
  have b1 : boA liveC = endN liveC 1999 + 1 := if_pos liveC_ok
  have b2 : boB liveC = endN liveC 2030 := if_pos liveC_ok
  have s : svE liveC 154897 = 0 := by unfold svE; rw [if_pos liveC_ok, if_pos f2.1, if_pos ⟨by rw [b1]; exact a1, by rw [b2]; exact a2⟩]
  exact ⟨f1.2.1, f1.1, by unfold svY; rw [if_pos s]; exact f2.2.1, s⟩
set_option maxHeartbeats 2000000 in
theorem live14 (w : World) : Calls Try.prog 32 #[] w fun e w' => e = .returned (.bool true) ∧ Below w.heap.size w w' := by
  obtain ⟨h1, h2, h3, h4⟩ := live14_facts
  have E := fun w => yof_any liveC 154896 w (by decide)
  have K := fun w => served_any liveC 154897 w (by decide)
  rw [h1, h2] at E
  rw [h3, h4] at K
  have E := Lib.hid E
  have K := Lib.hid K
  clear h1 h2 h3 h4
  go_enter Try.func32, Try.ntmps32
  go_wp2_with fail
  refine (parse_ex _).mono ?_
  rintro e w1 ⟨rfl, hb1⟩
  obtain ⟨hc1_0, hf1_0, hz1_0⟩ := own_stays hb1 (b := w.heap.size) (by first | (simp; done) | (simp; omega) | omega)
  go_wp2_with fail
  refine (E.out _).mono ?_
  rintro e w2 ⟨rfl, hb2⟩
  obtain ⟨hc2_0, hf2_0, hz2_0⟩ := own_stays hb2 (b := w.heap.size) (by first | (simp; done) | (simp; omega) | omega)
  go_wp2_with fail
  refine (K.out _).mono ?_
  rintro e w3 ⟨rfl, hb3⟩
  obtain ⟨hc3_0, hf3_0, hz3_0⟩ := own_stays hb3 (b := w.heap.size) (by first | (simp; done) | (simp; omega) | omega)
  go_wp2_with fail
  go_ret
  exact ⟨ret_b (by first | rfl | (simp; done)), (by repeat (with_reducible (first | exact Below.refl _ _ | assumption | refine bl_alloc ?_ _ | refine bl_drewN ?_ _ | refine bl_drew ?_ | refine bl_call ?_ (by assumption) | (refine bl_setCell ?_ _ (Nat.le_refl _)) | (refine bl_setCell ?_ _ (by simp)))))⟩
end Go.Proofs.Yteppoghpfcmhhaa
