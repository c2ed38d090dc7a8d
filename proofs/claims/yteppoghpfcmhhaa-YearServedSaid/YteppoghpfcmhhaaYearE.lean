/- Contracts of the package year: Served. -/
import Derived.Test.YteppoghpfcmhhaaYearD
namespace Go.Proofs.Yteppoghpfcmhhaa
set_option linter.unusedVariables false
set_option linter.unusedSimpArgs false
open Go.RowKit
noncomputable def svE (c : CalI) (day : Int) : Int := if calB c = true then (if foE c day = 0 then (if boA c ≤ day ∧ day ≤ boB c then 0 else 11) else foE c day) else 1
noncomputable def svY (c : CalI) (day : Int) : Int := if svE c day = 0 then foY c day else 0
theorem sv_ways (c : CalI) (day : Int) : (calB c = true ∧ foE c day = 0 ∧ boA c ≤ day ∧ day ≤ boB c ∧ svE c day = 0 ∧ svY c day = foY c day) ∨ (calB c = true ∧ foE c day = 0 ∧ (day < boA c ∨ (boA c ≤ day ∧ boB c < day)) ∧ svE c day = 11 ∧ svY c day = 0) ∨
    (calB c = true ∧ foE c day ≠ 0 ∧ foY c day = 0 ∧ svE c day = foE c day ∧ svY c day = 0) ∨ (calB c = false ∧ svE c day = 1 ∧ svY c day = 0) := by
  rcases Bool.eq_false_or_eq_true (calB c) with h | h
  · by_cases f : foE c day = 0
    · by_cases b : boA c ≤ day ∧ day ≤ boB c
      · have s : svE c day = 0 := by unfold svE; rw [if_pos h, if_pos f, if_pos b]
        exact .inl ⟨h, f, b.1, b.2, s, by unfold svY; rw [if_pos s]⟩
      · have s : svE c day = 11 := by unfold svE; rw [if_pos h, if_pos f, if_neg b]
        exact .inr (.inl ⟨h, f, by omega, s, by unfold svY; rw [if_neg (by omega)]⟩)
    · have s : svE c day = foE c day := by unfold svE; rw [if_pos h, if_neg f]
      exact .inr (.inr (.inl ⟨h, f, by unfold foY; rw [if_neg f], s, by unfold svY; rw [if_neg (by omega)]⟩))
  · have s : svE c day = 1 := by unfold svE; rw [if_neg (by simp [h])]
    exact .inr (.inr (.inr ⟨h, s, by unfold svY; rw [if_neg (by omega)]⟩))
set_option maxHeartbeats 2000000 in
theorem served_any (c : CalI) (day : Int) (w : World) (hs : c.name.size ≤ maxLen) :
    Calls Try.prog 34 #[calA c, .int .i64 day] w fun e w' => e = .returned (.tuple #[.int .i64 (svY c day), .int .i64 (svE c day)]) ∧ Below w.heap.size w w' := by
  have B := bounds_any c
  have F := Lib.hid (fun w => yof_any c day w hs)
  rcases sv_ways c day with ⟨h, f, b1, b2, e1, e2⟩ | ⟨h, f, b, e1, e2⟩ | ⟨h, f, f2, e1, e2⟩ | ⟨h, e1, e2⟩
  · rw [h] at B
    have B := Lib.hid (fun w => B w hs)
    have F' := F.out
    rw [f] at F'
    have F := Lib.hid F'
    have E1 := Lib.hid e1
    have E2 := Lib.hid e2
    clear e1 e2 h f F'
    generalize boA c = P at *
    generalize boB c = R at *
    go_enter Try.func34, Try.ntmps34
    go_wp2_with fail
    refine (B.out _).mono ?_
    rintro e w1 ⟨rfl, hb1⟩
    obtain ⟨hc1, hf1, hz1⟩ := own_stays hb1 (b := w.heap.size) (by simp)
    go_wp2_with fail
    refine (F.out _).mono ?_
    rintro e w2 ⟨rfl, hb2⟩
    obtain ⟨hc2, hf2, hz2⟩ := own_stays hb2 (b := w1.heap.size) (by simp)
    go_wp2
    go_ret2
    exact ⟨ret_ii E2.out.symm E1.out.symm, (by repeat (with_reducible (first | exact Below.refl _ _ | assumption | refine bl_alloc ?_ _ | refine bl_drewN ?_ _ | refine bl_drew ?_ | refine bl_call ?_ (by assumption) | (refine bl_setCell ?_ _ (Nat.le_refl _)) | (refine bl_setCell ?_ _ (by simp)))))⟩
  · rw [h] at B
    have B := Lib.hid (fun w => B w hs)
    have F' := F.out
    rw [f] at F'
    have F := Lib.hid F'
    have E1 := Lib.hid e1
    have E2 := Lib.hid e2
    clear e1 e2 h f F'
    generalize boA c = P at *
    generalize boB c = R at *
    rcases b with b | ⟨b, b'⟩
    all_goals
      go_enter Try.func34, Try.ntmps34
      go_wp2_with fail
      refine (B.out _).mono ?_
      rintro e w1 ⟨rfl, hb1⟩
      obtain ⟨hc1, hf1, hz1⟩ := own_stays hb1 (b := w.heap.size) (by simp)
      go_wp2_with fail
      refine (F.out _).mono ?_
      rintro e w2 ⟨rfl, hb2⟩
      obtain ⟨hc2, hf2, hz2⟩ := own_stays hb2 (b := w1.heap.size) (by simp)
      go_wp2
      go_ret2
      exact ⟨ret_ii E2.out.symm E1.out.symm, (by repeat (with_reducible (first | exact Below.refl _ _ | assumption | refine bl_alloc ?_ _ | refine bl_drewN ?_ _ | refine bl_drew ?_ | refine bl_call ?_ (by assumption) | (refine bl_setCell ?_ _ (Nat.le_refl _)) | (refine bl_setCell ?_ _ (by simp)))))⟩
  · rw [h] at B
    have B := Lib.hid (fun w => B w hs)
    have F' := F.out
    rw [f2] at F'
    have F := Lib.hid F'
    have E1 := Lib.hid e1
    have E2 := Lib.hid e2
    have f3 : (foE c day == 0) = false := by simpa using f
    clear e1 e2 h f f2 F'
    generalize boA c = P at *
    generalize boB c = R at *
    generalize foE c day = t at *
    go_enter Try.func34, Try.ntmps34
    go_wp2_with fail
    refine (B.out _).mono ?_
    rintro e w1 ⟨rfl, hb1⟩
    obtain ⟨hc1, hf1, hz1⟩ := own_stays hb1 (b := w.heap.size) (by simp)
    go_wp2_with fail
    refine (F.out _).mono ?_
    rintro e w2 ⟨rfl, hb2⟩
    obtain ⟨hc2, hf2, hz2⟩ := own_stays hb2 (b := w1.heap.size) (by simp)
    go_wp2
    go_ret2
    exact ⟨ret_ii E2.out.symm E1.out.symm, (by repeat (with_reducible (first | exact Below.refl _ _ | assumption | refine bl_alloc ?_ _ | refine bl_drewN ?_ _ | refine bl_drew ?_ | refine bl_call ?_ (by assumption) | (refine bl_setCell ?_ _ (Nat.le_refl _)) | (refine bl_setCell ?_ _ (by simp)))))⟩
  · rw [h] at B
    have B := Lib.hid (fun w => B w hs)
    have E1 := Lib.hid e1
    have E2 := Lib.hid e2
    clear e1 e2 h
    generalize boA c = P at *
    generalize boB c = R at *
    go_enter Try.func34, Try.ntmps34
    go_wp2_with fail
    refine (B.out _).mono ?_
    rintro e w1 ⟨rfl, hb1⟩
    go_wp2
    go_ret2
    exact ⟨ret_ii E2.out.symm E1.out.symm, (by repeat (with_reducible (first | exact Below.refl _ _ | assumption | refine bl_alloc ?_ _ | refine bl_drewN ?_ _ | refine bl_drew ?_ | refine bl_call ?_ (by assumption) | (refine bl_setCell ?_ _ (Nat.le_refl _)) | (refine bl_setCell ?_ _ (by simp)))))⟩
end Go.Proofs.Yteppoghpfcmhhaa
