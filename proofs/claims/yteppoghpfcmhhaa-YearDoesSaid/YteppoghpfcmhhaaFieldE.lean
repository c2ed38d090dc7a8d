/- Contracts of the package field: weeks. -/
import Derived.Test.YteppoghpfcmhhaaFieldD
namespace Go.Proofs.Yteppoghpfcmhhaa
set_option linter.unusedVariables false
set_option linter.unusedSimpArgs false
open Go.RowKit
abbrev calC (c : CalI) : Obj := .cells #[.string c.name, .int .i64 c.kind, .int .i64 c.day, .int .i64 c.month, .int .i64 c.shift, .int .i64 c.shape, .int .i64 c.p0, .int .i64 c.p1, .int .i64 c.p2, .int .i64 c.cycle, .int .i64 c.extra, .int .i64 c.first, .int .i64 c.last, .int .i64 c.policy] 24
def cycB (n : Int) : Bool := decide (n = 1 ∨ n = 2 ∨ n = 4)
theorem weeks_one (c : CalI) (h : c.shape = 1) : weeksB c = (decide (0 < patP c.p0 c.p1 c.p2) && ((c.cycle == 0) && btwB c.extra 1 (manyI 1 c.cycle))) := by
  rw [Bool.eq_iff_iff, show manyI 1 c.cycle = 12 from rfl]; unfold weeksB btwB; simp only [decide_eq_true_eq, Bool.and_eq_true, beq_iff_eq, patP_pos]; omega
theorem weeks_two (c : CalI) (h : c.shape = 2) : weeksB c = (eq3B c.p0 c.p1 c.p2 0 0 0 && ((c.cycle == 0) && btwB c.extra 1 (manyI 2 c.cycle))) := by
  rw [Bool.eq_iff_iff, show manyI 2 c.cycle = 13 from rfl]; unfold weeksB btwB; simp only [decide_eq_true_eq, Bool.and_eq_true, beq_iff_eq, eq3B_iff]; omega
theorem weeks_three (c : CalI) (h : c.shape = 3) : weeksB c = (eq3B c.p0 c.p1 c.p2 0 0 0 && (cycB c.cycle && btwB c.extra 1 (manyI 3 c.cycle))) := by
  rw [Bool.eq_iff_iff]; unfold weeksB btwB cycB manyI; simp only [decide_eq_true_eq, Bool.and_eq_true, eq3B_iff]
  by_cases h1 : c.cycle = 1
  · rw [h1]; simp; omega
  by_cases h2 : c.cycle = 2
  · rw [h2]; simp; omega
  by_cases h4 : c.cycle = 4
  · rw [h4]; simp; omega
  omega
theorem weeks_else (c : CalI) (h1 : c.shape ≠ 1) (h2 : c.shape ≠ 2) (h3 : c.shape ≠ 3) : weeksB c = false := by
  unfold weeksB; simp; omega
theorem cyc_ways (n : Int) : (cycB n = true ∧ (n == 1) = true) ∨ (cycB n = true ∧ (n == 1) = false ∧ (n == 2) = true) ∨ (cycB n = true ∧ (n == 1) = false ∧ (n == 2) = false ∧ (n == 4) = true) ∨ (cycB n = false ∧ (n == 1) = false ∧ (n == 2) = false ∧ (n == 4) = false) := by
  unfold cycB
  by_cases h1 : n = 1
  · simp [h1]
  by_cases h2 : n = 2
  · simp [h2]
  by_cases h4 : n = 4
  · simp [h4]
  · simp [h1, h2, h4]
set_option maxHeartbeats 8000000 in
theorem weeks_any (c : CalI) (w : World) :
    Calls Try.prog 74 #[calA c] w fun e w' => e = .returned (.bool (weeksB c)) ∧ Below w.heap.size w w' := by
  by_cases s1 : c.shape = 1
  · have T := Lib.hid (weeks_one c s1)
    by_cases p : 0 < patP c.p0 c.p1 c.p2
    · have hp := Lib.hid (show decide (0 < patP c.p0 c.p1 c.p2) = true by simpa using p)
      rcases Bool.eq_false_or_eq_true (c.cycle == 0) with hc | hc
      all_goals
        have HC := Lib.hid hc
        go_enter Try.func74, Try.ntmps74
        go_wp2_with fail
        go_quiet (fail)
        go_wp2_with fail
        go_region_with (first | (go_at_call 82; refine (patterns_any _).mono ?_; rintro e w' ⟨rfl, rfl⟩) | (go_at_call 81; refine (place_any _ _ _ _ _ (pats_at (by simp))).mono ?_; rintro e w1 ⟨rfl, hb1⟩; obtain ⟨hc1, hf1⟩ := bcell hb1; have hz1 := bsize hb1))
        all_goals
          go_wp2_with fail
          refine region_qb (fun W => W.cell? ⟨w.heap.size, 10, none⟩ = some (.int .i64 c.extra) ∧ W.cell? ⟨w.heap.size, 5, none⟩ = some (.int .i64 c.shape) ∧ W.cell? ⟨w.heap.size, 9, none⟩ = some (.int .i64 c.cycle) ∧ Below w.heap.size w W) ⟨by go_simp, by go_simp, by go_simp, (by repeat (with_reducible (first | exact Below.refl _ _ | assumption | refine bl_alloc ?_ _ | refine bl_drewN ?_ _ | refine bl_drew ?_ | refine bl_call ?_ (by assumption) | (refine bl_setCell ?_ _ (Nat.le_refl _)) | (refine bl_setCell ?_ _ (by simp)))))⟩ (by kernel_rfl) (by kernel_rfl) ?_
          intro W ⟨k0, k1, k2, hbW⟩
          replace k0 := rcell k0
          replace k1 := rcell k1
          replace k2 := rcell k2
          repeat (first | go_big_quiet_step (first | exact Calls.regrown_same (many_p _ _ _) | exact Calls.regrown_same (between_any _ _ _ _)) | quiet_step (first | exact Calls.regrown_same (many_p _ _ _) | exact Calls.regrown_same (between_any _ _ _ _)))
          refine wpQuiet_nil ?_
          intro w9 hb9
          go_wp2
          go_ret
          exact ⟨ret_b (by rw [T.out, hp.out, HC.out]; first | rfl | simp), bl_call hbW hb9⟩
    · have hp := Lib.hid (show decide (0 < patP c.p0 c.p1 c.p2) = false by simpa using p)
      have hp' := hp.out
      go_enter Try.func74, Try.ntmps74
      go_wp2_with fail
      go_quiet (fail)
      go_wp2_with fail
      go_region_with (first | (go_at_call 82; refine (patterns_any _).mono ?_; rintro e w' ⟨rfl, rfl⟩) | (go_at_call 81; refine (place_any _ _ _ _ _ (pats_at (by simp))).mono ?_; rintro e w1 ⟨rfl, hb1⟩; obtain ⟨hc1, hf1⟩ := bcell hb1; have hz1 := bsize hb1))
      all_goals
        go_wp2_with fail
        refine region_qb (fun W => W.cell? ⟨w.heap.size, 10, none⟩ = some (.int .i64 c.extra) ∧ W.cell? ⟨w.heap.size, 5, none⟩ = some (.int .i64 c.shape) ∧ W.cell? ⟨w.heap.size, 9, none⟩ = some (.int .i64 c.cycle) ∧ Below w.heap.size w W) ⟨by go_simp, by go_simp, by go_simp, (by repeat (with_reducible (first | exact Below.refl _ _ | assumption | refine bl_alloc ?_ _ | refine bl_drewN ?_ _ | refine bl_drew ?_ | refine bl_call ?_ (by assumption) | (refine bl_setCell ?_ _ (Nat.le_refl _)) | (refine bl_setCell ?_ _ (by simp)))))⟩ (by kernel_rfl) (by kernel_rfl) ?_
        intro W ⟨k0, k1, k2, hbW⟩
        replace k0 := rcell k0
        replace k1 := rcell k1
        replace k2 := rcell k2
        repeat (first | go_big_quiet_step (first | exact Calls.regrown_same (many_p _ _ _) | exact Calls.regrown_same (between_any _ _ _ _)) | quiet_step (first | exact Calls.regrown_same (many_p _ _ _) | exact Calls.regrown_same (between_any _ _ _ _)))
        refine wpQuiet_nil ?_
        intro w9 hb9
        go_wp2
        go_ret
        exact ⟨ret_b (by rw [T.out, hp.out]; first | rfl | simp), bl_call hbW hb9⟩
  by_cases s2 : c.shape = 2
  · have T := Lib.hid (weeks_two c s2)
    clear s1
    rcases Bool.eq_false_or_eq_true (eq3B c.p0 c.p1 c.p2 0 0 0) with hp | hp
    all_goals
      have HP := Lib.hid hp
      rcases Bool.eq_false_or_eq_true (c.cycle == 0) with hc | hc
      all_goals
        have HC := Lib.hid hc
        go_enter Try.func74, Try.ntmps74
        go_wp2_with fail
        go_quiet (fail)
        go_wp2_with fail
        refine region_qb (fun W => W.cell? ⟨w.heap.size, 10, none⟩ = some (.int .i64 c.extra) ∧ W.cell? ⟨w.heap.size, 5, none⟩ = some (.int .i64 c.shape) ∧ W.cell? ⟨w.heap.size, 9, none⟩ = some (.int .i64 c.cycle) ∧ Below w.heap.size w W) ⟨by go_simp, by go_simp, by go_simp, (by repeat (with_reducible (first | exact Below.refl _ _ | assumption | refine bl_alloc ?_ _ | refine bl_drewN ?_ _ | refine bl_drew ?_ | refine bl_call ?_ (by assumption) | (refine bl_setCell ?_ _ (Nat.le_refl _)) | (refine bl_setCell ?_ _ (by simp)))))⟩ (by kernel_rfl) (by kernel_rfl) ?_
        intro W ⟨k0, k1, k2, hbW⟩
        replace k0 := rcell k0
        replace k1 := rcell k1
        replace k2 := rcell k2
        repeat (first | go_big_quiet_step (first | exact Calls.regrown_same (many_p _ _ _) | exact Calls.regrown_same (between_any _ _ _ _)) | quiet_step (first | exact Calls.regrown_same (many_p _ _ _) | exact Calls.regrown_same (between_any _ _ _ _)))
        refine wpQuiet_nil ?_
        intro w9 hb9
        go_wp2
        go_ret
        exact ⟨ret_b (by rw [T.out, HP.out, HC.out]; first | rfl | simp), bl_call hbW hb9⟩
  by_cases s3 : c.shape = 3
  · have T := Lib.hid (weeks_three c s3)
    clear s1 s2
    rcases Bool.eq_false_or_eq_true (eq3B c.p0 c.p1 c.p2 0 0 0) with hp | hp
    all_goals
      have HP := Lib.hid hp
      rcases cyc_ways c.cycle with ⟨z, h⟩ | ⟨z, h1, h⟩ | ⟨z, h1, h2, h⟩ | ⟨z, h1, h2, h⟩
      all_goals
        have HC := Lib.hid z
        clear z
        go_enter Try.func74, Try.ntmps74
        go_wp2_with fail
        go_quiet (fail)
        go_wp2_with fail
        refine region_qb (fun W => W.cell? ⟨w.heap.size, 10, none⟩ = some (.int .i64 c.extra) ∧ W.cell? ⟨w.heap.size, 5, none⟩ = some (.int .i64 c.shape) ∧ W.cell? ⟨w.heap.size, 9, none⟩ = some (.int .i64 c.cycle) ∧ Below w.heap.size w W) ⟨by go_simp, by go_simp, by go_simp, (by repeat (with_reducible (first | exact Below.refl _ _ | assumption | refine bl_alloc ?_ _ | refine bl_drewN ?_ _ | refine bl_drew ?_ | refine bl_call ?_ (by assumption) | (refine bl_setCell ?_ _ (Nat.le_refl _)) | (refine bl_setCell ?_ _ (by simp)))))⟩ (by kernel_rfl) (by kernel_rfl) ?_
        intro W ⟨k0, k1, k2, hbW⟩
        replace k0 := rcell k0
        replace k1 := rcell k1
        replace k2 := rcell k2
        repeat (first | go_big_quiet_step (first | exact Calls.regrown_same (many_p _ _ _) | exact Calls.regrown_same (between_any _ _ _ _)) | quiet_step (first | exact Calls.regrown_same (many_p _ _ _) | exact Calls.regrown_same (between_any _ _ _ _)))
        refine wpQuiet_nil ?_
        intro w9 hb9
        go_wp2
        go_ret
        exact ⟨ret_b (by rw [T.out, HP.out, HC.out]; first | rfl | simp), bl_call hbW hb9⟩
  · have T := Lib.hid (weeks_else c s1 s2 s3)
    have b1 : (c.shape == 1) = false := by simpa using s1
    have b2 : (c.shape == 2) = false := by simpa using s2
    have b3 : (c.shape == 3) = false := by simpa using s3
    clear s1 s2 s3
    go_enter Try.func74, Try.ntmps74
    go_wp2_with fail
    go_quiet (fail)
    go_wp2
    go_ret
    exact ⟨ret_b T.out.symm, (by repeat (with_reducible (first | exact Below.refl _ _ | assumption | refine bl_alloc ?_ _ | refine bl_drewN ?_ _ | refine bl_drew ?_ | refine bl_call ?_ (by assumption) | (refine bl_setCell ?_ _ (Nat.le_refl _)) | (refine bl_setCell ?_ _ (by simp)))))⟩
end Go.Proofs.Yteppoghpfcmhhaa
