/- Contracts of the reference of layer 6: Iso, Many, Last, Near. -/
import Derived.Test.YtmkpkghhalpfaaaRefE
import Derived.Test.YtmkpkghhalpfaaaWeekF
import Derived.Test.YtmkpkghhalpfaaaMathF
namespace Go.Proofs.Ytmkpkghhalpfaaa
set_option linter.unusedVariables false
set_option linter.unusedSimpArgs false
open Go.RowKit
theorem riso_facts (n : Int) (h : isB n = true) : (n + 4 - wdI n < 0 ∧ isoY n = 1599 ∧ isoW n = 52) ∨
    (∃ T Y A : Int, n + 4 - wdI n = T ∧ 0 ≤ T ∧ ofY T = Y ∧ dayV Y 1 1 = A ∧ 0 ≤ A ∧ A ≤ T ∧ T ≤ A + 366 ∧ A ≤ 3068037 ∧ isoY n = Y ∧ isoW n = (T - A) / 7 + 1) := by
  have w := wd_of h
  have b := (isB_iff n).1 h
  have m : monI n = n - (n + 5) % 7 := rfl
  rcases Bool.eq_false_or_eq_true (isB (monI n + 3)) with h3 | h3
  · obtain ⟨a1, a2, a3, a4, a5, a6, a7⟩ := thu_year n h3
    have e1 : isoY n = ofY (monI n + 3) := by unfold isoY; rw [if_pos h, if_pos h3]
    have e2 : isoW n = (monI n - firstI (ofY (monI n + 3))) / 7 + 1 := by unfold isoW; rw [if_pos h, if_pos h3]
    have fb := first_bd (ofY (monI n + 3))
    have l := lpI_01 (ofY (monI n + 3))
    have yb := years_bd (ofY (monI n + 3)) a1 (by omega)
    have v : validB (ofY (monI n + 3)) 1 1 = true := by rw [validB_iff]; have := mlen_bd (ofY (monI n + 3)) 1; omega
    have dv : dayV (ofY (monI n + 3)) 1 1 = yearsI (ofY (monI n + 3)) := by unfold dayV; rw [if_pos v]; unfold dayNo; rw [ahead_one]; omega
    refine .inr ⟨monI n + 3, ofY (monI n + 3), yearsI (ofY (monI n + 3)), by omega, by omega, rfl, dv, by omega, by omega, by omega, by omega, e1, ?_⟩
    rw [e2]
    generalize yearsI (ofY (monI n + 3)) = A at *
    generalize firstI (ofY (monI n + 3)) = F at *
    omega
  · have t := thu_no n h h3
    exact .inl ⟨by omega, by unfold isoY; rw [if_pos h, h3]; rfl, by unfold isoW; rw [if_pos h, h3]; rfl⟩
set_option maxHeartbeats 1000000 in
theorem riso_any (n : Int) (w : World) :
    Calls Try.prog 34 #[.int .i64 n] w fun e w' => e = .returned (.tuple #[isoA (isoY n) (isoW n) (isoD n), .int .i64 (dateE (isB n))]) ∧ Below w.heap.size w w' := by
  rcases Bool.eq_false_or_eq_true (isB n) with h | h
  · have b := (isB_iff n).1 h
    have wb : 1 ≤ wdI n ∧ wdI n ≤ 7 := by rw [wd_of h]; omega
    have D := Lib.hid (dateE_true h)
    have d := dateE_true h
    have ID := Lib.hid (show isoD n = wdI n from rfl)
    rcases riso_facts n h with ⟨e1, e2, e3⟩ | ⟨T, Y, A, e1, e2, e3, e4, e5, e6, e7, e8, e9, e10⟩
    · have E8 := Lib.hid e2
      have E9 := Lib.hid e3
      clear h e2 e3
      rw [D.out, E8.out, E9.out, ID.out]
      go_enter Try.func34, Try.ntmps34
      go_wp2_with fail
      refine (rweekday_any _ _).mono ?_
      rintro e w1 ⟨rfl, hb1⟩
      obtain ⟨hc1_0, hf1_0, hz1_0⟩ := own_stays hb1 (b := w.heap.size) (by first | (simp; done) | (simp; omega) | omega)
      go_wp2_with fail
      have q0 : w1.cell? ⟨w.heap.size, 0, none⟩ = some (.int .i64 0) := by go_simp
      have q1 : w1.cell? ⟨w.heap.size, 1, none⟩ = some (.int .i64 0) := by go_simp
      have q2 : w1.cell? ⟨w.heap.size, 2, none⟩ = some (.int .i64 0) := by go_simp
      obtain ⟨s0, s1, s2⟩ := set3 (.int .i64 1599) (.int .i64 52) (.int .i64 (wdI n)) q0 q1 q2
      refine bodyPost_ret (v := .tuple #[isoA 1599 52 (wdI n), .int .i64 0]) (by simp [results, Try.results34, go_sem, s0, s1, s2]) rfl ⟨rfl, ?_⟩
      exact (by repeat (with_reducible (first | exact Below.refl _ _ | assumption | refine bl_alloc ?_ _ | refine bl_drewN ?_ _ | refine bl_drew ?_ | refine bl_call ?_ (by assumption) | (refine bl_setCell ?_ _ (Nat.le_refl _)) | (refine bl_setCell ?_ _ (by simp)))))
    · have E8 := Lib.hid e9
      have E9 := Lib.hid e10
      clear h e9 e10
      rw [D.out, E8.out, E9.out, ID.out]
      go_enter Try.func34, Try.ntmps34
      go_wp2_with fail
      refine (rweekday_any _ _).mono ?_
      rintro e w1 ⟨rfl, hb1⟩
      obtain ⟨hc1_0, hf1_0, hz1_0⟩ := own_stays hb1 (b := w.heap.size) (by first | (simp; done) | (simp; omega) | omega)
      go_wp2_with fail
      refine (rof_any _ _).mono ?_
      rintro e w2 ⟨rfl, hb2⟩
      obtain ⟨hc2_0, hf2_0, hz2_0⟩ := own_stays hb2 (b := w.heap.size) (by first | (simp; done) | (simp; omega) | omega)
      go_wp2_with fail
      refine (rday_any _ _ _ _).mono ?_
      rintro e w3 ⟨rfl, hb3⟩
      obtain ⟨hc3_0, hf3_0, hz3_0⟩ := own_stays hb3 (b := w.heap.size) (by first | (simp; done) | (simp; omega) | omega)
      obtain ⟨hc3_1, hf3_1, hz3_1⟩ := own_stays hb3 (b := w2.heap.size) (by first | (simp; done) | (simp; omega) | omega)
      go_wp2_with fail
      have q0 : w3.cell? ⟨w.heap.size, 0, none⟩ = some (.int .i64 0) := by go_simp
      have q1 : w3.cell? ⟨w.heap.size, 1, none⟩ = some (.int .i64 0) := by go_simp
      have q2 : w3.cell? ⟨w.heap.size, 2, none⟩ = some (.int .i64 0) := by go_simp
      obtain ⟨s0, s1, s2⟩ := set3 (.int .i64 Y) (.int .i64 ((T - A) / 7 + 1)) (.int .i64 (wdI n)) q0 q1 q2
      refine bodyPost_ret (v := .tuple #[isoA Y ((T - A) / 7 + 1) (wdI n), .int .i64 0]) (by simp [results, Try.results34, go_sem, s0, s1, s2]) rfl ⟨rfl, ?_⟩
      exact (by repeat (with_reducible (first | exact Below.refl _ _ | assumption | refine bl_alloc ?_ _ | refine bl_drewN ?_ _ | refine bl_drew ?_ | refine bl_call ?_ (by assumption) | (refine bl_setCell ?_ _ (Nat.le_refl _)) | (refine bl_setCell ?_ _ (by simp)))))
  · have D := Lib.hid (dateE_false h)
    have d := dateE_false h
    have E8 := Lib.hid (show isoY n = 0 by unfold isoY; rw [h]; rfl)
    have E9 := Lib.hid (show isoW n = 0 by unfold isoW; rw [h]; rfl)
    have ID := Lib.hid (show isoD n = 0 by unfold isoD wdI; rw [h]; rfl)
    clear h
    rw [D.out, E8.out, E9.out, ID.out]
    go_enter Try.func34, Try.ntmps34
    go_wp2_with fail
    refine (rweekday_any _ _).mono ?_
    rintro e w1 ⟨rfl, hb1⟩
    obtain ⟨hc1_0, hf1_0, hz1_0⟩ := own_stays hb1 (b := w.heap.size) (by first | (simp; done) | (simp; omega) | omega)
    go_wp2_with fail
    have q0 : w1.cell? ⟨w.heap.size, 0, none⟩ = some (.int .i64 0) := by go_simp
    have q1 : w1.cell? ⟨w.heap.size, 1, none⟩ = some (.int .i64 0) := by go_simp
    have q2 : w1.cell? ⟨w.heap.size, 2, none⟩ = some (.int .i64 0) := by go_simp
    obtain ⟨s0, s1, s2⟩ := set3 (.int .i64 0) (.int .i64 0) (.int .i64 0) q0 q1 q2
    refine bodyPost_ret (v := .tuple #[isoA 0 0 0, .int .i64 4]) (by simp [results, Try.results34, go_sem, s0, s1, s2]) rfl ⟨rfl, ?_⟩
    exact (by repeat (with_reducible (first | exact Below.refl _ _ | assumption | refine bl_alloc ?_ _ | refine bl_drewN ?_ _ | refine bl_drew ?_ | refine bl_call ?_ (by assumption) | (refine bl_setCell ?_ _ (Nat.le_refl _)) | (refine bl_setCell ?_ _ (by simp)))))
theorem rmany_facts (y : Int) : (thereB y 1 = true ∧ dateE (validB y 12 28) = 0 ∧ ∃ N, dayV y 12 28 = N ∧ isB N = true ∧ isoW N = manyV y) ∨ (thereB y 1 = false ∧ dateE (validB y 12 28) = 4 ∧ manyV y = 0) := by
  rcases Bool.eq_false_or_eq_true (thereB y 1) with h | h
  · obtain ⟨a1, a2, a3, a4, a5, a6, a7, a8, a9, b1, b2, b3, c⟩ := year_weeks y h
    exact .inl ⟨h, a4, _, a3, b1, a8⟩
  · have v : validB y 12 28 = false := by
      refine Bool.eq_false_iff.2 fun hv => ?_
      have := (validB_iff _ _ _).1 hv
      unfold thereB at h; simp only [decide_eq_false_iff_not] at h
      omega
    exact .inr ⟨h, dateE_false v, by unfold manyV; rw [h]; rfl⟩
set_option maxHeartbeats 1000000 in
theorem rmany_any (y : Int) (w : World) :
    Calls Try.prog 38 #[.int .i64 y] w fun e w' => e = .returned (.tuple #[.int .i64 (manyV y), .int .i64 (dateE (thereB y 1))]) ∧ Below w.heap.size w w' := by
  rcases rmany_facts y with ⟨h, e1, N, e2, i, e3⟩ | ⟨h, e1, e2⟩
  · have D := Lib.hid (dateE_true h)
    have d := dateE_true i
    have E := Lib.hid e3
    clear h i e3
    go_enter Try.func38, Try.ntmps38
    go_wp2_with fail
    refine (rday_any _ _ _ _).mono ?_
    rintro e w1 ⟨rfl, hb1⟩
    go_wp2_with fail
    refine (riso_any _ _).mono ?_
    rintro e w2 ⟨rfl, hb2⟩
    go_wp2_with fail
    go_ret2
    exact ⟨ret_ii E.out D.out.symm, (by repeat (with_reducible (first | exact Below.refl _ _ | assumption | refine bl_alloc ?_ _ | refine bl_drewN ?_ _ | refine bl_drew ?_ | refine bl_call ?_ (by assumption) | (refine bl_setCell ?_ _ (Nat.le_refl _)) | (refine bl_setCell ?_ _ (by simp)))))⟩
  · have D := Lib.hid (dateE_false h)
    have E := Lib.hid e2
    clear h e2
    go_enter Try.func38, Try.ntmps38
    go_wp2_with fail
    refine (rday_any _ _ _ _).mono ?_
    rintro e w1 ⟨rfl, hb1⟩
    go_wp2_with fail
    go_ret2
    exact ⟨ret_ii E.out.symm D.out.symm, (by repeat (with_reducible (first | exact Below.refl _ _ | assumption | refine bl_alloc ?_ _ | refine bl_drewN ?_ _ | refine bl_drew ?_ | refine bl_call ?_ (by assumption) | (refine bl_setCell ?_ _ (Nat.le_refl _)) | (refine bl_setCell ?_ _ (by simp)))))⟩
end Go.Proofs.Ytmkpkghhalpfaaa
