/- Contracts of the package week: Iso. -/
import Derived.Test.YteppoghpfcmhhaaWeekA
namespace Go.Proofs.Yteppoghpfcmhhaa
set_option linter.unusedVariables false
set_option linter.unusedSimpArgs false
open Go.RowKit
/-- an ISO day as a value -/
abbrev isoA (y k d : Int) : Value := .agg #[.int .i64 y, .int .i64 k, .int .i64 d]
theorem mon_of {n : Int} (h : isB n = true) : n + 1 - wdI n = monI n ∧ 1 ≤ wdI n ∧ wdI n ≤ 7 := by rw [wd_of h]; unfold monI; omega
theorem firV_of {y : Int} (h1 : 1600 ≤ y) (h2 : y ≤ 9999) : firV y = firstI y ∧ dateE (thereB y 1) = 0 := by
  have h : thereB y 1 = true := by unfold thereB; simp; omega
  exact ⟨by unfold firV; rw [if_pos h], dateE_true h⟩
theorem iso_facts (n : Int) (h : isB n = true) : (isB (monI n + 3) = true ∧ ∃ Y F, ofY (monI n + 3) = Y ∧ firV Y = F ∧ dateE (thereB Y 1) = 0 ∧ F ≤ monI n ∧ (monI n - F) / 7 ≤ 52 ∧ 0 ≤ (monI n - F) / 7 ∧ 0 ≤ F + 3 ∧ isoY n = Y ∧ isoW n = (monI n - F) / 7 + 1) ∨ (isB (monI n + 3) = false ∧ isoY n = 1599 ∧ isoW n = 52) := by
  rcases Bool.eq_false_or_eq_true (isB (monI n + 3)) with h3 | h3
  · obtain ⟨a1, a2, a3, a4, a5, a6, a7⟩ := thu_year n h3
    obtain ⟨f1, f2⟩ := firV_of a1 a2
    have fb := first_bd (ofY (monI n + 3))
    have yb := years_bd (ofY (monI n + 3)) a1 (by omega)
    refine .inl ⟨h3, ofY (monI n + 3), firstI (ofY (monI n + 3)), rfl, f1, f2, a5, a6, by omega, by omega, ?_, ?_⟩
    · unfold isoY; rw [if_pos h, if_pos h3]
    · unfold isoW; rw [if_pos h, if_pos h3]
  · exact .inr ⟨h3, by unfold isoY; rw [if_pos h, h3]; rfl, by unfold isoW; rw [if_pos h, h3]; rfl⟩
set_option maxHeartbeats 1000000 in
theorem iso_any (n : Int) (w : World) :
    Calls Try.prog 29 #[.int .i64 n] w fun e w' => e = .returned (.tuple #[isoA (isoY n) (isoW n) (isoD n), .int .i64 (dateE (isB n))]) ∧ Below w.heap.size w w' := by
  rcases Bool.eq_false_or_eq_true (isB n) with h | h
  · have b := (isB_iff n).1 h
    obtain ⟨m1, m2, m3⟩ := mon_of h
    have mb := mon_bd n
    have D := Lib.hid (dateE_true h)
    have d := dateE_true h
    have ID := Lib.hid (show isoD n = wdI n from rfl)
    rcases iso_facts n h with ⟨h3, Y, F, e1, e2, e3, e4, e5, e6, e7, e8, e9⟩ | ⟨h3, e8, e9⟩
    · have d3 := dateE_true h3
      have E8 := Lib.hid e8
      have E9 := Lib.hid e9
      clear h h3 e8 e9
      rw [D.out, E8.out, E9.out, ID.out]
      generalize hM : monI n = M at *
      clear hM
      go_enter Try.func29, Try.ntmps29
      go_wp2_with (go_at_call 25; refine (weekday_any _ _).mono ?_; rintro e w' ⟨rfl, rfl⟩)
      refine (of_any _ _).mono ?_
      rintro e w1 ⟨rfl, hb1⟩
      obtain ⟨hc1_0, hf1_0, hz1_0⟩ := own_stays hb1 (b := w.heap.size) (by first | (simp; done) | (simp; omega) | omega)
      go_wp2_with (go_at_call 25; refine (weekday_any _ _).mono ?_; rintro e w' ⟨rfl, rfl⟩)
      refine (first_any _ _).mono ?_
      rintro e w2 ⟨rfl, hb2⟩
      obtain ⟨hc2_0, hf2_0, hz2_0⟩ := own_stays hb2 (b := w.heap.size) (by first | (simp; done) | (simp; omega) | omega)
      obtain ⟨hc2_1, hf2_1, hz2_1⟩ := own_stays hb2 (b := w1.heap.size) (by first | (simp; done) | (simp; omega) | omega)
      go_wp2_with (go_at_call 25; refine (weekday_any _ _).mono ?_; rintro e w' ⟨rfl, rfl⟩)
      have q0 : w2.cell? ⟨w.heap.size, 0, none⟩ = some (.int .i64 0) := by go_simp
      have q1 : w2.cell? ⟨w.heap.size, 1, none⟩ = some (.int .i64 0) := by go_simp
      have q2 : w2.cell? ⟨w.heap.size, 2, none⟩ = some (.int .i64 0) := by go_simp
      obtain ⟨s0, s1, s2⟩ := set3 (.int .i64 (Y)) (.int .i64 ((M - F) / 7 + 1)) (.int .i64 (wdI n)) q0 q1 q2
      refine bodyPost_ret (v := .tuple #[isoA (Y) ((M - F) / 7 + 1) (wdI n), .int .i64 0]) (by simp [results, Try.results29, go_sem, s0, s1, s2]) rfl ⟨rfl, ?_⟩
      exact (by repeat (with_reducible (first | exact Below.refl _ _ | assumption | refine bl_alloc ?_ _ | refine bl_drewN ?_ _ | refine bl_drew ?_ | refine bl_call ?_ (by assumption) | (refine bl_setCell ?_ _ (Nat.le_refl _)) | (refine bl_setCell ?_ _ (by simp)))))
    · have d3 := dateE_false h3
      have E8 := Lib.hid e8
      have E9 := Lib.hid e9
      clear h h3 e8 e9
      rw [D.out, E8.out, E9.out, ID.out]
      go_enter Try.func29, Try.ntmps29
      go_wp2_with (go_at_call 25; refine (weekday_any _ _).mono ?_; rintro e w' ⟨rfl, rfl⟩)
      refine (of_any _ _).mono ?_
      rintro e w1 ⟨rfl, hb1⟩
      obtain ⟨hc1_0, hf1_0, hz1_0⟩ := own_stays hb1 (b := w.heap.size) (by first | (simp; done) | (simp; omega) | omega)
      go_wp2_with (go_at_call 25; refine (weekday_any _ _).mono ?_; rintro e w' ⟨rfl, rfl⟩)
      have q0 : w1.cell? ⟨w.heap.size, 0, none⟩ = some (.int .i64 0) := by go_simp
      have q1 : w1.cell? ⟨w.heap.size, 1, none⟩ = some (.int .i64 0) := by go_simp
      have q2 : w1.cell? ⟨w.heap.size, 2, none⟩ = some (.int .i64 0) := by go_simp
      obtain ⟨s0, s1, s2⟩ := set3 (.int .i64 1599) (.int .i64 52) (.int .i64 (wdI n)) q0 q1 q2
      have K := (own_stays (bl_alloc (Below.refl (((w1.setCell ⟨w.heap.size, 0, none⟩ (.int .i64 1599)).setCell ⟨w.heap.size, 1, none⟩ (.int .i64 52)).setCell ⟨w.heap.size, 2, none⟩ (.int .i64 (wdI n))).heap.size _) (Obj.cells #[.int .i64 (ofY (monI n + 3)), .int .i64 (ofM (monI n + 3)), .int .i64 (ofD (monI n + 3))] 33)) (b := w.heap.size) (by simpa using hz1_0)).1
      refine bodyPost_ret (v := .tuple #[isoA 1599 52 (wdI n), .int .i64 0]) (by simp [results, Try.results29, go_sem, K, s0, s1, s2]) rfl ⟨rfl, ?_⟩
      exact (by repeat (with_reducible (first | exact Below.refl _ _ | assumption | refine bl_alloc ?_ _ | refine bl_drewN ?_ _ | refine bl_drew ?_ | refine bl_call ?_ (by assumption) | (refine bl_setCell ?_ _ (Nat.le_refl _)) | (refine bl_setCell ?_ _ (by simp)))))
  · have D := Lib.hid (dateE_false h)
    have d := dateE_false h
    have E8 := Lib.hid (show isoY n = 0 by unfold isoY; rw [h]; rfl)
    have E9 := Lib.hid (show isoW n = 0 by unfold isoW; rw [h]; rfl)
    have ID := Lib.hid (show isoD n = 0 by unfold isoD wdI; rw [h]; rfl)
    clear h
    rw [D.out, E8.out, E9.out, ID.out]
    go_enter Try.func29, Try.ntmps29
    go_wp2_with (go_at_call 25; refine (weekday_any _ _).mono ?_; rintro e w' ⟨rfl, rfl⟩)
    exact bodyPost_ret (v := .tuple #[isoA 0 0 0, .int .i64 4]) (by simp [results, Try.results29, go_sem]) rfl ⟨rfl, (by repeat (with_reducible (first | exact Below.refl _ _ | assumption | refine bl_alloc ?_ _ | refine bl_drewN ?_ _ | refine bl_drew ?_ | refine bl_call ?_ (by assumption) | (refine bl_setCell ?_ _ (Nat.le_refl _)) | (refine bl_setCell ?_ _ (by simp)))))⟩
end Go.Proofs.Yteppoghpfcmhhaa
