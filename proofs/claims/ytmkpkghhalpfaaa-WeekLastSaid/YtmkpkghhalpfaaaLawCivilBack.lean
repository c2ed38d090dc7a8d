import Derived.Test.YtmkpkghhalpfaaaLawCivilOrder
import Derived.Test.YtmkpkghhalpfaaaLawCivilNext
namespace Go.Proofs.Ytmkpkghhalpfaaa
open Go.RowKit
set_option linter.unusedVariables false
theorem back_of {y m d : Int} (h : validB y m d = true) : ofY (dayNo y m d) = y ∧ ofM (dayNo y m d) = m ∧ ofD (dayNo y m d) = d ∧ dateE (isB (dayNo y m d)) = 0 ∧ 0 ≤ dayNo y m d ∧ dayNo y m d < 3068037 := by
  obtain ⟨h1, h2, h3⟩ := of_is y m d _ h rfl
  have hb := dayNo_bd y m d h
  exact ⟨h1, h2, h3, dateE_true ((isB_iff _).2 hb), hb.1, hb.2⟩
theorem back_day {n : Int} (h : isB n = true) : dayV (ofY n) (ofM n) (ofD n) = n ∧ dateE (validB (ofY n) (ofM n) (ofD n)) = 0 ∧ dateE (isB n) = 0 := by
  obtain ⟨h1, h2⟩ := of_ok n h
  exact ⟨by unfold dayV; rw [if_pos h1, h2], dateE_true h1, dateE_true h⟩
set_option maxRecDepth 100000 in
set_option maxHeartbeats 4000000 in
theorem civilBack_any (y m d n : Int) (w : World) (_ : In y) (_ : In m) (_ : In d) (_ : In n) :
    Calls Try.prog 7 #[dateA y m d, .int .i64 n] w fun e w' => e = .returned (.bool true) ∧ Below w.heap.size w w' := by
  have nn : ∀ b : Bool, b = false → isB n = b → (n < 0 ∨ (0 ≤ n ∧ 3068037 ≤ n)) := fun b hb h => by
    subst hb; have := mt (isB_iff n).2 (by simp [h]); omega
  rcases dayV_cases y m d with ⟨v1, h1, e1⟩ | ⟨v1, h1, e1⟩
  · obtain ⟨o1, o2, o3, o4, o5, o6⟩ := back_of v1
    generalize dayNo y m d = k at *
    clear v1
    rcases Bool.eq_false_or_eq_true (isB n) with h | h
    · obtain ⟨p1, p2, p3⟩ := back_day h
      clear h nn
      go_enter Try.func7, Try.ntmps7
      go_wp2_with fail
      refine (live5 _).mono ?_
      rintro e w1 ⟨rfl, hb1⟩
      obtain ⟨hc1_0, hf1_0, hz1_0⟩ := own_stays hb1 (b := w.heap.size) (by first | (simp; done) | (simp; omega) | omega)
      go_wp2_with fail
      refine (day_any _ _ _ _).mono ?_
      rintro e w2 ⟨rfl, hb2⟩
      obtain ⟨hc2_0, hf2_0, hz2_0⟩ := own_stays hb2 (b := w.heap.size) (by first | (simp; done) | (simp; omega) | omega)
      go_wp2_with fail
      refine (check_any _ _ _ _).mono ?_
      rintro e w3 ⟨rfl, hb3⟩
      obtain ⟨hc3_0, hf3_0, hz3_0⟩ := own_stays hb3 (b := w.heap.size) (by first | (simp; done) | (simp; omega) | omega)
      go_wp2_with fail
      refine (of_any _ _).mono ?_
      rintro e w4 ⟨rfl, hb4⟩
      obtain ⟨hc4_0, hf4_0, hz4_0⟩ := own_stays hb4 (b := w.heap.size) (by first | (simp; done) | (simp; omega) | omega)
      go_wp2_with fail
      refine (of_any _ _).mono ?_
      rintro e w5 ⟨rfl, hb5⟩
      obtain ⟨hc5_0, hf5_0, hz5_0⟩ := own_stays hb5 (b := w.heap.size) (by first | (simp; done) | (simp; omega) | omega)
      obtain ⟨hc5_1, hf5_1, hz5_1⟩ := own_stays hb5 (b := w4.heap.size) (by first | (simp; done) | (simp; omega) | omega)
      go_wp2_with fail
      refine (day_any _ _ _ _).mono ?_
      rintro e w6 ⟨rfl, hb6⟩
      obtain ⟨hc6_0, hf6_0, hz6_0⟩ := own_stays hb6 (b := w.heap.size) (by first | (simp; done) | (simp; omega) | omega)
      obtain ⟨hc6_1, hf6_1, hz6_1⟩ := own_stays hb6 (b := w4.heap.size) (by first | (simp; done) | (simp; omega) | omega)
      obtain ⟨hc6_2, hf6_2, hz6_2⟩ := own_stays hb6 (b := w5.heap.size) (by first | (simp; done) | (simp; omega) | omega)
      go_wp2_with fail
      refine (check_any _ _ _ _).mono ?_
      rintro e w7 ⟨rfl, hb7⟩
      obtain ⟨hc7_0, hf7_0, hz7_0⟩ := own_stays hb7 (b := w.heap.size) (by first | (simp; done) | (simp; omega) | omega)
      obtain ⟨hc7_1, hf7_1, hz7_1⟩ := own_stays hb7 (b := w4.heap.size) (by first | (simp; done) | (simp; omega) | omega)
      obtain ⟨hc7_2, hf7_2, hz7_2⟩ := own_stays hb7 (b := w5.heap.size) (by first | (simp; done) | (simp; omega) | omega)
      go_wp2_with fail
      go_ret
      exact ⟨ret_b (by first | rfl | (simp; done) | (simp; omega)), (by repeat (first | exact Below.refl _ _ | assumption | refine bl_alloc ?_ _ | refine bl_drewN ?_ _ | refine bl_drew ?_ | refine bl_call ?_ (by assumption) | (refine bl_setCell ?_ _ (Nat.le_refl _)) | (refine bl_setCell ?_ _ (by simp))))⟩
    · have p3 := dateE_false h
      obtain ⟨p4, p5, p6⟩ := of_none n h
      rcases nn _ rfl h with b | ⟨b, b'⟩
      all_goals
        clear h nn
        go_enter Try.func7, Try.ntmps7
        go_wp2_with fail
        refine (live5 _).mono ?_
        rintro e w1 ⟨rfl, hb1⟩
        obtain ⟨hc1_0, hf1_0, hz1_0⟩ := own_stays hb1 (b := w.heap.size) (by first | (simp; done) | (simp; omega) | omega)
        go_wp2_with fail
        refine (day_any _ _ _ _).mono ?_
        rintro e w2 ⟨rfl, hb2⟩
        obtain ⟨hc2_0, hf2_0, hz2_0⟩ := own_stays hb2 (b := w.heap.size) (by first | (simp; done) | (simp; omega) | omega)
        go_wp2_with fail
        refine (check_any _ _ _ _).mono ?_
        rintro e w3 ⟨rfl, hb3⟩
        obtain ⟨hc3_0, hf3_0, hz3_0⟩ := own_stays hb3 (b := w.heap.size) (by first | (simp; done) | (simp; omega) | omega)
        go_wp2_with fail
        refine (of_any _ _).mono ?_
        rintro e w4 ⟨rfl, hb4⟩
        obtain ⟨hc4_0, hf4_0, hz4_0⟩ := own_stays hb4 (b := w.heap.size) (by first | (simp; done) | (simp; omega) | omega)
        go_wp2_with fail
        refine (of_any _ _).mono ?_
        rintro e w5 ⟨rfl, hb5⟩
        obtain ⟨hc5_0, hf5_0, hz5_0⟩ := own_stays hb5 (b := w.heap.size) (by first | (simp; done) | (simp; omega) | omega)
        obtain ⟨hc5_1, hf5_1, hz5_1⟩ := own_stays hb5 (b := w4.heap.size) (by first | (simp; done) | (simp; omega) | omega)
        go_wp2_with fail
        go_ret
        exact ⟨ret_b (by first | rfl | (simp; done) | (simp; omega)), (by repeat (first | exact Below.refl _ _ | assumption | refine bl_alloc ?_ _ | refine bl_drewN ?_ _ | refine bl_drew ?_ | refine bl_call ?_ (by assumption) | (refine bl_setCell ?_ _ (Nat.le_refl _)) | (refine bl_setCell ?_ _ (by simp))))⟩
  · clear v1
    rcases Bool.eq_false_or_eq_true (isB n) with h | h
    · obtain ⟨p1, p2, p3⟩ := back_day h
      clear h nn
      go_enter Try.func7, Try.ntmps7
      go_wp2_with fail
      refine (live5 _).mono ?_
      rintro e w1 ⟨rfl, hb1⟩
      obtain ⟨hc1_0, hf1_0, hz1_0⟩ := own_stays hb1 (b := w.heap.size) (by first | (simp; done) | (simp; omega) | omega)
      go_wp2_with fail
      refine (day_any _ _ _ _).mono ?_
      rintro e w2 ⟨rfl, hb2⟩
      obtain ⟨hc2_0, hf2_0, hz2_0⟩ := own_stays hb2 (b := w.heap.size) (by first | (simp; done) | (simp; omega) | omega)
      go_wp2_with fail
      refine (check_any _ _ _ _).mono ?_
      rintro e w3 ⟨rfl, hb3⟩
      obtain ⟨hc3_0, hf3_0, hz3_0⟩ := own_stays hb3 (b := w.heap.size) (by first | (simp; done) | (simp; omega) | omega)
      go_wp2_with fail
      refine (of_any _ _).mono ?_
      rintro e w4 ⟨rfl, hb4⟩
      obtain ⟨hc4_0, hf4_0, hz4_0⟩ := own_stays hb4 (b := w.heap.size) (by first | (simp; done) | (simp; omega) | omega)
      go_wp2_with fail
      refine (day_any _ _ _ _).mono ?_
      rintro e w5 ⟨rfl, hb5⟩
      obtain ⟨hc5_0, hf5_0, hz5_0⟩ := own_stays hb5 (b := w.heap.size) (by first | (simp; done) | (simp; omega) | omega)
      obtain ⟨hc5_1, hf5_1, hz5_1⟩ := own_stays hb5 (b := w4.heap.size) (by first | (simp; done) | (simp; omega) | omega)
      go_wp2_with fail
      refine (check_any _ _ _ _).mono ?_
      rintro e w6 ⟨rfl, hb6⟩
      obtain ⟨hc6_0, hf6_0, hz6_0⟩ := own_stays hb6 (b := w.heap.size) (by first | (simp; done) | (simp; omega) | omega)
      obtain ⟨hc6_1, hf6_1, hz6_1⟩ := own_stays hb6 (b := w4.heap.size) (by first | (simp; done) | (simp; omega) | omega)
      go_wp2_with fail
      go_ret
      exact ⟨ret_b (by first | rfl | (simp; done) | (simp; omega)), (by repeat (first | exact Below.refl _ _ | assumption | refine bl_alloc ?_ _ | refine bl_drewN ?_ _ | refine bl_drew ?_ | refine bl_call ?_ (by assumption) | (refine bl_setCell ?_ _ (Nat.le_refl _)) | (refine bl_setCell ?_ _ (by simp))))⟩
    · have p3 := dateE_false h
      obtain ⟨p4, p5, p6⟩ := of_none n h
      rcases nn _ rfl h with b | ⟨b, b'⟩
      all_goals
        clear h nn
        go_enter Try.func7, Try.ntmps7
        go_wp2_with fail
        refine (live5 _).mono ?_
        rintro e w1 ⟨rfl, hb1⟩
        obtain ⟨hc1_0, hf1_0, hz1_0⟩ := own_stays hb1 (b := w.heap.size) (by first | (simp; done) | (simp; omega) | omega)
        go_wp2_with fail
        refine (day_any _ _ _ _).mono ?_
        rintro e w2 ⟨rfl, hb2⟩
        obtain ⟨hc2_0, hf2_0, hz2_0⟩ := own_stays hb2 (b := w.heap.size) (by first | (simp; done) | (simp; omega) | omega)
        go_wp2_with fail
        refine (check_any _ _ _ _).mono ?_
        rintro e w3 ⟨rfl, hb3⟩
        obtain ⟨hc3_0, hf3_0, hz3_0⟩ := own_stays hb3 (b := w.heap.size) (by first | (simp; done) | (simp; omega) | omega)
        go_wp2_with fail
        refine (of_any _ _).mono ?_
        rintro e w4 ⟨rfl, hb4⟩
        obtain ⟨hc4_0, hf4_0, hz4_0⟩ := own_stays hb4 (b := w.heap.size) (by first | (simp; done) | (simp; omega) | omega)
        go_wp2_with fail
        go_ret
        exact ⟨ret_b (by first | rfl | (simp; done) | (simp; omega)), (by repeat (first | exact Below.refl _ _ | assumption | refine bl_alloc ?_ _ | refine bl_drewN ?_ _ | refine bl_drew ?_ | refine bl_call ?_ (by assumption) | (refine bl_setCell ?_ _ (Nat.le_refl _)) | (refine bl_setCell ?_ _ (by simp))))⟩
end Go.Proofs.Ytmkpkghhalpfaaa
