import Derived.Test.YtmkpkghhalpfaaaWeekE
import Derived.Test.YtmkpkghhalpfaaaCivE
import Derived.Test.YtmkpkghhalpfaaaMathF
namespace Go.Proofs.Ytmkpkghhalpfaaa
set_option linter.unusedVariables false
set_option linter.unusedSimpArgs false
open Go.RowKit
set_option maxRecDepth 100000 in
set_option maxHeartbeats 4000000 in
theorem weekFirst_any (y : Int) (w : World) (_ : In y) :
    Calls Try.prog 13 #[.int .i64 y] w fun e w' => e = .returned (.bool true) ∧ Below w.heap.size w w' := by
  rcases Bool.eq_false_or_eq_true (thereB y 1) with h | h
  · have d := dateE_true h
    have yb : 0 ≤ yearsI y ∧ yearsI y ≤ 3068037 ∧ 0 ≤ yearsI (y + 1) ∧ yearsI (y + 1) ≤ 3068037 := by
      unfold thereB at h; simp only [decide_eq_true_eq] at h
      have b1 := years_bd y (by omega) (by omega)
      have b2 := years_bd (y + 1) (by omega) (by omega)
      omega
    obtain ⟨a1, a2, a3, a4, a5, a6, a7, a8, a9, b1, b2, b3, c⟩ := year_weeks y h
    have a9 := dateE_true a9
    have b1 := dateE_true b1
    have b2 := dateE_true b2
    have b3 := dateE_true b3
    have s1 : yearsI y + 3 - 3 = yearsI y := by omega
    have s2 : yearsI (y + 1) - 4 + 3 = yearsI (y + 1) - 1 := by omega
    clear h
    generalize yearsI y = A at *
    generalize yearsI (y + 1) = B at *
    rcases c with ⟨m, c | c⟩ | ⟨m, c, c'⟩
    · go_enter Try.func13, Try.ntmps13
      go_wp2_with (go_at_call 25; refine (weekday_any _ _).mono ?_; rintro e w' ⟨rfl, rfl⟩)
      refine (live6 _).mono ?_
      rintro e w1 ⟨rfl, hb1⟩
      go_wp2_with (go_at_call 25; refine (weekday_any _ _).mono ?_; rintro e w' ⟨rfl, rfl⟩)
      refine (many_any _ _).mono ?_
      rintro e w2 ⟨rfl, hb2⟩
      go_wp2_with (go_at_call 25; refine (weekday_any _ _).mono ?_; rintro e w' ⟨rfl, rfl⟩)
      refine (day_any _ _ _ _).mono ?_
      rintro e w3 ⟨rfl, hb3⟩
      go_wp2_with (go_at_call 25; refine (weekday_any _ _).mono ?_; rintro e w' ⟨rfl, rfl⟩)
      refine (day_any _ _ _ _).mono ?_
      rintro e w4 ⟨rfl, hb4⟩
      go_wp2_with (go_at_call 25; refine (weekday_any _ _).mono ?_; rintro e w' ⟨rfl, rfl⟩)
      refine (iso_any _ _).mono ?_
      rintro e w5 ⟨rfl, hb5⟩
      go_wp2_with (go_at_call 25; refine (weekday_any _ _).mono ?_; rintro e w' ⟨rfl, rfl⟩)
      refine (iso_any _ _).mono ?_
      rintro e w6 ⟨rfl, hb6⟩
      obtain ⟨hc6_0, hf6_0, hz6_0⟩ := own_stays hb6 (b := w5.heap.size) (by first | (simp; done) | (simp; omega) | omega)
      go_wp2_with (go_at_call 25; refine (weekday_any _ _).mono ?_; rintro e w' ⟨rfl, rfl⟩)
      go_ret
      exact ⟨ret_b (by first | rfl | (simp; done)), (by repeat (with_reducible (first | exact Below.refl _ _ | assumption | refine bl_alloc ?_ _ | refine bl_drewN ?_ _ | refine bl_drew ?_ | refine bl_call ?_ (by assumption) | (refine bl_setCell ?_ _ (Nat.le_refl _)) | (refine bl_setCell ?_ _ (by simp)))))⟩
    · have c2 : wdI A = 4 ∨ (wdI A == 4) = false := by by_cases c2 : wdI A = 4; exact .inl c2; exact .inr (by simpa using c2)
      rcases c2 with c2 | c2
      all_goals
        go_enter Try.func13, Try.ntmps13
        go_wp2_with (go_at_call 25; refine (weekday_any _ _).mono ?_; rintro e w' ⟨rfl, rfl⟩)
        refine (live6 _).mono ?_
        rintro e w1 ⟨rfl, hb1⟩
        go_wp2_with (go_at_call 25; refine (weekday_any _ _).mono ?_; rintro e w' ⟨rfl, rfl⟩)
        refine (many_any _ _).mono ?_
        rintro e w2 ⟨rfl, hb2⟩
        go_wp2_with (go_at_call 25; refine (weekday_any _ _).mono ?_; rintro e w' ⟨rfl, rfl⟩)
        refine (day_any _ _ _ _).mono ?_
        rintro e w3 ⟨rfl, hb3⟩
        go_wp2_with (go_at_call 25; refine (weekday_any _ _).mono ?_; rintro e w' ⟨rfl, rfl⟩)
        refine (day_any _ _ _ _).mono ?_
        rintro e w4 ⟨rfl, hb4⟩
        go_wp2_with (go_at_call 25; refine (weekday_any _ _).mono ?_; rintro e w' ⟨rfl, rfl⟩)
        refine (iso_any _ _).mono ?_
        rintro e w5 ⟨rfl, hb5⟩
        go_wp2_with (go_at_call 25; refine (weekday_any _ _).mono ?_; rintro e w' ⟨rfl, rfl⟩)
        refine (iso_any _ _).mono ?_
        rintro e w6 ⟨rfl, hb6⟩
        obtain ⟨hc6_0, hf6_0, hz6_0⟩ := own_stays hb6 (b := w5.heap.size) (by first | (simp; done) | (simp; omega) | omega)
        go_wp2_with (go_at_call 25; refine (weekday_any _ _).mono ?_; rintro e w' ⟨rfl, rfl⟩)
        go_ret
        exact ⟨ret_b (by first | rfl | (simp; done)), (by repeat (with_reducible (first | exact Below.refl _ _ | assumption | refine bl_alloc ?_ _ | refine bl_drewN ?_ _ | refine bl_drew ?_ | refine bl_call ?_ (by assumption) | (refine bl_setCell ?_ _ (Nat.le_refl _)) | (refine bl_setCell ?_ _ (by simp)))))⟩
    · have c : (wdI A == 4) = false := by simpa using c
      have c' : (wdI (B - 1) == 4) = false := by simpa using c'
      go_enter Try.func13, Try.ntmps13
      go_wp2_with (go_at_call 25; refine (weekday_any _ _).mono ?_; rintro e w' ⟨rfl, rfl⟩)
      refine (live6 _).mono ?_
      rintro e w1 ⟨rfl, hb1⟩
      go_wp2_with (go_at_call 25; refine (weekday_any _ _).mono ?_; rintro e w' ⟨rfl, rfl⟩)
      refine (many_any _ _).mono ?_
      rintro e w2 ⟨rfl, hb2⟩
      go_wp2_with (go_at_call 25; refine (weekday_any _ _).mono ?_; rintro e w' ⟨rfl, rfl⟩)
      refine (day_any _ _ _ _).mono ?_
      rintro e w3 ⟨rfl, hb3⟩
      go_wp2_with (go_at_call 25; refine (weekday_any _ _).mono ?_; rintro e w' ⟨rfl, rfl⟩)
      refine (day_any _ _ _ _).mono ?_
      rintro e w4 ⟨rfl, hb4⟩
      go_wp2_with (go_at_call 25; refine (weekday_any _ _).mono ?_; rintro e w' ⟨rfl, rfl⟩)
      refine (iso_any _ _).mono ?_
      rintro e w5 ⟨rfl, hb5⟩
      go_wp2_with (go_at_call 25; refine (weekday_any _ _).mono ?_; rintro e w' ⟨rfl, rfl⟩)
      refine (iso_any _ _).mono ?_
      rintro e w6 ⟨rfl, hb6⟩
      obtain ⟨hc6_0, hf6_0, hz6_0⟩ := own_stays hb6 (b := w5.heap.size) (by first | (simp; done) | (simp; omega) | omega)
      go_wp2_with (go_at_call 25; refine (weekday_any _ _).mono ?_; rintro e w' ⟨rfl, rfl⟩)
      go_ret
      exact ⟨ret_b (by first | rfl | (simp; done)), (by repeat (with_reducible (first | exact Below.refl _ _ | assumption | refine bl_alloc ?_ _ | refine bl_drewN ?_ _ | refine bl_drew ?_ | refine bl_call ?_ (by assumption) | (refine bl_setCell ?_ _ (Nat.le_refl _)) | (refine bl_setCell ?_ _ (by simp)))))⟩
  · have d := dateE_false h
    have m : manyV y = 0 := by unfold manyV; rw [h]; rfl
    have yb : y < 1600 ∨ (1600 ≤ y ∧ 9999 < y) := by
      unfold thereB at h; simp only [decide_eq_false_iff_not] at h
      omega
    clear h
    rcases yb with yb | ⟨yb, yb'⟩
    all_goals
      go_enter Try.func13, Try.ntmps13
      go_wp2_with fail
      refine (live6 _).mono ?_
      rintro e w1 ⟨rfl, hb1⟩
      go_wp2_with fail
      refine (many_any _ _).mono ?_
      rintro e w2 ⟨rfl, hb2⟩
      go_wp2_with fail
      go_ret
      exact ⟨ret_b (by first | rfl | (simp; done)), (by repeat (with_reducible (first | exact Below.refl _ _ | assumption | refine bl_alloc ?_ _ | refine bl_drewN ?_ _ | refine bl_drew ?_ | refine bl_call ?_ (by assumption) | (refine bl_setCell ?_ _ (Nat.le_refl _)) | (refine bl_setCell ?_ _ (by simp)))))⟩
end Go.Proofs.Ytmkpkghhalpfaaa
