import Derived.Test.YtmkpkghhalpfaaaWeekF
import Derived.Test.YtmkpkghhalpfaaaLawCivilBack
namespace Go.Proofs.Ytmkpkghhalpfaaa
open Go.RowKit
set_option linter.unusedVariables false
/-- what is said of the last weekday of a month, and of the nearest one -/
theorem last_facts (y m d : Int) (e : wkE y m d = 0) : thereB y m = true ∧ 1 ≤ d ∧ d ≤ 7 ∧ lastV y m d = lastN y m d ∧ isB (lastN y m d) = true ∧ wdI (lastN y m d) = d ∧ ofY (lastN y m d) = y ∧ ofM (lastN y m d) = m ∧ mlen y m < ofD (lastN y m d) + 7 ∧ ofD (lastN y m d) ≤ 31 ∧
    0 ≤ eomI y m ∧ eomI y m ≤ 3068036 ∧ eomI y m - 6 ≤ lastN y m d ∧ lastN y m d ≤ eomI y m ∧ ((nearE y m d = 0 ∧ eomI y m - 3 ≤ nearV y m d ∧ nearV y m d ≤ eomI y m + 3 ∧ (nearV y m d = lastN y m d ∨ nearV y m d = lastN y m d + 7)) ∨ (nearE y m d = 4 ∧ lastN y m d < eomI y m - 3 ∧ 3068037 ≤ lastN y m d + 7)) := by
  rcases wkE_bool y m d with ⟨_, h, c1, c2, v, u, u1, u2, b1, b2⟩ | ⟨e', _, _⟩
  · have h' := h
    unfold thereB at h'; simp only [decide_eq_true_eq] at h'
    obtain ⟨f1, f2, f3, f4⟩ := eom_facts y m h
    have w0 := wd_of f3
    have yb := years_bd y (by omega) (by omega)
    have ab := ahead_bd y m (by omega) (by omega)
    have mb := mlen_bd y m
    have ed : eomI y m = yearsI y + aheadI y m + mlen y m - 1 := rfl
    have ld : lastN y m d = eomI y m - (wdI (eomI y m) - d + 7) % 7 := rfl
    have hv : validB y m (lastN y m d - yearsI y - aheadI y m + 1) = true := by rw [validB_iff]; omega
    have hd : dayNo y m (lastN y m d - yearsI y - aheadI y m + 1) = lastN y m d := by unfold dayNo; omega
    obtain ⟨o1, o2, o3⟩ := of_is _ _ _ _ hv hd
    have i : isB (lastN y m d) = true := (isB_iff _).2 (by omega)
    have w1 := wd_of i
    have kd : nearK y m d = (d - wdI (eomI y m) + 10) % 7 - 3 := rfl
    refine ⟨h, c1, c2, by unfold lastV; rw [if_pos e], i, by omega, o1, o2, by omega, by omega, by omega, by omega, by omega, by omega, ?_⟩
    by_cases ok : addOk (eomI y m) (nearK y m d) = true
    · have n1 : nearV y m d = eomI y m + nearK y m d := by unfold nearV addI; rw [if_pos e, if_pos ok]
      have n2 : nearE y m d = 0 := by unfold nearE; rw [if_pos e, ok]; rfl
      exact .inl ⟨n2, by omega, by omega, by omega⟩
    · have n2 : nearE y m d = 4 := by unfold nearE; rw [if_pos e, dateE_false (by simpa using ok)]
      have ok' : ¬ (0 ≤ eomI y m ∧ eomI y m < 3068037 ∧ -eomI y m ≤ nearK y m d ∧ nearK y m d < 3068037 - eomI y m) := by
        intro hh; apply ok; unfold addOk; simpa using hh
      have d30 : 30 ≤ eomI y m := by omega
      exact .inr ⟨n2, by omega, by omega⟩
  · simp [e] at e'
theorem wk_no (y m d : Int) (e : ¬ wkE y m d = 0) : lastV y m d = 0 ∧ nearV y m d = 0 ∧ nearE y m d = wkE y m d :=
  ⟨by unfold lastV; rw [if_neg e], by unfold nearV; rw [if_neg e], by unfold nearE; rw [if_neg e]⟩
set_option maxRecDepth 100000 in
set_option maxHeartbeats 4000000 in
theorem weekLast_any (y m d : Int) (w : World) (_ : In y) (_ : In m) (_ : In d) :
    Calls Try.prog 15 #[.int .i64 y, .int .i64 m, .int .i64 d] w fun e w' => e = .returned (.bool true) ∧ Below w.heap.size w w' := by
  rcases wk_cases y m d with ⟨h, e, l⟩ | ⟨h, l, e, c⟩ | ⟨h, l, e, c1, c2⟩
  · obtain ⟨n1, n2, n3⟩ := wk_no y m d (by omega)
    rw [e] at n3
    have t := dateE_false h
    clear h
    go_enter Try.func15, Try.ntmps15
    go_wp2_with fail
    refine (live6 _).mono ?_
    rintro e w1 ⟨rfl, hb1⟩
    go_wp2_with fail
    refine (last_any _ _ _ _).mono ?_
    rintro e w2 ⟨rfl, hb2⟩
    go_wp2_with fail
    refine (length_any _ _ _).mono ?_
    rintro e w3 ⟨rfl, hb3⟩
    go_wp2_with fail
    refine (near_any _ _ _ _).mono ?_
    rintro e w4 ⟨rfl, hb4⟩
    go_wp2_with fail
    go_ret
    exact ⟨ret_b (by first | rfl | (simp; done)), (by repeat (with_reducible (first | exact Below.refl _ _ | assumption | refine bl_alloc ?_ _ | refine bl_drewN ?_ _ | refine bl_drew ?_ | refine bl_call ?_ (by assumption) | (refine bl_setCell ?_ _ (Nat.le_refl _)) | (refine bl_setCell ?_ _ (by simp)))))⟩
  · obtain ⟨n1, n2, n3⟩ := wk_no y m d (by omega)
    rw [e] at n3
    have t := dateE_true h
    clear h
    rcases c with c | ⟨c, c'⟩
    all_goals
      go_enter Try.func15, Try.ntmps15
      go_wp2_with fail
      refine (live6 _).mono ?_
      rintro e w1 ⟨rfl, hb1⟩
      go_wp2_with fail
      refine (last_any _ _ _ _).mono ?_
      rintro e w2 ⟨rfl, hb2⟩
      go_wp2_with fail
      refine (length_any _ _ _).mono ?_
      rintro e w3 ⟨rfl, hb3⟩
      go_wp2_with fail
      refine (near_any _ _ _ _).mono ?_
      rintro e w4 ⟨rfl, hb4⟩
      go_wp2_with fail
      go_ret
      exact ⟨ret_b (by first | rfl | (simp; done)), (by repeat (with_reducible (first | exact Below.refl _ _ | assumption | refine bl_alloc ?_ _ | refine bl_drewN ?_ _ | refine bl_drew ?_ | refine bl_call ?_ (by assumption) | (refine bl_setCell ?_ _ (Nat.le_refl _)) | (refine bl_setCell ?_ _ (by simp)))))⟩
  · obtain ⟨_, _, _, a1, a2, a3, a4, a5, a6, a7, a8, a9, a10, a11, a12⟩ := last_facts y m d e
    obtain ⟨f1, f2, f3, _⟩ := eom_facts y m h
    have t := dateE_true h
    have t2 := dateE_true a2
    have mb := mlen_bd y m
    have w1 := wd_of a2
    clear h a2 f3 w1
    generalize eomI y m = E at *
    generalize lastN y m d = N at *
    rcases a12 with ⟨g1, g2, g3, g4 | g4⟩ | ⟨g1, g2, g3⟩
    all_goals
      go_enter Try.func15, Try.ntmps15
      go_wp2_with (go_at_call 25; refine (weekday_any _ _).mono ?_; rintro e w' ⟨rfl, rfl⟩)
      refine (live6 _).mono ?_
      rintro e w1 ⟨rfl, hb1⟩
      go_wp2_with (go_at_call 25; refine (weekday_any _ _).mono ?_; rintro e w' ⟨rfl, rfl⟩)
      refine (last_any _ _ _ _).mono ?_
      rintro e w2 ⟨rfl, hb2⟩
      go_wp2_with (go_at_call 25; refine (weekday_any _ _).mono ?_; rintro e w' ⟨rfl, rfl⟩)
      refine (length_any _ _ _).mono ?_
      rintro e w3 ⟨rfl, hb3⟩
      go_wp2_with (go_at_call 25; refine (weekday_any _ _).mono ?_; rintro e w' ⟨rfl, rfl⟩)
      refine (near_any _ _ _ _).mono ?_
      rintro e w4 ⟨rfl, hb4⟩
      go_wp2_with (go_at_call 25; refine (weekday_any _ _).mono ?_; rintro e w' ⟨rfl, rfl⟩)
      refine (day_any _ _ _ _).mono ?_
      rintro e w5 ⟨rfl, hb5⟩
      go_wp2_with (go_at_call 25; refine (weekday_any _ _).mono ?_; rintro e w' ⟨rfl, rfl⟩)
      refine (of_any _ _).mono ?_
      rintro e w6 ⟨rfl, hb6⟩
      go_wp2_with (go_at_call 25; refine (weekday_any _ _).mono ?_; rintro e w' ⟨rfl, rfl⟩)
      go_ret
      exact ⟨ret_b (by first | rfl | (simp; done) | (simp; omega)), (by repeat (with_reducible (first | exact Below.refl _ _ | assumption | refine bl_alloc ?_ _ | refine bl_drewN ?_ _ | refine bl_drew ?_ | refine bl_call ?_ (by assumption) | (refine bl_setCell ?_ _ (Nat.le_refl _)) | (refine bl_setCell ?_ _ (by simp)))))⟩
end Go.Proofs.Ytmkpkghhalpfaaa
