import Derived.Test.YtmkpkghhalpfaaaLawCivilAdds
namespace Go.Proofs.Ytmkpkghhalpfaaa
open Go.RowKit
set_option linter.unusedVariables false
theorem dayNo_next1 (y m d : Int) (h : validB y m d = true) (hl : d < mlen y m) : validB y m (d + 1) = true ∧ dayNo y m (d + 1) = dayNo y m d + 1 := by
  rw [validB_iff] at *
  exact ⟨by omega, by unfold dayNo; omega⟩
theorem dayNo_next2 (y m d : Int) (h : validB y m d = true) (hl : d = mlen y m) (hm : m < 12) : validB y (m + 1) 1 = true ∧ dayNo y (m + 1) 1 = dayNo y m d + 1 := by
  rw [validB_iff] at *
  have := ahead_succ y m (by omega) (by omega)
  have := mlen_bd y (m + 1)
  exact ⟨by omega, by unfold dayNo; omega⟩
theorem dayNo_next3 (y m d : Int) (h : validB y m d = true) (hl : d = mlen y m) (hm : m = 12) (hy : y < 9999) : validB (y + 1) 1 1 = true ∧ dayNo (y + 1) 1 1 = dayNo y m d + 1 := by
  rw [validB_iff] at *
  have h1 := ahead_succ y m (by omega) (by omega)
  have h2 := ahead_13 y
  have h3 := years_succ y (by omega) (by omega)
  have h4 := ahead_one (y + 1)
  have := mlen_bd (y + 1) 1
  subst hm
  rw [show (12 : Int) + 1 = 13 from rfl] at h1
  exact ⟨by omega, by unfold dayNo; omega⟩
theorem last_day (y m d : Int) (h : validB y m d = true) (hl : d = mlen y m) (hm : m = 12) (hy : y = 9999) : dayNo y m d = 3068036 := by
  subst hm hy
  rw [hl]; decide +kernel
theorem next_cases (n : Int) (h : isB n = true) (h1 : isB (n + 1) = true) : ∃ y m d, validB y m d = true ∧ ofY n = y ∧ ofM n = m ∧ ofD n = d ∧ lenV y m = mlen y m ∧ dateE (thereB y m) = 0 ∧
    ((d < mlen y m ∧ ofY (n + 1) = y ∧ ofM (n + 1) = m ∧ ofD (n + 1) = d + 1) ∨ (mlen y m = d ∧ m < 12 ∧ ofY (n + 1) = y ∧ ofM (n + 1) = m + 1 ∧ ofD (n + 1) = 1) ∨ (mlen y m = d ∧ m = 12 ∧ ofY (n + 1) = y + 1 ∧ ofM (n + 1) = 1 ∧ ofD (n + 1) = 1)) := by
  obtain ⟨hv, hd⟩ := of_ok n h
  generalize ofY n = y at *
  generalize ofM n = m at *
  generalize ofD n = d at *
  have hv' := (validB_iff y m d).1 hv
  have ht : thereB y m = true := by unfold thereB; simp; omega
  refine ⟨y, m, d, hv, rfl, rfl, rfl, by unfold lenV; rw [if_pos ht], by rw [ht]; rfl, ?_⟩
  by_cases c1 : d < mlen y m
  · obtain ⟨a, b⟩ := dayNo_next1 y m d hv c1
    obtain ⟨e1, e2, e3⟩ := of_is _ _ _ (n + 1) a (by rw [b, hd])
    exact .inl ⟨c1, e1, e2, e3⟩
  · by_cases c2 : m < 12
    · obtain ⟨a, b⟩ := dayNo_next2 y m d hv (by omega) c2
      obtain ⟨e1, e2, e3⟩ := of_is _ _ _ (n + 1) a (by rw [b, hd])
      exact .inr (.inl ⟨by omega, c2, e1, e2, e3⟩)
    · have hy : y < 9999 := by
        refine Classical.byContradiction fun c3 => ?_
        have := last_day y m d hv (by omega) (by omega) (by omega)
        rw [isB_iff] at h1; omega
      obtain ⟨a, b⟩ := dayNo_next3 y m d hv (by omega) (by omega) hy
      obtain ⟨e1, e2, e3⟩ := of_is _ _ _ (n + 1) a (by rw [b, hd])
      exact .inr (.inr ⟨by omega, by omega, e1, e2, e3⟩)
theorem wd_of {n : Int} (h : isB n = true) : wdI n = (n + 5) % 7 + 1 := by unfold wdI; rw [if_pos h]
theorem dateE_true {b : Bool} (h : b = true) : dateE b = 0 := by rw [h]; rfl
theorem dateE_false {b : Bool} (h : b = false) : dateE b = 4 := by rw [h]; rfl
set_option maxRecDepth 100000 in
set_option maxHeartbeats 4000000 in
theorem civilNext_any (n : Int) (w : World) (hn : In n) :
    Calls Try.prog 9 #[.int .i64 n] w fun e w' => e = .returned (.bool true) ∧ Below w.heap.size w w' := by
  have I1 : In 1 := ⟨by decide, by decide⟩
  rcases Bool.eq_false_or_eq_true (isB n) with h | h
  rcases Bool.eq_false_or_eq_true (isB (n + 1)) with h1 | h1
  · have b0 := (isB_iff n).1 h
    have b1 := (isB_iff (n + 1)).1 h1
    obtain ⟨a1, a2⟩ := addOk_of (n := n) (k := 1) (by omega)
    have d1 := dateE_true h
    have d2 := dateE_true h1
    have w1 := wd_of h
    have w2 := wd_of h1
    obtain ⟨y, m, d, hv, o1, o2, o3, l1, l2, c⟩ := next_cases n h h1
    have W1 : 0 ≤ (n + 5) % 7 ∧ (n + 5) % 7 < 7 := by omega
    have W2 : (n + 1 + 5) % 7 = ((n + 5) % 7 + 1) % 7 := by omega
    have hv' := (validB_iff y m d).1 hv
    have mb := mlen_bd y m
    clear h h1 hv
    rw [W2] at w2
    generalize (n + 5) % 7 = r at *
    clear W2
    rcases c with ⟨c1, p1, p2, p3⟩ | ⟨c1, c2, p1, p2, p3⟩ | ⟨c1, rfl, p1, p2, p3⟩
    all_goals
      go_enter Try.func9, Try.ntmps9
      go_wp2_with (first | (go_at_call 26; refine (add_any _ _ _ I1).mono ?_; rintro e w' ⟨rfl, rfl⟩) | (go_at_call 25; refine (weekday_any _ _).mono ?_; rintro e w' ⟨rfl, rfl⟩))
      refine (live5 _).mono ?_
      rintro e w1 ⟨rfl, hb1⟩
      go_wp2_with (first | (go_at_call 26; refine (add_any _ _ _ I1).mono ?_; rintro e w' ⟨rfl, rfl⟩) | (go_at_call 25; refine (weekday_any _ _).mono ?_; rintro e w' ⟨rfl, rfl⟩))
      refine (of_any _ _).mono ?_
      rintro e w2 ⟨rfl, hb2⟩
      go_wp2_with (first | (go_at_call 26; refine (add_any _ _ _ I1).mono ?_; rintro e w' ⟨rfl, rfl⟩) | (go_at_call 25; refine (weekday_any _ _).mono ?_; rintro e w' ⟨rfl, rfl⟩))
      refine (of_any _ _).mono ?_
      rintro e w3 ⟨rfl, hb3⟩
      obtain ⟨hc3_0, hf3_0, hz3_0⟩ := own_stays hb3 (b := w2.heap.size) (by first | (simp; done) | (simp; omega) | omega)
      go_wp2_with (first | (go_at_call 26; refine (add_any _ _ _ I1).mono ?_; rintro e w' ⟨rfl, rfl⟩) | (go_at_call 25; refine (weekday_any _ _).mono ?_; rintro e w' ⟨rfl, rfl⟩))
      refine (length_any _ _ _).mono ?_
      rintro e w4 ⟨rfl, hb4⟩
      obtain ⟨hc4_0, hf4_0, hz4_0⟩ := own_stays hb4 (b := w2.heap.size) (by first | (simp; done) | (simp; omega) | omega)
      obtain ⟨hc4_1, hf4_1, hz4_1⟩ := own_stays hb4 (b := w3.heap.size) (by first | (simp; done) | (simp; omega) | omega)
      go_wp2_with (first | (go_at_call 26; refine (add_any _ _ _ I1).mono ?_; rintro e w' ⟨rfl, rfl⟩) | (go_at_call 25; refine (weekday_any _ _).mono ?_; rintro e w' ⟨rfl, rfl⟩))
      go_ret
      exact ⟨ret_b (by first | rfl | (simp; done) | (simp; omega)), (by repeat (with_reducible (first | exact Below.refl _ _ | assumption | refine bl_alloc ?_ _ | refine bl_drewN ?_ _ | refine bl_drew ?_ | refine bl_call ?_ (by assumption) | (refine bl_setCell ?_ _ (Nat.le_refl _)) | (refine bl_setCell ?_ _ (by simp)))))⟩
  · have b0 := (isB_iff n).1 h
    have b1 := mt (isB_iff (n + 1)).2 (by simp [h1])
    have b2 : 3068036 ≤ n := by omega
    clear b1
    obtain ⟨e1, e2⟩ : addI n 1 = 0 ∧ dateE (addOk n 1) = 4 := by
      have : addOk n 1 = false := by unfold addOk; simp; omega
      exact ⟨by unfold addI; rw [this]; rfl, dateE_false this⟩
    have d1 := dateE_true h
    go_enter Try.func9, Try.ntmps9
    go_wp2_with (first | (go_at_call 26; refine (add_any _ _ _ I1).mono ?_; rintro e w' ⟨rfl, rfl⟩) | (go_at_call 25; refine (weekday_any _ _).mono ?_; rintro e w' ⟨rfl, rfl⟩))
    refine (live5 _).mono ?_
    rintro e w1 ⟨rfl, hb1⟩
    go_wp2_with (first | (go_at_call 26; refine (add_any _ _ _ I1).mono ?_; rintro e w' ⟨rfl, rfl⟩) | (go_at_call 25; refine (weekday_any _ _).mono ?_; rintro e w' ⟨rfl, rfl⟩))
    refine (of_any _ _).mono ?_
    rintro e w2 ⟨rfl, hb2⟩
    go_wp2_with (first | (go_at_call 26; refine (add_any _ _ _ I1).mono ?_; rintro e w' ⟨rfl, rfl⟩) | (go_at_call 25; refine (weekday_any _ _).mono ?_; rintro e w' ⟨rfl, rfl⟩))
    go_ret
    exact ⟨ret_b (by first | rfl | (simp; done) | (simp; omega)), (by repeat (with_reducible (first | exact Below.refl _ _ | assumption | refine bl_alloc ?_ _ | refine bl_drewN ?_ _ | refine bl_drew ?_ | refine bl_call ?_ (by assumption) | (refine bl_setCell ?_ _ (Nat.le_refl _)) | (refine bl_setCell ?_ _ (by simp)))))⟩
  · have d1 := dateE_false h
    have b1 := mt (isB_iff n).2 (by simp [h])
    have b2 : n < 0 ∨ (0 ≤ n ∧ 3068037 ≤ n) := by omega
    clear b1
    rcases b2 with b2 | ⟨b2, b3⟩
    all_goals
      go_enter Try.func9, Try.ntmps9
      go_wp2_with (first | (go_at_call 26; refine (add_any _ _ _ I1).mono ?_; rintro e w' ⟨rfl, rfl⟩) | (go_at_call 25; refine (weekday_any _ _).mono ?_; rintro e w' ⟨rfl, rfl⟩))
      refine (live5 _).mono ?_
      rintro e w1 ⟨rfl, hb1⟩
      go_wp2_with (first | (go_at_call 26; refine (add_any _ _ _ I1).mono ?_; rintro e w' ⟨rfl, rfl⟩) | (go_at_call 25; refine (weekday_any _ _).mono ?_; rintro e w' ⟨rfl, rfl⟩))
      refine (of_any _ _).mono ?_
      rintro e w2 ⟨rfl, hb2⟩
      go_wp2_with (first | (go_at_call 26; refine (add_any _ _ _ I1).mono ?_; rintro e w' ⟨rfl, rfl⟩) | (go_at_call 25; refine (weekday_any _ _).mono ?_; rintro e w' ⟨rfl, rfl⟩))
      go_ret
      exact ⟨ret_b (by first | rfl | (simp; done) | (simp; omega)), (by repeat (with_reducible (first | exact Below.refl _ _ | assumption | refine bl_alloc ?_ _ | refine bl_drewN ?_ _ | refine bl_drew ?_ | refine bl_call ?_ (by assumption) | (refine bl_setCell ?_ _ (Nat.le_refl _)) | (refine bl_setCell ?_ _ (by simp)))))⟩
end Go.Proofs.Ytmkpkghhalpfaaa
