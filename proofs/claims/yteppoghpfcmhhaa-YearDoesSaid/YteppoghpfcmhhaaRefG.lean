/- Contracts of the reference of layer 6: Last, Near. -/
import Derived.Test.YteppoghpfcmhhaaRefE
import Derived.Test.YteppoghpfcmhhaaMathG
namespace Go.Proofs.Yteppoghpfcmhhaa
set_option linter.unusedVariables false
set_option linter.unusedSimpArgs false
open Go.RowKit
set_option maxHeartbeats 1000000 in
theorem rlast_any (y m d : Int) (w : World) :
    Calls Try.prog 44 #[.int .i64 y, .int .i64 m, .int .i64 d] w fun e w' => e = .returned (.tuple #[.int .i64 (lastV y m d), .int .i64 (wkE y m d)]) ∧ Below w.heap.size w w' := by
  rcases wk_cases y m d with ⟨h, e, l⟩ | ⟨h, l, e, c⟩ | ⟨h, l, e, c1, c2⟩
  · have t := dateE_false h
    have V := Lib.hid (show lastV y m d = 0 from (wk_no y m d (by omega)).1)
    have E := Lib.hid e
    clear h e
    go_enter Try.func44, Try.ntmps44
    go_wp2_with (go_at_call 45; refine (rlength_any _ _ _).mono ?_; rintro e w' ⟨rfl, rfl⟩)
    go_ret2
    exact ⟨ret_ii V.out.symm E.out.symm, (by repeat (with_reducible (first | exact Below.refl _ _ | assumption | refine bl_alloc ?_ _ | refine bl_drewN ?_ _ | refine bl_drew ?_ | refine bl_call ?_ (by assumption) | (refine bl_setCell ?_ _ (Nat.le_refl _)) | (refine bl_setCell ?_ _ (by simp)))))⟩
  · have t := dateE_true h
    have V := Lib.hid (show lastV y m d = 0 from (wk_no y m d (by omega)).1)
    have E := Lib.hid e
    clear h e
    rcases c with c | ⟨c, c'⟩
    all_goals
      go_enter Try.func44, Try.ntmps44
      go_wp2_with (go_at_call 45; refine (rlength_any _ _ _).mono ?_; rintro e w' ⟨rfl, rfl⟩)
      go_ret2
      exact ⟨ret_ii V.out.symm E.out.symm, (by repeat (with_reducible (first | exact Below.refl _ _ | assumption | refine bl_alloc ?_ _ | refine bl_drewN ?_ _ | refine bl_drew ?_ | refine bl_call ?_ (by assumption) | (refine bl_setCell ?_ _ (Nat.le_refl _)) | (refine bl_setCell ?_ _ (by simp)))))⟩
  · obtain ⟨_, _, _, a1, a2, a3, a4, a5, a6, a7, a8, a9, a10, a11, a12⟩ := last_facts y m d e
    obtain ⟨f1, f2, f3, _⟩ := eom_facts y m h
    have t := dateE_true h
    have V := Lib.hid a1
    have E := Lib.hid e
    have ld : lastN y m d = eomI y m - (wdI (eomI y m) - d + 7) % 7 := rfl
    have w0 := wd_of f3
    have b0 := (isB_iff _).1 a2
    rw [wd_of a2] at a3
    have key : ∀ j : Int, lastN y m d ≤ j → j ≤ eomI y m → wdI j = d → j = lastN y m d := by
      intro j h1 h2 h3
      rw [wd_of ((isB_iff _).2 (by omega))] at h3
      omega
    have key2 : wdI (lastN y m d) = d := by rw [wd_of a2]; exact a3
    have KEY := Lib.hid key
    have KEY2 := Lib.hid key2
    clear h e a1 a2 f3 a3 ld w0 key key2 a12
    generalize eomI y m = E0 at *
    generalize lastN y m d = N at *
    go_enter Try.func44, Try.ntmps44
    go_wp2_with (go_at_call 45; refine (rlength_any _ _ _).mono ?_; rintro e w' ⟨rfl, rfl⟩)
    refine (rday_any _ _ _ _).mono ?_
    rintro e w1 ⟨rfl, hb1⟩
    go_wp2_with (go_at_call 45; refine (rlength_any _ _ _).mono ?_; rintro e w' ⟨rfl, rfl⟩)
    go_loopw [10] (fun t wr => ∃ j : Int, N ≤ j ∧ j ≤ E0 ∧ t = .int .i64 j ∧ Below w.heap.size w wr) (fun t _ => (intOf t - N).toNat)
    case atStart => exact ⟨E0, by omega, by omega, rfl, (by repeat (with_reducible (first | exact Below.refl _ _ | assumption | refine bl_alloc ?_ _ | refine bl_drewN ?_ _ | refine bl_drew ?_ | refine bl_call ?_ (by assumption) | (refine bl_setCell ?_ _ (Nat.le_refl _)) | (refine bl_setCell ?_ _ (by simp)))))⟩
    case round =>
      obtain ⟨j, j1, j2, rfl, hbr⟩ := hrel
      by_cases hc : wdI j = d
      · have hj := KEY.out j j1 j2 hc
        have HJ := Lib.hid hj
        clear hj
        go_wp2_with fail
        refine (rweekday_any _ _).mono ?_
        rintro e w1 ⟨rfl, hb1⟩
        go_wp2_with fail
        go_ret2
        exact ⟨ret_ii (by rw [V.out, HJ.out]) E.out.symm, bl_call hbr (by assumption)⟩
      · have hj : N < j := by
          have : j ≠ N := fun hh => hc (by rw [hh]; exact KEY2.out)
          omega
        have hc : (wdI j == d) = false := by simpa using hc
        go_wp2_with fail
        refine (rweekday_any _ _).mono ?_
        rintro e w1 ⟨rfl, hb1⟩
        go_wp2_with fail
        go_roundw
        case rel => exact ⟨j - 1, by omega, by omega, rfl, bl_call hbr (by assumption)⟩
        case measure => simp [intOf]; omega
set_option maxHeartbeats 1000000 in
theorem rnear_any (y m d : Int) (w : World) :
    Calls Try.prog 47 #[.int .i64 y, .int .i64 m, .int .i64 d] w fun e w' => e = .returned (.tuple #[.int .i64 (nearV y m d), .int .i64 (nearE y m d)]) ∧ Below w.heap.size w w' := by
  rcases wk_cases y m d with ⟨h, e, l⟩ | ⟨h, l, e, c⟩ | ⟨h, l, e, c1, c2⟩
  · have t := dateE_false h
    have V := Lib.hid (show nearV y m d = 0 from (wk_no y m d (by omega)).2.1)
    have E := Lib.hid (show nearE y m d = 4 by rw [(wk_no y m d (by omega)).2.2, e])
    clear h e
    go_enter Try.func47, Try.ntmps47
    go_wp2_with (go_at_call 45; refine (rlength_any _ _ _).mono ?_; rintro e w' ⟨rfl, rfl⟩)
    go_ret2
    exact ⟨ret_ii V.out.symm E.out.symm, (by repeat (with_reducible (first | exact Below.refl _ _ | assumption | refine bl_alloc ?_ _ | refine bl_drewN ?_ _ | refine bl_drew ?_ | refine bl_call ?_ (by assumption) | (refine bl_setCell ?_ _ (Nat.le_refl _)) | (refine bl_setCell ?_ _ (by simp)))))⟩
  · have t := dateE_true h
    have V := Lib.hid (show nearV y m d = 0 from (wk_no y m d (by omega)).2.1)
    have E := Lib.hid (show nearE y m d = 1 by rw [(wk_no y m d (by omega)).2.2, e])
    clear h e
    rcases c with c | ⟨c, c'⟩
    all_goals
      go_enter Try.func47, Try.ntmps47
      go_wp2_with (go_at_call 45; refine (rlength_any _ _ _).mono ?_; rintro e w' ⟨rfl, rfl⟩)
      go_ret2
      exact ⟨ret_ii V.out.symm E.out.symm, (by repeat (with_reducible (first | exact Below.refl _ _ | assumption | refine bl_alloc ?_ _ | refine bl_drewN ?_ _ | refine bl_drew ?_ | refine bl_call ?_ (by assumption) | (refine bl_setCell ?_ _ (Nat.le_refl _)) | (refine bl_setCell ?_ _ (by simp)))))⟩
  · obtain ⟨f1, f2, f3, _⟩ := eom_facts y m h
    have b := (isB_iff _).1 f3
    have t := dateE_true h
    have kd : nearK y m d = (d - wdI (eomI y m) + 10) % 7 - 3 := rfl
    have w0 := wd_of f3
    -- of the seven days around the last one just one has this weekday
    have key : ∀ j : Int, eomI y m - 3 ≤ j → j ≤ eomI y m + 3 → isB j = true → wdI j = d → j = eomI y m + nearK y m d := by
      intro j h1 h2 h3 h4
      rw [wd_of h3] at h4
      omega
    have yes : ∀ j : Int, eomI y m - 3 ≤ j → j ≤ eomI y m + 3 → isB j = true → wdI j = d → nearV y m d = j ∧ nearE y m d = 0 := by
      intro j h1 h2 h3 h4
      have hj := key j h1 h2 h3 h4
      have jb := (isB_iff _).1 h3
      have ok : addOk (eomI y m) (nearK y m d) = true := by unfold addOk; simp; omega
      refine ⟨?_, ?_⟩
      · unfold nearV addI; rw [if_pos e, if_pos ok, hj]
      · unfold nearE; rw [if_pos e, ok]; rfl
    have no : (∀ j : Int, eomI y m - 3 ≤ j → j ≤ eomI y m + 3 → isB j = true → wdI j = d → False) → nearV y m d = 0 ∧ nearE y m d = 4 := by
      intro hn
      have ok : addOk (eomI y m) (nearK y m d) = false := by
        refine Bool.eq_false_iff.2 fun hh => ?_
        unfold addOk at hh; simp only [decide_eq_true_eq] at hh
        have hi : isB (eomI y m + nearK y m d) = true := (isB_iff _).2 (by omega)
        refine hn (eomI y m + nearK y m d) (by omega) (by omega) hi ?_
        rw [wd_of hi]; omega
      refine ⟨?_, ?_⟩
      · unfold nearV addI; rw [if_pos e, ok]; rfl
      · unfold nearE; rw [if_pos e, ok]; rfl
    have YES := Lib.hid yes
    have NO := Lib.hid no
    clear h e f3 kd w0 key yes no
    generalize eomI y m = E0 at *
    go_enter Try.func47, Try.ntmps47
    go_wp2_with (go_at_call 45; refine (rlength_any _ _ _).mono ?_; rintro e w' ⟨rfl, rfl⟩)
    refine (rday_any _ _ _ _).mono ?_
    rintro e w1 ⟨rfl, hb1⟩
    go_wp2_with (go_at_call 45; refine (rlength_any _ _ _).mono ?_; rintro e w' ⟨rfl, rfl⟩)
    go_loopw [12] (fun t wr => ∃ j : Int, E0 - 3 ≤ j ∧ j ≤ E0 + 4 ∧ t = .int .i64 j ∧ Hid (∀ i : Int, E0 - 3 ≤ i → i < j → isB i = true → wdI i = d → False) ∧ Below w.heap.size w wr) (fun t _ => (E0 + 4 - intOf t).toNat)
    case atStart => exact ⟨E0 - 3, by omega, by omega, rfl, Lib.hid (fun i h1 h2 => by omega), (by repeat (with_reducible (first | exact Below.refl _ _ | assumption | refine bl_alloc ?_ _ | refine bl_drewN ?_ _ | refine bl_drew ?_ | refine bl_call ?_ (by assumption) | (refine bl_setCell ?_ _ (Nat.le_refl _)) | (refine bl_setCell ?_ _ (by simp)))))⟩
    case round =>
      obtain ⟨j, j1, j2, rfl, HN, hbr⟩ := hrel
      by_cases hlt : j ≤ E0 + 3
      · by_cases hi : isB j = true
        · have di := dateE_true hi
          by_cases hc : wdI j = d
          · have YY := Lib.hid (YES.out j j1 hlt hi hc)
            clear hi
            go_wp2_with fail
            refine (rweekday_any _ _).mono ?_
            rintro e w1 ⟨rfl, hb1⟩
            go_wp2_with fail
            go_ret2
            exact ⟨ret_ii YY.out.1.symm YY.out.2.symm, bl_call hbr (by assumption)⟩
          · have HN2 : Hid (∀ i : Int, E0 - 3 ≤ i → i < j + 1 → isB i = true → wdI i = d → False) := Lib.hid (fun i h1 h2 h3 h4 => by
              by_cases hij : i = j
              · subst hij; exact hc h4
              · exact HN.out i h1 (by omega) h3 h4)
            have hc : (wdI j == d) = false := by simpa using hc
            clear hi
            go_wp2_with fail
            refine (rweekday_any _ _).mono ?_
            rintro e w1 ⟨rfl, hb1⟩
            go_wp2_with fail
            go_roundw
            case rel => exact ⟨j + 1, by omega, by omega, rfl, HN2, bl_call hbr (by assumption)⟩
            case measure => simp [intOf]; omega
        · have di := dateE_false (show isB j = false by simpa using hi)
          have HN2 : Hid (∀ i : Int, E0 - 3 ≤ i → i < j + 1 → isB i = true → wdI i = d → False) := Lib.hid (fun i h1 h2 h3 h4 => by
              by_cases hij : i = j
              · subst hij; exact hi h3
              · exact HN.out i h1 (by omega) h3 h4)
          clear hi
          go_wp2_with fail
          refine (rweekday_any _ _).mono ?_
          rintro e w1 ⟨rfl, hb1⟩
          go_wp2_with fail
          go_roundw
          case rel => exact ⟨j + 1, by omega, by omega, rfl, HN2, bl_call hbr (by assumption)⟩
          case measure => simp [intOf]; omega
      · have NN := Lib.hid (NO.out (fun i h1 h2 => HN.out i h1 (by omega)))
        go_wp2
        go_ret2
        exact ⟨ret_ii NN.out.1.symm NN.out.2.symm, hbr⟩
end Go.Proofs.Yteppoghpfcmhhaa
