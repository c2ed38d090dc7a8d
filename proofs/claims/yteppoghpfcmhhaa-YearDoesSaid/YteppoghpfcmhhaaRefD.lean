/- Contracts of the package quarterdayref05: Day, Weekday. -/
import Derived.Test.YteppoghpfcmhhaaRefC
namespace Go.Proofs.Yteppoghpfcmhhaa
set_option linter.unusedVariables false
set_option linter.unusedSimpArgs false
open Go.RowKit
theorem wd_tab (n : Int) (h : isB n = true) : ((n % 7 = 0 ∧ wdI n = 6) ∨ (n % 7 = 1 ∧ wdI n = 7) ∨ (n % 7 = 2 ∧ wdI n = 1) ∨ (n % 7 = 3 ∧ wdI n = 2) ∨ (n % 7 = 4 ∧ wdI n = 3) ∨ (n % 7 = 5 ∧ wdI n = 4) ∨ (n % 7 = 6 ∧ wdI n = 5)) := by
  unfold wdI; rw [if_pos h]; omega
set_option maxHeartbeats 2000000 in
theorem rweekday_any (n : Int) (w : World) :
    Calls Try.prog 66 #[.int .i64 n] w fun e w' => e = .returned (.tuple #[.int .i64 (wdI n), .int .i64 (dateE (isB n))]) ∧ Below w.heap.size w w' := by
  rcases Bool.eq_false_or_eq_true (isB n) with h | h
  · obtain ⟨b1, b2⟩ := (isB_iff n).1 h
    have D := Lib.hid (dateE_true h)
    rcases wd_tab n h with ⟨r, e⟩ | ⟨r, e⟩ | ⟨r, e⟩ | ⟨r, e⟩ | ⟨r, e⟩ | ⟨r, e⟩ | ⟨r, e⟩
    all_goals
      have E := Lib.hid e
      clear e h
      go_enter Try.func66, Try.ntmps66
      go_wp2
      go_ret2
      exact ⟨ret_ii (by rw [E.out]; try rfl) D.out.symm, (by repeat (with_reducible (first | exact Below.refl _ _ | assumption | refine bl_alloc ?_ _ | refine bl_drewN ?_ _ | refine bl_drew ?_ | refine bl_call ?_ (by assumption) | (refine bl_setCell ?_ _ (Nat.le_refl _)) | (refine bl_setCell ?_ _ (by simp)))))⟩
  · have D := Lib.hid (dateE_false h)
    have E := Lib.hid (show wdI n = 0 by unfold wdI; rw [h]; rfl)
    have b1 := mt (isB_iff n).2 (by simp [h])
    have c : n < 0 ∨ (0 ≤ n ∧ 3068036 < n) := by omega
    clear b1 h
    rcases c with c | ⟨c, c'⟩
    all_goals
      go_enter Try.func66, Try.ntmps66
      go_wp2
      go_ret2
      exact ⟨ret_ii E.out.symm D.out.symm, (by repeat (with_reducible (first | exact Below.refl _ _ | assumption | refine bl_alloc ?_ _ | refine bl_drewN ?_ _ | refine bl_drew ?_ | refine bl_call ?_ (by assumption) | (refine bl_setCell ?_ _ (Nat.le_refl _)) | (refine bl_setCell ?_ _ (by simp)))))⟩
theorem years_400 (y : Int) : yearsI (y + 400) = yearsI y + 146097 := by unfold yearsI; omega
set_option maxRecDepth 100000 in
set_option maxHeartbeats 4000000 in
theorem rday_any (y m d : Int) (w : World) :
    Calls Try.prog 46 #[dateA y m d] w fun e w' => e = .returned (.tuple #[.int .i64 (dayV y m d), .int .i64 (dateE (validB y m d))]) ∧ Below w.heap.size w w' := by
  by_cases hv : validB y m d = true
  · have hv' := (validB_iff y m d).1 hv
    obtain ⟨h1, h2, h3, h4, h5, h6⟩ := hv'
    have T := Lib.hid (show dayV y m d = yearsI y + aheadI y m + d - 1 by unfold dayV; rw [if_pos hv]; rfl)
    have e0 : dateE (validB y m d) = 0 := by rw [hv]; rfl
    have b1 := years_bd y h1 (by omega)
    have b2 := ahead_bd y m h3 (by omega)
    have b3 := lpI_01 y
    have b4 := mlen_bd y m
    have ht : thereB y 1 = true := by unfold thereB; simp; omega
    clear hv
    have Y6 := Lib.hid years_1600
    go_enter Try.func46, Try.ntmps46
    go_wp2_with fail
    refine (rcheck_any _ _ _ _).mono ?_
    rintro e w1 ⟨rfl, hb1⟩
    obtain ⟨hc1, hf1, hz1⟩ := own_stays hb1 (b := w.heap.size) (by simp)
    have k0 : w1.cell? ⟨w.heap.size, 0, none⟩ = some (.int .i64 y) := by rw [hc1]; simp
    have k1 : w1.cell? ⟨w.heap.size, 1, none⟩ = some (.int .i64 m) := by rw [hc1]; simp
    have k2 : w1.cell? ⟨w.heap.size, 2, none⟩ = some (.int .i64 d) := by rw [hc1]; simp
    have hbw : Below w.heap.size w w1 := bl_call (bl_alloc (Below.refl _ _) _) hb1
    clear hc1 hf1 hb1
    go_wp2
    go_loop [5, 6] (fun n t => ∃ z : Int, 1600 ≤ z ∧ z ≤ y ∧ t = .int .i64 z ∧ n = .int .i64 (yearsI z)) (fun _ t => (y - intOf t).toNat)
    case atStart => exact ⟨1600, by omega, h1, rfl, by rw [Y6.out]⟩
    case round =>
      obtain ⟨z, z1, z2, rfl, rfl⟩ := hrel
      have zb := years_bd z z1 (by omega)
      by_cases hc : z + 400 ≤ y
      · have e4 := Lib.hid (years_400 z)
        go_wp2
        go_round
        case rel => exact ⟨z + 400, by omega, hc, rfl, by rw [e4.out]⟩
        case measure => simp [intOf]; omega
      · go_wp2
        go_loop [5, 6] (fun n t => ∃ z : Int, 1600 ≤ z ∧ z ≤ y ∧ t = .int .i64 z ∧ n = .int .i64 (yearsI z)) (fun _ t => (y - intOf t).toNat)
        case atStart => exact ⟨z, z1, z2, rfl, rfl⟩
        case round =>
          obtain ⟨x, x1, x2, rfl, rfl⟩ := hrel
          have xb := years_bd x x1 (by omega)
          by_cases hc2 : x < y
          · have e4 := Lib.hid (years_succ x x1 (by omega))
            have xl := lpI_01 x
            go_wp2_with (go_at_call 69; refine (rlong_any _ _).mono ?_; rintro e w' ⟨rfl, rfl⟩)
            go_round
            case rel => exact ⟨x + 1, by omega, by omega, rfl, by rw [e4.out, Int.add_assoc]⟩
            case measure => simp [intOf]; omega
          · have hx : x = y := by omega
            subst hx
            go_wp2
            go_loop [5, 7] (fun n t => ∃ k : Int, 1 ≤ k ∧ k ≤ m ∧ t = .int .i64 k ∧ n = .int .i64 (yearsI x + aheadI x k)) (fun _ t => (m - intOf t).toNat)
            case atStart => exact ⟨1, by omega, h3, rfl, by rw [ahead_one, Int.add_zero]⟩
            case round =>
              obtain ⟨k, q1, q2, rfl, rfl⟩ := hrel
              have ab := ahead_bd x k q1 (by omega)
              by_cases hc3 : k < m
              · have e5 := Lib.hid (ahead_succ x k q1 (by omega))
                have mb := mlen_bd x k
                have hl : lenV x k = mlen x k := by unfold lenV; rw [if_pos (by unfold thereB; simp; omega)]
                go_wp2_with (go_at_call 45; refine (rlength_any _ _ _).mono ?_; rintro e w' ⟨rfl, rfl⟩)
                go_round
                case rel => exact ⟨k + 1, by omega, by omega, rfl, by rw [e5.out, ← Int.add_assoc]⟩
                case measure => simp [intOf]; omega
              · have hk : k = m := by omega
                subst hk
                go_wp2
                go_ret2
                exact ⟨ret_ii T.out.symm (by first | exact e0.symm | rfl | (simp [e0]; done) | (trace_state; fail)), hbw⟩
  · have e1 : validB y m d = false := by simpa using hv
    have T := Lib.hid (show dayV y m d = 0 by unfold dayV; rw [if_neg hv])
    have e0 : dateE (validB y m d) = 4 := by rw [e1]; rfl
    clear e1 hv
    go_enter Try.func46, Try.ntmps46
    go_wp2_with (go_at_call 68; refine (rcheck_any _ _ _ _).mono ?_; rintro e w1 ⟨rfl, hb1⟩; obtain ⟨hc1, hf1⟩ := bcell hb1; have hz1 := bsize hb1)
    go_ret2
    exact ⟨ret_ii T.out.symm e0.symm, (by repeat (with_reducible (first | exact Below.refl _ _ | assumption | refine bl_alloc ?_ _ | refine bl_drewN ?_ _ | refine bl_drew ?_ | refine bl_call ?_ (by assumption) | (refine bl_setCell ?_ _ (Nat.le_refl _)) | (refine bl_setCell ?_ _ (by simp)))))⟩
end Go.Proofs.Yteppoghpfcmhhaa
