/- Contracts of the package civil: Of. -/
import Derived.Test.YteppoghpfcmhhaaCivE
import Derived.Test.YteppoghpfcmhhaaMathD
namespace Go.Proofs.Yteppoghpfcmhhaa
set_option linter.unusedVariables false
set_option linter.unusedSimpArgs false
open Go.RowKit
set_option maxHeartbeats 1000000 in
theorem of_no (n : Int) (w : World) (h : isB n = false) :
    Calls Try.prog 26 #[.int .i64 n] w fun e w' => e = .returned (.tuple #[dateA (ofY n) (ofM n) (ofD n), .int .i64 (dateE (isB n))]) ∧ Below w.heap.size w w' := by
  obtain ⟨e1, e2, e3⟩ := of_none n h
  have E := Lib.hid (show dateE (isB n) = 4 by rw [h]; rfl)
  rw [e1, e2, e3, E.out]
  clear e1 e2 e3
  go_enter Try.func26, Try.ntmps26
  go_wp2_with (go_at_call 52; refine (is_any _ _).mono ?_; rintro e w' ⟨rfl, rfl⟩)
  exact bodyPost_ret (v := .tuple #[dateA 0 0 0, .int .i64 4]) (by simp [results, Try.results26, go_sem]) rfl ⟨rfl, (by repeat (with_reducible (first | exact Below.refl _ _ | assumption | refine bl_alloc ?_ _ | refine bl_drewN ?_ _ | refine bl_drew ?_ | refine bl_call ?_ (by assumption) | (refine bl_setCell ?_ _ (Nat.le_refl _)) | (refine bl_setCell ?_ _ (by simp)))))⟩
theorem set3 {w : World} {b : Nat} {o0 o1 o2 : Value} (x0 x1 x2 : Value) (q0 : w.cell? ⟨b, 0, none⟩ = some o0) (q1 : w.cell? ⟨b, 1, none⟩ = some o1) (q2 : w.cell? ⟨b, 2, none⟩ = some o2) :
    (w.setCell ⟨b, 0, none⟩ x0).cell? ⟨b, 0, none⟩ = some x0 ∧ ((w.setCell ⟨b, 0, none⟩ x0).setCell ⟨b, 1, none⟩ x1).cell? ⟨b, 1, none⟩ = some x1 ∧ (((w.setCell ⟨b, 0, none⟩ x0).setCell ⟨b, 1, none⟩ x1).setCell ⟨b, 2, none⟩ x2).cell? ⟨b, 2, none⟩ = some x2 := by
  refine ⟨World.cell?_setCell_same _ _ _ q0, World.cell?_setCell_same (u := o1) _ _ _ ?_, World.cell?_setCell_same (u := o2) _ _ _ ?_⟩
  · rw [World.cell?_setCell_other _ _ _ _ (by simp)]; exact q1
  · rw [World.cell?_setCell_other _ _ _ _ (by simp), World.cell?_setCell_other _ _ _ _ (by simp)]; exact q2
theorem min_facts (n : Int) (h0 : 0 ≤ n) (h1 : n < 3068037) : ∃ g : Int, 1600 + n / 146097 * 400 + n % 146097 / 36524 * 100 + n % 146097 % 36524 / 1461 * 4 + n % 146097 % 36524 % 1461 / 365 = g ∧ 1600 ≤ g ∧ g ≤ 10110 ∧ n < yearsI (g + 1) :=
  ⟨_, rfl, (guess_bd n h0 h1).1, (guess_bd n h0 h1).2, guess_ok n h0 h1⟩
set_option maxHeartbeats 1000000 in
theorem of_yes (n : Int) (w : World) (h : isB n = true) :
    Calls Try.prog 26 #[.int .i64 n] w fun e w' => e = .returned (.tuple #[dateA (ofY n) (ofM n) (ofD n), .int .i64 (dateE (isB n))]) ∧ Below w.heap.size w w' := by
  obtain ⟨h0, h1⟩ := (isB_iff n).1 h
  have E := Lib.hid (show dateE (isB n) = 0 by rw [h]; rfl)
  rw [E.out]
  obtain ⟨g, hg, g1, g2, g3⟩ := min_facts n h0 h1
  have Y6 := years_1600
  have Y7 := years_10000
  have Y6 := Lib.hid Y6
  have Y7 := Lib.hid Y7
  go_enter Try.func26, Try.ntmps26
  go_wp2_with (go_at_call 52; refine (is_any _ _).mono ?_; rintro e w' ⟨rfl, rfl⟩)
  all_goals
    go_loop [4] (fun t => ∃ y : Int, 1600 ≤ y ∧ y ≤ 9999 ∧ n < yearsI (y + 1) ∧ t = .int .i64 y) (fun t => (intOf t).toNat)
    case atStart => exact ⟨_, by omega, by omega, by first | exact g3 | (rw [show (9999 : Int) + 1 = 10000 from rfl, Y7.out]; omega), rfl⟩
    case round =>
      obtain ⟨y, y1, y2, y3, rfl⟩ := hrel
      have yb := years_bd y y1 (by omega)
      by_cases hc : n < yearsI y
      · have hy : y ≠ 1600 := fun e => by rw [e, Y6.out] at hc; omega
        have HY := Lib.hid hy
        clear hy
        go_wp2_with (go_at_call 53; refine (years_any _ _ y1 (by omega)).mono ?_; rintro e w' ⟨rfl, rfl⟩)
        go_round
        case rel => exact ⟨y - 1, by have := HY.out; omega, by omega, by rw [Int.sub_add_cancel]; exact hc, rfl⟩
        case measure => simp [intOf]; omega
      · go_wp2_with (go_at_call 53; refine (years_any _ _ y1 (by omega)).mono ?_; rintro e w' ⟨rfl, rfl⟩)
        have y5 := years_succ y y1 y2
        have y6 := lpI_01 y
        have Y5 := Lib.hid y5
        have y7 : n - yearsI y < 365 + lpI y := by omega
        have a13 := ahead_13 y
        have A13 := Lib.hid a13
        clear y5 a13
        go_loopw [6] (fun t wr => ∃ m : Int, 1 ≤ m ∧ m ≤ 12 ∧ n - yearsI y < aheadI y (m + 1) ∧ t = .int .i64 m ∧ Below (w.alloc (Obj.cells #[.int .i64 0, .int .i64 0, .int .i64 0] 33)).heap.size (w.alloc (Obj.cells #[.int .i64 0, .int .i64 0, .int .i64 0] 33)) wr) (fun t _ => (intOf t).toNat)
        case atStart => exact ⟨12, by omega, by omega, by rw [show (12 : Int) + 1 = 13 from rfl, A13.out]; omega, rfl, Below.refl _ _⟩
        case round =>
          obtain ⟨m, m1, m2, m3, rfl, hb⟩ := hrel
          have mb := ahead_bd y m m1 (by omega)
          obtain ⟨hcr, hfr⟩ := bcell hb
          have hzr := bsize hb
          by_cases hc2 : n - yearsI y < aheadI y m
          · have hm : m ≠ 1 := fun e => by rw [e, ahead_one] at hc2; omega
            have HM := Lib.hid hm
            clear hm
            go_wp2_with (go_at_call 54; refine (ahead_any _ _ _ m1 (by omega)).mono ?_; rintro e w5 ⟨rfl, hb5⟩; obtain ⟨hc5, hf5⟩ := bcell hb5; have hz5 := bsize hb5)
            go_roundw
            case rel => exact ⟨m - 1, by have := HM.out; omega, by omega, by rw [Int.sub_add_cancel]; exact hc2, rfl, bl_call hb hb5⟩
            case measure => simp [intOf]; omega
          · have m5 := ahead_succ y m m1 m2
            have m6 : n - yearsI y < aheadI y m + mlen y m := by omega
            have hv : validB y m (n - yearsI y - aheadI y m + 1) = true := by rw [validB_iff]; omega
            have hd : dayNo y m (n - yearsI y - aheadI y m + 1) = n := by unfold dayNo; omega
            have OI := Lib.hid (of_is _ _ _ n hv hd)
            clear hv hd m5 m3
            have k0 : w.heap.size < wr.heap.size := by have := hb.size; simp at this; omega
            clear hzr
            go_wp2_with fail
            refine (ahead_any _ _ _ m1 (by omega)).mono ?_
            rintro e w5 ⟨rfl, hb5⟩
            obtain ⟨hc5, hf5, hz5⟩ := own_stays hb5 k0
            go_wp2_with fail
            refine (ahead_any _ _ _ m1 (by omega)).mono ?_
            rintro e w6 ⟨rfl, hb6⟩
            obtain ⟨hc6, hf6, hz6⟩ := own_stays hb6 hz5
            go_wp2
            obtain ⟨e1, e2, e3⟩ := OI.out
            rw [e1, e2, e3]
            have q0 : w6.cell? ⟨w.heap.size, 0, none⟩ = some (.int .i64 0) := by rw [hc6, hc5, hcr _ _ (by simp)]; simp
            have q1 : w6.cell? ⟨w.heap.size, 1, none⟩ = some (.int .i64 0) := by rw [hc6, hc5, hcr _ _ (by simp)]; simp
            have q2 : w6.cell? ⟨w.heap.size, 2, none⟩ = some (.int .i64 0) := by rw [hc6, hc5, hcr _ _ (by simp)]; simp
            obtain ⟨s0, s1, s2⟩ := set3 (.int .i64 y) (.int .i64 m) (.int .i64 (n - yearsI y - aheadI y m + 1)) q0 q1 q2
            refine bodyPost_ret (v := .tuple #[dateA y m (n - yearsI y - aheadI y m + 1), .int .i64 0]) (by simp [results, Try.results26, go_sem, s0, s1, s2]) rfl ⟨rfl, ?_⟩
            have hb0 : Below w.heap.size w wr := bl_call (bl_alloc (Below.refl _ _) _) hb
            exact (by repeat (with_reducible (first | exact Below.refl _ _ | assumption | refine bl_alloc ?_ _ | refine bl_drewN ?_ _ | refine bl_drew ?_ | refine bl_call ?_ (by assumption) | (refine bl_setCell ?_ _ (Nat.le_refl _)) | (refine bl_setCell ?_ _ (by simp)))))
theorem of_any (n : Int) (w : World) :
    Calls Try.prog 26 #[.int .i64 n] w fun e w' => e = .returned (.tuple #[dateA (ofY n) (ofM n) (ofD n), .int .i64 (dateE (isB n))]) ∧ Below w.heap.size w w' := by
  rcases Bool.eq_false_or_eq_true (isB n) with h | h
  · exact of_yes n w h
  · exact of_no n w h
end Go.Proofs.Yteppoghpfcmhhaa
