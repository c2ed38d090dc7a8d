import Derived.Test.YtmkpkghhalpfaaaLawCivilBack
namespace Go.Proofs.Ytmkpkghhalpfaaa
open Go.RowKit
set_option linter.unusedVariables false
theorem lpB_400 (y : Int) (h1 : 1600 ≤ y) (h2 : y + 400 ≤ 9999) : lpB (y + 400) = lpB y := by
  unfold lpB
  rw [Bool.eq_iff_iff]
  simp only [decide_eq_true_eq]
  omega
theorem lpI_400 (y : Int) (h1 : 1600 ≤ y) (h2 : y + 400 ≤ 9999) : lpI (y + 400) = lpI y := by unfold lpI; rw [lpB_400 y h1 h2]
theorem valid_400 (y m d : Int) (h : validB y m d = true) (h2 : y + 400 ≤ 9999) : dayV (y + 400) m d = dayNo y m d + 146097 ∧ dateE (validB (y + 400) m d) = 0 ∧ wdI (dayNo y m d + 146097) = wdI (dayNo y m d) ∧ dateE (isB (dayNo y m d)) = 0 ∧ dateE (isB (dayNo y m d + 146097)) = 0 := by
  have h' := (validB_iff y m d).1 h
  have hl := lpI_400 y h'.1 h2
  have hm : mlen (y + 400) m = mlen y m := by unfold mlen; rw [hl]
  have hv : validB (y + 400) m d = true := by rw [validB_iff, hm]; omega
  have ha : aheadI (y + 400) m = aheadI y m := by unfold aheadI; rw [hl]
  have hy : yearsI (y + 400) = yearsI y + 146097 := by unfold yearsI; omega
  have e : dayNo (y + 400) m d = dayNo y m d + 146097 := by unfold dayNo; omega
  have b1 := dayNo_bd y m d h
  have b2 := dayNo_bd _ _ _ hv
  have i1 : isB (dayNo y m d) = true := (isB_iff _).2 b1
  have i2 : isB (dayNo y m d + 146097) = true := (isB_iff _).2 (by omega)
  refine ⟨by unfold dayV; rw [if_pos hv, e], dateE_true hv, ?_, dateE_true i1, dateE_true i2⟩
  rw [wd_of i1, wd_of i2]; omega
theorem year_ends (y m d : Int) (h : validB y m d = true) : dayV y 1 1 = yearsI y ∧ dateE (validB y 1 1) = 0 ∧ dayV y 12 31 = yearsI y + 364 + lpI y ∧ dateE (validB y 12 31) = 0 ∧ yearsI y ≤ dayNo y m d ∧ dayNo y m d ≤ yearsI y + 364 + lpI y := by
  have h' := (validB_iff y m d).1 h
  have i := day_in_year y m d h
  rw [years_succ y h'.1 h'.2.1] at i
  have v1 : validB y 1 1 = true := by rw [validB_iff]; have := mlen_bd y 1; omega
  have v2 : validB y 12 31 = true := by rw [validB_iff]; have : mlen y 12 = 31 := by unfold mlen; simp
                                        omega
  have a12 : aheadI y 12 = 334 + lpI y := by simp [aheadI, tabI]
  refine ⟨by unfold dayV; rw [if_pos v1]; unfold dayNo; rw [ahead_one]; omega, dateE_true v1, by unfold dayV; rw [if_pos v2]; unfold dayNo; rw [a12]; omega, dateE_true v2, by omega, by omega⟩
set_option maxRecDepth 100000 in
set_option maxHeartbeats 4000000 in
theorem civilYears_any (y m d : Int) (w : World) (_ : In y) (_ : In m) (_ : In d) :
    Calls Try.prog 4 #[dateA y m d] w fun e w' => e = .returned (.bool true) ∧ Below w.heap.size w w' := by
  rcases dayV_cases y m d with ⟨v1, h1, e1⟩ | ⟨v1, h1, e1⟩
  case' inr =>
    go_enter Try.func4, Try.ntmps4
    go_wp2_with fail
    refine (live5 _).mono ?_
    rintro e w1 ⟨rfl, hb1⟩
    obtain ⟨hc1_0, hf1_0, hz1_0⟩ := own_stays hb1 (b := w.heap.size) (by first | (simp; done) | (simp; omega) | omega)
    go_wp2_with fail
    refine (day_any _ _ _ _).mono ?_
    rintro e w2 ⟨rfl, hb2⟩
    obtain ⟨hc2_0, hf2_0, hz2_0⟩ := own_stays hb2 (b := w.heap.size) (by first | (simp; done) | (simp; omega) | omega)
    go_wp2_with fail
    go_ret
    exact ⟨ret_b (by first | rfl | (simp; done)), (by repeat (with_reducible (first | exact Below.refl _ _ | assumption | refine bl_alloc ?_ _ | refine bl_drewN ?_ _ | refine bl_drew ?_ | refine bl_call ?_ (by assumption) | (refine bl_setCell ?_ _ (Nat.le_refl _)) | (refine bl_setCell ?_ _ (by simp)))))⟩
  have v' := (validB_iff y m d).1 v1
  obtain ⟨a1, a2, a3, a4, a5, a6⟩ := year_ends y m d v1
  have yb := years_bd y v'.1 (by omega)
  have A13 := Lib.hid (ahead_13 y)
  have A1 := Lib.hid (ahead_one y)
  have lb := lpI_01 y
  have lc : (lpB y = true ∧ lpI y = 1) ∨ (lpB y = false ∧ lpI y = 0) := by unfold lpI; cases lpB y <;> simp
  have LC := Lib.hid lc
  clear lc
  by_cases hy : y + 400 ≤ 9999
  case' pos =>
    obtain ⟨b1, b2, b3, b4, b5⟩ := valid_400 y m d v1 hy
    have l4 := lpB_400 y v'.1 hy
    generalize dayNo y m d = N at *
    clear v1
    go_enter Try.func4, Try.ntmps4
    go_wp2_with (go_at_call 25; refine (weekday_any _ _).mono ?_; rintro e w' ⟨rfl, rfl⟩)
    refine (live5 _).mono ?_
    rintro e w1 ⟨rfl, hb1⟩
    obtain ⟨hc1_0, hf1_0, hz1_0⟩ := own_stays hb1 (b := w.heap.size) (by first | (simp; done) | (simp; omega) | omega)
    go_wp2_with (go_at_call 25; refine (weekday_any _ _).mono ?_; rintro e w' ⟨rfl, rfl⟩)
    refine (day_any _ _ _ _).mono ?_
    rintro e w2 ⟨rfl, hb2⟩
    obtain ⟨hc2_0, hf2_0, hz2_0⟩ := own_stays hb2 (b := w.heap.size) (by first | (simp; done) | (simp; omega) | omega)
    go_wp2_with (go_at_call 25; refine (weekday_any _ _).mono ?_; rintro e w' ⟨rfl, rfl⟩)
    refine (day_any _ _ _ _).mono ?_
    rintro e w3 ⟨rfl, hb3⟩
    obtain ⟨hc3_0, hf3_0, hz3_0⟩ := own_stays hb3 (b := w.heap.size) (by first | (simp; done) | (simp; omega) | omega)
    go_wp2_with (go_at_call 25; refine (weekday_any _ _).mono ?_; rintro e w' ⟨rfl, rfl⟩)
    refine region_qb (fun W => W.cell? ⟨w.heap.size, 0, none⟩ = some (.int .i64 y) ∧ w.heap.size < W.heap.size ∧ Below w.heap.size w W) ⟨by go_simp, by first | assumption | (simp; omega), (by repeat (with_reducible (first | exact Below.refl _ _ | assumption | refine bl_alloc ?_ _ | refine bl_drewN ?_ _ | refine bl_drew ?_ | refine bl_call ?_ (by assumption) | (refine bl_setCell ?_ _ (Nat.le_refl _)) | (refine bl_setCell ?_ _ (by simp)))))⟩ (by kernel_rfl) (by kernel_rfl) ?_
    intro W ⟨k0, zW, hbW⟩
    have r0 := rcell k0
    have wN : IntKind.i64.wrap (N + 146097) = N + 146097 := IntWalk.i64_in _ (by omega)
    have wy : IntKind.i64.wrap (y + 400) = y + 400 := IntWalk.i64_in _ (by omega)
    repeat (quiet_step (first | exact Calls.regrown_same (leap_any _ _)))
    refine wpQuiet_nil ?_
    intro w4 hb4
    obtain ⟨hc4, hf4, hz4⟩ := own_stays hb4 zW
    have k4 : w4.cell? ⟨w.heap.size, 0, none⟩ = some (.int .i64 y) := by rw [hc4]; exact k0
    have hbB : Below w.heap.size w w4 := bl_call hbW hb4
    clear r0 k0 zW hbW wN wy hc4 hf4 hb4
    go_wp2_with fail
  case' neg =>
    generalize dayNo y m d = N at *
    clear v1
    go_enter Try.func4, Try.ntmps4
    go_wp2_with fail
    refine (live5 _).mono ?_
    rintro e w1 ⟨rfl, hb1⟩
    obtain ⟨hc1_0, hf1_0, hz1_0⟩ := own_stays hb1 (b := w.heap.size) (by first | (simp; done) | (simp; omega) | omega)
    go_wp2_with fail
    refine (day_any _ _ _ _).mono ?_
    rintro e w2 ⟨rfl, hb2⟩
    obtain ⟨hc2_0, hf2_0, hz2_0⟩ := own_stays hb2 (b := w.heap.size) (by first | (simp; done) | (simp; omega) | omega)
    go_wp2_with fail
    have hz4 : w.heap.size < w2.heap.size := by assumption
    have k4 : w2.cell? ⟨w.heap.size, 0, none⟩ = some (.int .i64 y) := by go_simp
    have hbB : Below w.heap.size w w2 := (by repeat (with_reducible (first | exact Below.refl _ _ | assumption | refine bl_alloc ?_ _ | refine bl_drewN ?_ _ | refine bl_drew ?_ | refine bl_call ?_ (by assumption) | (refine bl_setCell ?_ _ (Nat.le_refl _)) | (refine bl_setCell ?_ _ (by simp)))))
  all_goals
    refine (day_any _ _ _ _).mono ?_
    rintro e w8 ⟨rfl, hb8⟩
    obtain ⟨hc8, hf8, hz8⟩ := own_stays hb8 hz4
    have k8 : w8.cell? ⟨w.heap.size, 0, none⟩ = some (.int .i64 y) := by rw [hc8]; exact k4
    replace hbB := bl_call hbB hb8
    clear hb8 hc8 hf8 k4 hz4
    go_wp2_with fail
    refine (day_any _ _ _ _).mono ?_
    rintro e w9 ⟨rfl, hb9⟩
    obtain ⟨hc9, hf9, hz9⟩ := own_stays hb9 hz8
    have k9 : w9.cell? ⟨w.heap.size, 0, none⟩ = some (.int .i64 y) := by rw [hc9]; exact k8
    replace hbB := bl_call hbB hb9
    clear hb9 hc9 hf9 k8 hz8
    go_wp2_with fail
    go_loopw [15, 16] (fun s t wr => ∃ k : Int, 1 ≤ k ∧ k ≤ 13 ∧ t = .int .i64 k ∧ s = .int .i64 (aheadI y k) ∧ Below w9.heap.size w9 wr) (fun _ t _ => (13 - intOf t).toNat)
    case atStart => exact ⟨1, by omega, by omega, rfl, by rw [A1.out], Below.refl _ _⟩
    case round =>
      obtain ⟨k, q1, q2, rfl, rfl, hbr⟩ := hrel
      obtain ⟨hcr, hfr, hzr⟩ := own_stays hbr hz9
      have kr : wr.cell? ⟨w.heap.size, 0, none⟩ = some (.int .i64 y) := by rw [hcr]; exact k9
      have ab := ahead_bd y k q1 q2
      clear hcr hfr
      by_cases hk : k ≤ 12
      · have asx := Lib.hid (ahead_succ y k q1 hk)
        have mb := mlen_bd y k
        have ht : thereB y k = true := by unfold thereB; simp; omega
        have hl : lenV y k = mlen y k := by unfold lenV; rw [if_pos ht]
        have he := dateE_true ht
        go_wp2_with fail
        refine (length_any _ _ _).mono ?_
        rintro e w5 ⟨rfl, hb5⟩
        go_wp2
        go_roundw
        case rel => exact ⟨k + 1, by omega, by omega, rfl, by rw [asx.out], bl_call hbr hb5⟩
        case measure => simp [intOf]; omega
      · have hk : k = 13 := by omega
        subst hk
        rw [A13.out] at *
        rcases LC.out with ⟨c1, c2⟩ | ⟨c1, c2⟩
        all_goals
          have a7 := a6
          rw [c2] at a7
          have A7 := Lib.hid a7
          clear a7
          rw [c2] at *
          go_wp2_with (go_at_call 20; refine (leap_any _ _).mono ?_; rintro e w' ⟨rfl, rfl⟩)
          go_ret
          exact ⟨ret_b (by have := A7.out; first | rfl | (simp; done) | (simp; omega)), bl_call hbB hbr⟩
end Go.Proofs.Ytmkpkghhalpfaaa
