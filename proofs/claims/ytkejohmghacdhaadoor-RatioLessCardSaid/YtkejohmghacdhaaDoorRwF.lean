/- Contracts of the reference's chapter 2: Of, Fit, Neg, Cmp, Add. -/
import Derived.Test.YtkejohmghacdhaaDoorRwE
import Derived.Test.YtkejohmghacdhaaDoorKitT
namespace Go.Proofs.YtkejohmghacdhaaDoor
set_option linter.unusedVariables false
set_option linter.unusedSimpArgs false
open Go.RowKit
theorem InW_bd {x : Int} (h : InW x) : 0 ≤ absW x ∧ absW x < 340282366920938463463374607431768211456 := by have := absW_bd h; omega
set_option maxHeartbeats 400000 in
theorem rsize_any (a : Int) (w : World) (ha : In a) :
    Calls Tryd.prog 63 #[.int .i64 a] w fun e w' => e = .returned (.int .u64 (absW a)) ∧ w = w' := by
  have T := Lib.hid (show absW a = if a < 0 then -a else a from rfl)
  unfold In at ha
  obtain ⟨h1, h2⟩ := ha
  by_cases h : a < 0
  · have e : IntKind.u64.wrap (-(a + 1)) = -(a + 1) := by rw [IntKind.wrap_u64]; omega
    go_enter Tryd.func63, Tryd.ntmps63
    go_wp2
    go_ret
    exact ⟨ret_u (by rw [T.out, if_pos h]; omega), rfl⟩
  · go_enter Tryd.func63, Tryd.ntmps63
    go_wp2
    go_ret
    exact ⟨ret_u (by rw [T.out, if_neg (by omega)]), rfl⟩
theorem back_of {x : Int} (h : InW x) : backV (decide (x < 0)) (absW x) = x ∧ backB (decide (x < 0)) (absW x) = true := by
  unfold backV backB absW InW at *
  by_cases h0 : x < 0
  · simp only [h0, decide_true, if_true]
    have e : ¬ (true = false ∨ -x = 0) := by simp; omega
    rw [if_neg e, if_neg e, if_pos (by omega)]
    exact ⟨by omega, by simp; omega⟩
  · simp only [h0, decide_false, if_false, true_or, if_true]
    exact ⟨by omega, by simp; omega⟩
set_option maxHeartbeats 2000000 in
theorem rfit_any (x : Int) (w : World) (hx : InW x) :
    Calls Tryd.prog 65 #[wideA x] w fun e w' => e = .returned (.tuple #[.int .i64 (capN x), .int .i64 (errN x)]) ∧ Below w.heap.size w w' := by
  have F := Lib.hid (fun w => rwof_any x w hx)
  have bd := InW_bd hx
  have W := Lib.hid (fun b w => words_any b (absW x) w bd.1 bd.2)
  have hd : ∃ H L s, absW x / 18446744073709551616 = H ∧ absW x % 18446744073709551616 = L ∧ decide (x < 0) = s := ⟨_, _, _, rfl, rfl, rfl⟩
  obtain ⟨H, L, s, eH, eL, es⟩ := hd
  have C : (0 < H ∧ capN x = 0 ∧ errN x = 2) ∨ (H = 0 ∧ 9223372036854775808 < L ∧ L ≤ 18446744073709551615 ∧ capN x = 0 ∧ errN x = 2) ∨ (H = 0 ∧ L = 9223372036854775808 ∧ s = false ∧ capN x = 0 ∧ errN x = 2) ∨
      (H = 0 ∧ L = 9223372036854775808 ∧ s = true ∧ capN x = -9223372036854775808 ∧ errN x = 0) ∨ (H = 0 ∧ 0 < L ∧ L < 9223372036854775808 ∧ s = true ∧ capN x = -(L - 1) - 1 ∧ errN x = 0) ∨ (H = 0 ∧ 0 ≤ L ∧ L < 9223372036854775808 ∧ s = false ∧ capN x = L ∧ errN x = 0) := by
    obtain ⟨A, hA⟩ : ∃ A, absW x = A := ⟨_, rfl⟩
    have hA' : (x < 0 ∧ A = -x) ∨ (0 ≤ x ∧ A = x) := by rw [← hA]; unfold absW; by_cases h : x < 0 <;> simp [h] <;> omega
    rw [hA] at eH eL bd
    rcases cap_cases x with ⟨c1, c2, c3⟩ | ⟨c1, c2, c3⟩ <;> rw [c1, c2] <;> unfold In at c3
    · rcases hA' with ⟨h0, h1⟩ | ⟨h0, h1⟩
      · have es' : s = true := by rw [← es]; simpa using h0
        by_cases hL : L = 9223372036854775808
        · exact .inr (.inr (.inr (.inl ⟨by omega, hL, es', by omega, rfl⟩)))
        · exact .inr (.inr (.inr (.inr (.inl ⟨by omega, by omega, by omega, es', by omega, rfl⟩))))
      · have es' : s = false := by rw [← es]; simpa using h0
        exact .inr (.inr (.inr (.inr (.inr ⟨by omega, by omega, by omega, es', by omega, rfl⟩))))
    · by_cases hH : 0 < H
      · exact .inl ⟨hH, rfl, rfl⟩
      · rcases hA' with ⟨h0, h1⟩ | ⟨h0, h1⟩
        · exact .inr (.inl ⟨by omega, by omega, by omega, rfl, rfl⟩)
        · have es' : s = false := by rw [← es]; simpa using h0
          by_cases hL : L = 9223372036854775808
          · exact .inr (.inr (.inl ⟨by omega, hL, es', rfl, rfl⟩))
          · exact .inr (.inl ⟨by omega, by omega, by omega, rfl, rfl⟩)
  have F := F.out
  have W := W.out
  rw [es] at F
  rw [eH, eL] at W
  have F := Lib.hid F
  have W := Lib.hid W
  clear eH eL es bd hx
  generalize absW x = n at *
  rcases C with ⟨h1, c1, c2⟩ | ⟨rfl, h1, h2, c1, c2⟩ | ⟨rfl, rfl, rfl, c1, c2⟩ | ⟨rfl, rfl, rfl, c1, c2⟩ | ⟨rfl, h1, h2, rfl, c1, c2⟩ | ⟨rfl, h1, h2, rfl, c1, c2⟩
  all_goals
    have C1 := Lib.hid c1
    have C2 := Lib.hid c2
    clear c1 c2
    try (have n1 : L ≠ 9223372036854775808 := by omega)
    try (have n2 : (L == 9223372036854775808) = false := by simpa using n1)
    go_enter Tryd.func65, Tryd.ntmps65
    go_wp2_with fail
    refine (F.out _).mono ?_
    rintro e w1 ⟨rfl, hb1⟩
    go_wp2_with fail
    refine (W.out _ _).mono ?_
    rintro e w2 ⟨rfl, hb2⟩
    obtain ⟨hc2, hf2, hz2⟩ := own_stays hb2 (b := w1.heap.size) (by go_simp)
    go_wp2
    go_ret2
    exact ⟨ret_ii C1.out.symm C2.out.symm, (by repeat (with_reducible (first | exact Below.refl _ _ | assumption | refine bl_alloc ?_ _ | refine bl_drewN ?_ _ | refine bl_drew ?_ | refine bl_call ?_ (by assumption) | (refine bl_setCell ?_ _ (Nat.le_refl _)) | (refine bl_setCell ?_ _ (by first | omega | (simp; done) | (simp; omega))))))⟩
theorem neg_back {x : Int} (h : InW x) : (InW (-x) ∧ backV (!decide (x < 0)) (absW x) = -x ∧ backB (!decide (x < 0)) (absW x) = true) ∨ (¬ InW (-x) ∧ backB (!decide (x < 0)) (absW x) = false) := by
  unfold backV backB absW InW at *
  by_cases h0 : x < 0
  · simp only [h0, decide_true, Bool.not_true, if_true, true_or]
    by_cases h1 : x = -170141183460469231731687303715884105728
    · exact .inr ⟨by omega, by simp; omega⟩
    · exact .inl ⟨by omega, by omega, by simp; omega⟩
  · simp only [h0, decide_false, Bool.not_false, if_false]
    by_cases h1 : x = 0
    · subst h1; exact .inl (by simp)
    · have e : ¬ (true = false ∨ x = 0) := by simp; omega
      rw [if_neg e, if_neg e, if_pos (by omega)]
      exact .inl ⟨by omega, rfl, by simp; omega⟩
set_option maxHeartbeats 2000000 in
theorem rneg_any (x : Int) (w : World) (hx : InW x) :
    Calls Tryd.prog 35 #[wideA x] w fun e w' => e = .returned (.tuple #[wideA (capW (-x)), .int .i64 (errW (-x))]) ∧ Below w.heap.size w w' := by
  have bd := InW_bd hx
  have F := fun w => rwof_any x w hx
  have B := fun w => back_any (!decide (x < 0)) (absW x) w bd.1 bd.2
  rcases neg_back hx with ⟨h, e1, e2⟩ | ⟨h, e2⟩
  · obtain ⟨c1, c2⟩ := capW_of h
    rw [e1, e2] at B
    have F := Lib.hid F
    have B := Lib.hid B
    have C1 := Lib.hid c1
    have C2 := Lib.hid c2
    clear bd e1 e2 c1 c2 h hx
    generalize decide (x < 0) = s at *
    generalize absW x = n at *
    go_enter Tryd.func35, Tryd.ntmps35
    go_wp2_with fail
    refine (F.out _).mono ?_
    rintro e w1 ⟨rfl, hb1⟩
    obtain ⟨hc1, hf1, hz1⟩ := own_stays hb1 (b := w.heap.size + 1) (by go_simp)
    go_wp2_with fail
    refine (B.out _).mono ?_
    rintro e w2 ⟨rfl, hb2⟩
    obtain ⟨hc2, hf2, hz2⟩ := own_stays hb2 (b := w.heap.size + 1) (by simp; omega)
    go_wp2
    have q0 : w2.cell? ⟨w.heap.size + 1, 0, none⟩ = some (.int .i64 0) := by rw [hc2]; go_simp
    have q1 : w2.cell? ⟨w.heap.size + 1, 1, none⟩ = some (.int .u64 0) := by rw [hc2]; go_simp
    obtain ⟨u0, u1⟩ := set2 (.int .i64 (hiW (-x))) (.int .u64 (loW (-x))) q0 q1
    refine bodyPost_ret (v := .tuple #[wideA (-x), .int .i64 0]) (by simp [results, Tryd.results35, go_sem, u0, u1, hz2]) rfl ⟨by rw [C1.out, C2.out], ?_⟩
    exact (by repeat (with_reducible (first | exact Below.refl _ _ | assumption | refine bl_alloc ?_ _ | refine bl_drewN ?_ _ | refine bl_drew ?_ | refine bl_call ?_ (by assumption) | (refine bl_setCell ?_ _ (Nat.le_refl _)) | (refine bl_setCell ?_ _ (by first | omega | (simp; done) | (simp; omega))))))
  · obtain ⟨c1, c2⟩ := capW_not h
    rw [e2] at B
    have F := Lib.hid F
    have B := Lib.hid B
    have C1 := Lib.hid c1
    have C2 := Lib.hid c2
    clear bd e2 c1 c2 h hx
    generalize decide (x < 0) = s at *
    generalize absW x = n at *
    generalize backV (!s) n = v at *
    go_enter Tryd.func35, Tryd.ntmps35
    go_wp2_with fail
    refine (F.out _).mono ?_
    rintro e w1 ⟨rfl, hb1⟩
    obtain ⟨hc1, hf1, hz1⟩ := own_stays hb1 (b := w.heap.size + 1) (by go_simp)
    go_wp2_with fail
    refine (B.out _).mono ?_
    rintro e w2 ⟨rfl, hb2⟩
    obtain ⟨hc2, hf2, hz2⟩ := own_stays hb2 (b := w.heap.size + 1) (by simp; omega)
    go_wp2
    have q0 : w2.cell? ⟨w.heap.size + 1, 0, none⟩ = some (.int .i64 0) := by rw [hc2]; go_simp
    have q1 : w2.cell? ⟨w.heap.size + 1, 1, none⟩ = some (.int .u64 0) := by rw [hc2]; go_simp
    obtain ⟨u0, u1⟩ := set2 (.int .i64 0) (.int .u64 0) q0 q1
    refine bodyPost_ret (v := .tuple #[.agg #[.int .i64 0, .int .u64 0], .int .i64 2]) (by simp [results, Tryd.results35, go_sem, u0, u1, hz2]) rfl ⟨by rw [C1.out, C2.out]; rfl, ?_⟩
    exact (by repeat (with_reducible (first | exact Below.refl _ _ | assumption | refine bl_alloc ?_ _ | refine bl_drewN ?_ _ | refine bl_drew ?_ | refine bl_call ?_ (by assumption) | (refine bl_setCell ?_ _ (Nat.le_refl _)) | (refine bl_setCell ?_ _ (by first | omega | (simp; done) | (simp; omega))))))
end Go.Proofs.YtkejohmghacdhaaDoor
