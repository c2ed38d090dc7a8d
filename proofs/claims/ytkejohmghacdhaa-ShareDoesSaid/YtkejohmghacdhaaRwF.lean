/- Contracts of the reference's chapter 2: Of, Fit, Neg, Cmp, Add. -/
import Derived.Test.YtkejohmghacdhaaRwE
import Derived.Test.YtkejohmghacdhaaKitT
namespace Go.Proofs.Ytkejohmghacdhaa
set_option linter.unusedVariables false
set_option linter.unusedSimpArgs false
open Go.RowKit
theorem InW_bd {x : Int} (h : InW x) : 0 ≤ absW x ∧ absW x < 340282366920938463463374607431768211456 := by have := absW_bd h; omega
set_option maxHeartbeats 400000 in
theorem rsize_any (a : Int) (w : World) (ha : In a) :
    Calls Try.prog 42 #[.int .i64 a] w fun e w' => e = .returned (.int .u64 (absW a)) ∧ w = w' := by
  have T := Lib.hid (show absW a = if a < 0 then -a else a from rfl)
  unfold In at ha
  obtain ⟨h1, h2⟩ := ha
  by_cases h : a < 0
  · have e : IntKind.u64.wrap (-(a + 1)) = -(a + 1) := by rw [IntKind.wrap_u64]; omega
    go_enter Try.func42, Try.ntmps42
    go_wp2
    go_ret
    exact ⟨ret_u (by rw [T.out, if_pos h]; omega), rfl⟩
  · go_enter Try.func42, Try.ntmps42
    go_wp2
    go_ret
    exact ⟨ret_u (by rw [T.out, if_neg (by omega)]), rfl⟩
theorem back_of {x : Int} (h : InW x) : backV (decide (x < 0)) (absW x) = x ∧ backB (decide (x < 0)) (absW x) = true := by
  unfold backV backB absW InW at *
  by_cases h0 : x < 0
  · simp only [h0, decide_true, if_true]
    have e : ¬ (true = false ∨ -x = 0) := by simp; omega
    rw [if_neg e, if_neg e, if_pos (by omega)]
    exact ⟨by omega, by simp; omega⟩
  · simp only [h0, decide_false, if_false, true_or, if_true]
    exact ⟨by omega, by simp; omega⟩
set_option maxHeartbeats 1000000 in
theorem rof_any (a : Int) (w : World) (ha : In a) :
    Calls Try.prog 78 #[.int .i64 a] w fun e w' => e = .returned (wideA a) ∧ Below w.heap.size w w' := by
  have S := Lib.hid (fun w => rsize_any a w ha)
  have hw := InW_of_In ha
  have hb := absW_bd hw
  have P := fun w => put_any (decide (a < 0)) 0 (absW a) w ⟨by decide, by decide⟩ ⟨hb.1, by unfold absW In at *; omega⟩
  rw [Int.zero_mul, Int.zero_add] at P
  have P := Lib.hid P
  have B := fun w => back_any (decide (a < 0)) (absW a) w hb.1 (by omega)
  obtain ⟨b1, b2⟩ := back_of hw
  rw [b1, b2] at B
  have B := Lib.hid B
  clear hb b1 b2 hw ha
  go_enter Try.func78, Try.ntmps78
  go_wp2_with fail
  refine (S.out _).mono ?_
  rintro e w1 ⟨rfl, rfl⟩
  go_wp2_with fail
  refine (P.out _).mono ?_
  rintro e w2 ⟨rfl, hb2⟩
  obtain ⟨hc2, hf2, hz2⟩ := own_stays hb2 (b := w.heap.size) (by go_simp)
  go_wp2_with fail
  refine (B.out _).mono ?_
  rintro e w3 ⟨rfl, hb3⟩
  obtain ⟨hc3, hf3, hz3⟩ := own_stays hb3 (b := w.heap.size) (by omega)
  go_wp2
  have q0 : w3.cell? ⟨w.heap.size, 0, none⟩ = some (.int .i64 0) := by rw [hc3, hc2]; go_simp
  have q1 : w3.cell? ⟨w.heap.size, 1, none⟩ = some (.int .u64 0) := by rw [hc3, hc2]; go_simp
  obtain ⟨u0, u1⟩ := set2 (.int .i64 (hiW a)) (.int .u64 (loW a)) q0 q1
  refine bodyPost_ret (v := wideA a) (by simp [results, Try.results78, go_sem, u0, u1, hz3]) rfl ⟨rfl, ?_⟩
  exact (by repeat (with_reducible (first | exact Below.refl _ _ | assumption | refine bl_alloc ?_ _ | refine bl_drewN ?_ _ | refine bl_drew ?_ | refine bl_call ?_ (by assumption) | (refine bl_setCell ?_ _ (Nat.le_refl _)) | (refine bl_setCell ?_ _ (by first | omega | (simp; done) | (simp; omega))))))
set_option maxHeartbeats 2000000 in
theorem rfit_any (x : Int) (w : World) (hx : InW x) :
    Calls Try.prog 60 #[wideA x] w fun e w' => e = .returned (.tuple #[.int .i64 (capN x), .int .i64 (errN x)]) ∧ Below w.heap.size w w' := by
  have F := Lib.hid (fun w => rwof_any x w hx)
  have bd := InW_bd hx
  have W := Lib.hid (fun b w => words_any b (absW x) w bd.1 bd.2)
  have hd : ∃ H L s, absW x / 18446744073709551616 = H ∧ absW x % 18446744073709551616 = L ∧ decide (x < 0) = s := ⟨_, _, _, rfl, rfl, rfl⟩
  obtain ⟨H, L, s, eH, eL, es⟩ := hd
  have C : (0 < H ∧ capN x = 0 ∧ errN x = 2) ∨ (H = 0 ∧ 9223372036854775808 < L ∧ L ≤ 18446744073709551615 ∧ capN x = 0 ∧ errN x = 2) ∨ (H = 0 ∧ L = 9223372036854775808 ∧ s = false ∧ capN x = 0 ∧ errN x = 2) ∨
      (H = 0 ∧ L = 9223372036854775808 ∧ s = true ∧ capN x = -9223372036854775808 ∧ errN x = 0) ∨ (H = 0 ∧ 0 < L ∧ L < 9223372036854775808 ∧ s = true ∧ capN x = -(L - 1) - 1 ∧ errN x = 0) ∨ (H = 0 ∧ 0 ≤ L ∧ L < 9223372036854775808 ∧ s = false ∧ capN x = L ∧ errN x = 0) := by
    obtain ⟨A, hA⟩ : ∃ A, absW x = A := ⟨_, rfl⟩
    have hA' : (x < 0 ∧ A = -x) ∨ (0 ≤ x ∧ A = x) := by rw [← hA]; unfold absW; by_cases h : x < 0 <;> simp [h] <;> omega
    rw [hA] at eH eL bd
    rcases cap_cases x with ⟨c1, c2, c3⟩ | ⟨c1, c2, c3⟩ <;> rw [c1, c2] <;> unfold In at c3
    · rcases hA' with ⟨h0, h1⟩ | ⟨h0, h1⟩
      · have es' : s = true := by rw [← es]; simpa using h0
        by_cases hL : L = 9223372036854775808
        · exact .inr (.inr (.inr (.inl ⟨by omega, hL, es', by omega, rfl⟩)))
        · exact .inr (.inr (.inr (.inr (.inl ⟨by omega, by omega, by omega, es', by omega, rfl⟩))))
      · have es' : s = false := by rw [← es]; simpa using h0
        exact .inr (.inr (.inr (.inr (.inr ⟨by omega, by omega, by omega, es', by omega, rfl⟩))))
    · by_cases hH : 0 < H
      · exact .inl ⟨hH, rfl, rfl⟩
      · rcases hA' with ⟨h0, h1⟩ | ⟨h0, h1⟩
        · exact .inr (.inl ⟨by omega, by omega, by omega, rfl, rfl⟩)
        · have es' : s = false := by rw [← es]; simpa using h0
          by_cases hL : L = 9223372036854775808
          · exact .inr (.inr (.inl ⟨by omega, hL, es', rfl, rfl⟩))
          · exact .inr (.inl ⟨by omega, by omega, by omega, rfl, rfl⟩)
  have F := F.out
  have W := W.out
  rw [es] at F
  rw [eH, eL] at W
  have F := Lib.hid F
  have W := Lib.hid W
  clear eH eL es bd hx
  generalize absW x = n at *
  rcases C with ⟨h1, c1, c2⟩ | ⟨rfl, h1, h2, c1, c2⟩ | ⟨rfl, rfl, rfl, c1, c2⟩ | ⟨rfl, rfl, rfl, c1, c2⟩ | ⟨rfl, h1, h2, rfl, c1, c2⟩ | ⟨rfl, h1, h2, rfl, c1, c2⟩
  all_goals
    have C1 := Lib.hid c1
    have C2 := Lib.hid c2
    clear c1 c2
    try (have n1 : L ≠ 9223372036854775808 := by omega)
    try (have n2 : (L == 9223372036854775808) = false := by simpa using n1)
    go_enter Try.func60, Try.ntmps60
    go_wp2_with fail
    refine (F.out _).mono ?_
    rintro e w1 ⟨rfl, hb1⟩
    go_wp2_with fail
    refine (W.out _ _).mono ?_
    rintro e w2 ⟨rfl, hb2⟩
    obtain ⟨hc2, hf2, hz2⟩ := own_stays hb2 (b := w1.heap.size) (by go_simp)
    go_wp2
    go_ret2
    exact ⟨ret_ii C1.out.symm C2.out.symm, (by repeat (with_reducible (first | exact Below.refl _ _ | assumption | refine bl_alloc ?_ _ | refine bl_drewN ?_ _ | refine bl_drew ?_ | refine bl_call ?_ (by assumption) | (refine bl_setCell ?_ _ (Nat.le_refl _)) | (refine bl_setCell ?_ _ (by first | omega | (simp; done) | (simp; omega))))))⟩
theorem neg_back {x : Int} (h : InW x) : (InW (-x) ∧ backV (!decide (x < 0)) (absW x) = -x ∧ backB (!decide (x < 0)) (absW x) = true) ∨ (¬ InW (-x) ∧ backB (!decide (x < 0)) (absW x) = false) := by
  unfold backV backB absW InW at *
  by_cases h0 : x < 0
  · simp only [h0, decide_true, Bool.not_true, if_true, true_or]
    by_cases h1 : x = -170141183460469231731687303715884105728
    · exact .inr ⟨by omega, by simp; omega⟩
    · exact .inl ⟨by omega, by omega, by simp; omega⟩
  · simp only [h0, decide_false, Bool.not_false, if_false]
    by_cases h1 : x = 0
    · subst h1; exact .inl (by simp)
    · have e : ¬ (true = false ∨ x = 0) := by simp; omega
      rw [if_neg e, if_neg e, if_pos (by omega)]
      exact .inl ⟨by omega, rfl, by simp; omega⟩
set_option maxHeartbeats 2000000 in
theorem rwcmp_any (x y : Int) (w : World) (hx : InW x) (hy : InW y) :
    Calls Try.prog 44 #[wideA x, wideA y] w fun e w' => e = .returned (.int .i64 (cmpI x y)) ∧ Below w.heap.size w w' := by
  have F := Lib.hid (fun w => rwof_any x w hx)
  have G := Lib.hid (fun w => rwof_any y w hy)
  have bx := InW_bd hx
  have by' := InW_bd hy
  have C := Lib.hid (fun w => rcmp_any (absW x) (absW y) w bx.1 bx.2 by'.1 by'.2)
  have D := Lib.hid (fun w => rcmp_any (absW y) (absW x) w by'.1 by'.2 bx.1 bx.2)
  have T : (x < 0 ∧ ¬ y < 0 ∧ cmpI x y = -1) ∨ (¬ x < 0 ∧ y < 0 ∧ cmpI x y = 1) ∨ (x < 0 ∧ y < 0 ∧ cmpI x y = cmpI (absW y) (absW x)) ∨ (¬ x < 0 ∧ ¬ y < 0 ∧ cmpI x y = cmpI (absW x) (absW y)) := by
    by_cases h1 : x < 0 <;> by_cases h2 : y < 0
    · refine .inr (.inr (.inl ⟨h1, h2, ?_⟩)); unfold cmpI absW; rw [if_pos h1, if_pos h2]; split <;> split <;> first | rfl | omega | (split <;> first | rfl | omega)
    · exact .inl ⟨h1, h2, cmpI_lt (by omega)⟩
    · exact .inr (.inl ⟨h1, h2, cmpI_gt (by omega)⟩)
    · refine .inr (.inr (.inr ⟨h1, h2, ?_⟩)); unfold cmpI absW; rw [if_neg h1, if_neg h2]
  clear bx by' hx hy
  rcases T with ⟨h1, h2, t⟩ | ⟨h1, h2, t⟩ | ⟨h1, h2, t⟩ | ⟨h1, h2, t⟩
  · have F := F.out
    have G := G.out
    simp only [h1, h2, decide_true, decide_false] at F G
    have F := Lib.hid F
    have G := Lib.hid G
    have T := Lib.hid t
    clear h1 h2 t
    generalize absW x = n at *
    generalize absW y = m at *
    go_enter Try.func44, Try.ntmps44
    go_wp2_with fail
    refine (F.out _).mono ?_
    rintro e w1 ⟨rfl, hb1⟩
    obtain ⟨hc1, hf1, hz1⟩ := own_stays hb1 (b := w.heap.size + 1) (by go_simp)
    go_wp2_with fail
    refine (G.out _).mono ?_
    rintro e w2 ⟨rfl, hb2⟩
    obtain ⟨hc2, hf2, hz2⟩ := own_stays hb2 (b := w1.heap.size) (by go_simp)
    go_wp2
    go_ret
    exact ⟨ret_i T.out.symm, (by repeat (with_reducible (first | exact Below.refl _ _ | assumption | refine bl_alloc ?_ _ | refine bl_drewN ?_ _ | refine bl_drew ?_ | refine bl_call ?_ (by assumption) | (refine bl_setCell ?_ _ (Nat.le_refl _)) | (refine bl_setCell ?_ _ (by first | omega | (simp; done) | (simp; omega))))))⟩
  · have F := F.out
    have G := G.out
    simp only [h1, h2, decide_true, decide_false] at F G
    have F := Lib.hid F
    have G := Lib.hid G
    have T := Lib.hid t
    clear h1 h2 t
    generalize absW x = n at *
    generalize absW y = m at *
    go_enter Try.func44, Try.ntmps44
    go_wp2_with fail
    refine (F.out _).mono ?_
    rintro e w1 ⟨rfl, hb1⟩
    obtain ⟨hc1, hf1, hz1⟩ := own_stays hb1 (b := w.heap.size + 1) (by go_simp)
    go_wp2_with fail
    refine (G.out _).mono ?_
    rintro e w2 ⟨rfl, hb2⟩
    obtain ⟨hc2, hf2, hz2⟩ := own_stays hb2 (b := w1.heap.size) (by go_simp)
    go_wp2
    go_ret
    exact ⟨ret_i T.out.symm, (by repeat (with_reducible (first | exact Below.refl _ _ | assumption | refine bl_alloc ?_ _ | refine bl_drewN ?_ _ | refine bl_drew ?_ | refine bl_call ?_ (by assumption) | (refine bl_setCell ?_ _ (Nat.le_refl _)) | (refine bl_setCell ?_ _ (by first | omega | (simp; done) | (simp; omega))))))⟩
  · have F := F.out
    have G := G.out
    simp only [h1, h2, decide_true, decide_false] at F G
    have F := Lib.hid F
    have G := Lib.hid G
    have T := Lib.hid t
    clear h1 h2 t
    generalize absW x = n at *
    generalize absW y = m at *
    go_enter Try.func44, Try.ntmps44
    go_wp2_with fail
    refine (F.out _).mono ?_
    rintro e w1 ⟨rfl, hb1⟩
    obtain ⟨hc1, hf1, hz1⟩ := own_stays hb1 (b := w.heap.size + 1) (by go_simp)
    go_wp2_with fail
    refine (G.out _).mono ?_
    rintro e w2 ⟨rfl, hb2⟩
    obtain ⟨hc2, hf2, hz2⟩ := own_stays hb2 (b := w1.heap.size) (by go_simp)
    go_wp2_with fail
    refine (D.out _).mono ?_
    rintro e w3 ⟨rfl, hb3⟩
    go_wp2
    go_ret
    exact ⟨ret_i T.out.symm, (by repeat (with_reducible (first | exact Below.refl _ _ | assumption | refine bl_alloc ?_ _ | refine bl_drewN ?_ _ | refine bl_drew ?_ | refine bl_call ?_ (by assumption) | (refine bl_setCell ?_ _ (Nat.le_refl _)) | (refine bl_setCell ?_ _ (by first | omega | (simp; done) | (simp; omega))))))⟩
  · have F := F.out
    have G := G.out
    simp only [h1, h2, decide_true, decide_false] at F G
    have F := Lib.hid F
    have G := Lib.hid G
    have T := Lib.hid t
    clear h1 h2 t
    generalize absW x = n at *
    generalize absW y = m at *
    go_enter Try.func44, Try.ntmps44
    go_wp2_with fail
    refine (F.out _).mono ?_
    rintro e w1 ⟨rfl, hb1⟩
    obtain ⟨hc1, hf1, hz1⟩ := own_stays hb1 (b := w.heap.size + 1) (by go_simp)
    go_wp2_with fail
    refine (G.out _).mono ?_
    rintro e w2 ⟨rfl, hb2⟩
    obtain ⟨hc2, hf2, hz2⟩ := own_stays hb2 (b := w1.heap.size) (by go_simp)
    go_wp2_with fail
    refine (C.out _).mono ?_
    rintro e w3 ⟨rfl, hb3⟩
    go_wp2
    go_ret
    exact ⟨ret_i T.out.symm, (by repeat (with_reducible (first | exact Below.refl _ _ | assumption | refine bl_alloc ?_ _ | refine bl_drewN ?_ _ | refine bl_drew ?_ | refine bl_call ?_ (by assumption) | (refine bl_setCell ?_ _ (Nat.le_refl _)) | (refine bl_setCell ?_ _ (by first | omega | (simp; done) | (simp; omega))))))⟩
end Go.Proofs.Ytkejohmghacdhaa
