/- Contracts of the reference's chapter 2: a Wide's number, a number's Wide, digits compared. -/
import Derived.Test.YtkejohmghacdhaaRwA
namespace Go.Proofs.Ytkejohmghacdhaa
set_option linter.unusedVariables false
set_option linter.unusedSimpArgs false
open Go.RowKit
def absW (x : Int) : Int := if x < 0 then -x else x
theorem absW_bd {x : Int} (h : InW x) : 0 ≤ absW x ∧ absW x ≤ 170141183460469231731687303715884105728 := by unfold absW InW at *; omega
theorem of_pos {x : Int} (h : ¬ hiW x < 0) : hiW x * 18446744073709551616 + loW x = absW x ∧ decide (x < 0) = false := by
  unfold absW hiW loW at *; refine ⟨by split <;> omega, by simp; omega⟩
theorem of_neg0 {x : Int} (h : hiW x < 0) (hl : loW x = 0) : (-(hiW x + 1) + 1) * 18446744073709551616 + 0 = absW x ∧ decide (x < 0) = true := by
  unfold absW hiW loW at *; refine ⟨by split <;> omega, by simp; omega⟩
theorem of_neg1 {x : Int} (h : hiW x < 0) : -(hiW x + 1) * 18446744073709551616 + (18446744073709551615 - loW x + 1) = absW x ∧ decide (x < 0) = true := by
  unfold absW hiW loW at *; refine ⟨by split <;> omega, by simp; omega⟩
set_option maxHeartbeats 1000000 in
theorem rwof_any (x : Int) (w : World) (hx : InW x) :
    Calls Try.prog 65 #[wideA x] w fun e w' => e = .returned (numA (decide (x < 0)) (absW x)) ∧ Below w.heap.size w w' := by
  have ih := In_hi hx
  have il := InU_lo x
  unfold In at ih
  unfold InU at il
  by_cases h : hiW x < 0
  · by_cases hl : loW x = 0
    · obtain ⟨e1, e2⟩ := of_neg0 h hl
      have C := fun w => put_any true (-(hiW x + 1) + 1) 0 w (by unfold InU; omega) (by unfold InU; omega)
      rw [e1] at C
      have C := Lib.hid C
      have E2 := Lib.hid e2
      clear e1 e2 hx
      go_enter Try.func65, Try.ntmps65
      go_wp2_with fail
      refine (C.out _).mono ?_
      rintro e w1 ⟨rfl, hb1⟩
      obtain ⟨hc1, hf1, hz1⟩ := own_stays hb1 (b := w.heap.size + 1) (by simp)
      go_wp2
      obtain ⟨u0, u1, u2, u3, u4, u5, u6, u7, u8⟩ := set9 (.bool (true)) (.int .u64 (dg (absW x) 0)) (.int .u64 (dg (absW x) 1)) (.int .u64 (dg (absW x) 2)) (.int .u64 (dg (absW x) 3)) (.int .u64 (dg (absW x) 4)) (.int .u64 (dg (absW x) 5)) (.int .u64 (dg (absW x) 6)) (.int .u64 (dg (absW x) 7)) (show w1.cell? ⟨w.heap.size + 1, 0, none⟩ = some (.bool false) by rw [hc1]; simp) (show w1.cell? ⟨w.heap.size + 1, 1, none⟩ = some (.int .u64 0) by rw [hc1]; simp) (show w1.cell? ⟨w.heap.size + 1, 2, none⟩ = some (.int .u64 0) by rw [hc1]; simp) (show w1.cell? ⟨w.heap.size + 1, 3, none⟩ = some (.int .u64 0) by rw [hc1]; simp) (show w1.cell? ⟨w.heap.size + 1, 4, none⟩ = some (.int .u64 0) by rw [hc1]; simp) (show w1.cell? ⟨w.heap.size + 1, 5, none⟩ = some (.int .u64 0) by rw [hc1]; simp) (show w1.cell? ⟨w.heap.size + 1, 6, none⟩ = some (.int .u64 0) by rw [hc1]; simp) (show w1.cell? ⟨w.heap.size + 1, 7, none⟩ = some (.int .u64 0) by rw [hc1]; simp) (show w1.cell? ⟨w.heap.size + 1, 8, none⟩ = some (.int .u64 0) by rw [hc1]; simp); refine bodyPost_ret (v := numA true (absW x)) (by simp [results, Try.results65, go_sem, u0, u1, u2, u3, u4, u5, u6, u7, u8]) rfl ⟨?_, ?_⟩
      · rw [E2.out]
      · exact (by repeat (with_reducible (first | exact Below.refl _ _ | assumption | refine bl_alloc ?_ _ | refine bl_drewN ?_ _ | refine bl_drew ?_ | refine bl_call ?_ (by assumption) | (refine bl_setCell ?_ _ (Nat.le_refl _)) | (refine bl_setCell ?_ _ (by simp)))))
    · have e1 := of_neg1 h
      obtain ⟨e1, e2⟩ := e1
      have hl' : (18446744073709551615 - loW x == 18446744073709551615) = false := by simp; omega
      have C := fun w => put_any true (-(hiW x + 1)) (18446744073709551615 - loW x + 1) w (by unfold InU; omega) (by unfold InU; omega)
      rw [e1] at C
      have C := Lib.hid C
      have E2 := Lib.hid e2
      have il1 : 1 ≤ loW x := by omega
      clear e1 e2 hx hl
      go_enter Try.func65, Try.ntmps65
      go_wp2_with fail
      refine (C.out _).mono ?_
      rintro e w1 ⟨rfl, hb1⟩
      obtain ⟨hc1, hf1, hz1⟩ := own_stays hb1 (b := w.heap.size + 1) (by simp)
      go_wp2
      obtain ⟨u0, u1, u2, u3, u4, u5, u6, u7, u8⟩ := set9 (.bool (true)) (.int .u64 (dg (absW x) 0)) (.int .u64 (dg (absW x) 1)) (.int .u64 (dg (absW x) 2)) (.int .u64 (dg (absW x) 3)) (.int .u64 (dg (absW x) 4)) (.int .u64 (dg (absW x) 5)) (.int .u64 (dg (absW x) 6)) (.int .u64 (dg (absW x) 7)) (show w1.cell? ⟨w.heap.size + 1, 0, none⟩ = some (.bool false) by rw [hc1]; simp) (show w1.cell? ⟨w.heap.size + 1, 1, none⟩ = some (.int .u64 0) by rw [hc1]; simp) (show w1.cell? ⟨w.heap.size + 1, 2, none⟩ = some (.int .u64 0) by rw [hc1]; simp) (show w1.cell? ⟨w.heap.size + 1, 3, none⟩ = some (.int .u64 0) by rw [hc1]; simp) (show w1.cell? ⟨w.heap.size + 1, 4, none⟩ = some (.int .u64 0) by rw [hc1]; simp) (show w1.cell? ⟨w.heap.size + 1, 5, none⟩ = some (.int .u64 0) by rw [hc1]; simp) (show w1.cell? ⟨w.heap.size + 1, 6, none⟩ = some (.int .u64 0) by rw [hc1]; simp) (show w1.cell? ⟨w.heap.size + 1, 7, none⟩ = some (.int .u64 0) by rw [hc1]; simp) (show w1.cell? ⟨w.heap.size + 1, 8, none⟩ = some (.int .u64 0) by rw [hc1]; simp); refine bodyPost_ret (v := numA true (absW x)) (by simp [results, Try.results65, go_sem, u0, u1, u2, u3, u4, u5, u6, u7, u8]) rfl ⟨?_, ?_⟩
      · rw [E2.out]
      · exact (by repeat (with_reducible (first | exact Below.refl _ _ | assumption | refine bl_alloc ?_ _ | refine bl_drewN ?_ _ | refine bl_drew ?_ | refine bl_call ?_ (by assumption) | (refine bl_setCell ?_ _ (Nat.le_refl _)) | (refine bl_setCell ?_ _ (by simp)))))
  · obtain ⟨e1, e2⟩ := of_pos h
    have C := fun w => put_any false (hiW x) (loW x) w (by unfold InU; omega) (by unfold InU; omega)
    rw [e1] at C
    have C := Lib.hid C
    have E2 := Lib.hid e2
    clear e1 e2 hx
    go_enter Try.func65, Try.ntmps65
    go_wp2_with fail
    refine (C.out _).mono ?_
    rintro e w1 ⟨rfl, hb1⟩
    obtain ⟨hc1, hf1, hz1⟩ := own_stays hb1 (b := w.heap.size + 1) (by simp)
    go_wp2
    obtain ⟨u0, u1, u2, u3, u4, u5, u6, u7, u8⟩ := set9 (.bool (false)) (.int .u64 (dg (absW x) 0)) (.int .u64 (dg (absW x) 1)) (.int .u64 (dg (absW x) 2)) (.int .u64 (dg (absW x) 3)) (.int .u64 (dg (absW x) 4)) (.int .u64 (dg (absW x) 5)) (.int .u64 (dg (absW x) 6)) (.int .u64 (dg (absW x) 7)) (show w1.cell? ⟨w.heap.size + 1, 0, none⟩ = some (.bool false) by rw [hc1]; simp) (show w1.cell? ⟨w.heap.size + 1, 1, none⟩ = some (.int .u64 0) by rw [hc1]; simp) (show w1.cell? ⟨w.heap.size + 1, 2, none⟩ = some (.int .u64 0) by rw [hc1]; simp) (show w1.cell? ⟨w.heap.size + 1, 3, none⟩ = some (.int .u64 0) by rw [hc1]; simp) (show w1.cell? ⟨w.heap.size + 1, 4, none⟩ = some (.int .u64 0) by rw [hc1]; simp) (show w1.cell? ⟨w.heap.size + 1, 5, none⟩ = some (.int .u64 0) by rw [hc1]; simp) (show w1.cell? ⟨w.heap.size + 1, 6, none⟩ = some (.int .u64 0) by rw [hc1]; simp) (show w1.cell? ⟨w.heap.size + 1, 7, none⟩ = some (.int .u64 0) by rw [hc1]; simp) (show w1.cell? ⟨w.heap.size + 1, 8, none⟩ = some (.int .u64 0) by rw [hc1]; simp); refine bodyPost_ret (v := numA false (absW x)) (by simp [results, Try.results65, go_sem, u0, u1, u2, u3, u4, u5, u6, u7, u8]) rfl ⟨?_, ?_⟩
    · rw [E2.out]
    · exact (by repeat (with_reducible (first | exact Below.refl _ _ | assumption | refine bl_alloc ?_ _ | refine bl_drewN ?_ _ | refine bl_drew ?_ | refine bl_call ?_ (by assumption) | (refine bl_setCell ?_ _ (Nat.le_refl _)) | (refine bl_setCell ?_ _ (by simp)))))
def backV (b : Bool) (n : Int) : Int := if b = false ∨ n = 0 then n % 170141183460469231731687303715884105728 else if n ≤ 170141183460469231731687303715884105728 then -n else 0
def backB (b : Bool) (n : Int) : Bool := if b = false ∨ n = 0 then decide (n < 170141183460469231731687303715884105728) else decide (n ≤ 170141183460469231731687303715884105728)
theorem back_pos {b : Bool} {n x y : Int} (e : n = x * 18446744073709551616 + y) (x0 : 0 ≤ x) (y0 : 0 ≤ y) (y1 : y ≤ 18446744073709551615) (h : b = false ∨ (x = 0 ∧ y = 0)) : hiW (backV b n) = x % 9223372036854775808 ∧ loW (backV b n) = y ∧ backB b n = decide (x < 9223372036854775808) := by
  have h' : b = false ∨ n = 0 := by rcases h with h | h; exact .inl h; exact .inr (by omega)
  unfold backV backB; rw [if_pos h', if_pos h']
  refine ⟨by unfold hiW; omega, by unfold loW; omega, ?_⟩
  rw [Bool.eq_iff_iff]; simp only [decide_eq_true_eq]; omega
theorem back_over {n x y : Int} (e : n = x * 18446744073709551616 + y) (y0 : 0 ≤ y) (h : 9223372036854775808 < x ∨ (x = 9223372036854775808 ∧ 0 < y)) : backV true n = 0 ∧ backB true n = false := by
  unfold backV backB
  rw [if_neg (by simp; omega), if_neg (by omega), if_neg (by simp; omega)]
  exact ⟨rfl, by simp; omega⟩
theorem back_neg {n x y : Int} (e : n = x * 18446744073709551616 + y) (x0 : 0 ≤ x) (y0 : 0 ≤ y) (y1 : y ≤ 18446744073709551615) (h0 : ¬ (x = 0 ∧ y = 0)) (h1 : x < 9223372036854775808 ∨ (x = 9223372036854775808 ∧ y = 0)) :
    backB true n = true ∧ (y = 0 → hiW (backV true n) = -x ∧ loW (backV true n) = 0) ∧ (y ≠ 0 → hiW (backV true n) = -x - 1 ∧ loW (backV true n) = 18446744073709551616 - y) := by
  unfold backV backB
  rw [if_neg (by simp; omega), if_neg (by simp; omega), if_pos (by omega)]
  refine ⟨by simp; omega, fun h => ⟨by unfold hiW; omega, by unfold loW; omega⟩, fun h => ⟨by unfold hiW; omega, by unfold loW; omega⟩⟩
theorem ret_wb {a b c d : Int} {x y : Bool} (h1 : a = c) (h2 : b = d) (h3 : x = y) : Ending.returned (.tuple #[.agg #[.int .i64 a, .int .u64 b], .bool x]) = .returned (.tuple #[.agg #[.int .i64 c, .int .u64 d], .bool y]) := by rw [h1, h2, h3]
set_option maxHeartbeats 2000000 in
theorem back_any (b : Bool) (n : Int) (w : World) (h0 : 0 ≤ n) (h1 : n < 340282366920938463463374607431768211456) :
    Calls Try.prog 68 #[numA b n] w fun e w' => e = .returned (.tuple #[wideA (backV b n), .bool (backB b n)]) ∧ Below w.heap.size w w' := by
  have C := fun w => words_any b n w h0 h1
  obtain ⟨x, hx⟩ : ∃ x, x = n / 18446744073709551616 := ⟨_, rfl⟩
  obtain ⟨y, hy⟩ : ∃ y, y = n % 18446744073709551616 := ⟨_, rfl⟩
  rw [← hx, ← hy] at C
  have C := Lib.hid C
  have e : n = x * 18446744073709551616 + y := by omega
  have x0 : 0 ≤ x := by omega
  have x1 : x ≤ 18446744073709551615 := by omega
  have y0 : 0 ≤ y := by omega
  have y1 : y ≤ 18446744073709551615 := by omega
  clear hx hy h0 h1
  by_cases hp : b = false ∨ (x = 0 ∧ y = 0)
  · obtain ⟨e1, e2, e3⟩ := back_pos e x0 y0 y1 hp
    have E1 := Lib.hid e1
    have E2 := Lib.hid e2
    have E3 := Lib.hid e3
    have z0 : 0 ≤ x % 9223372036854775808 := by omega
    have z1 : x % 9223372036854775808 ≤ 9223372036854775807 := by omega
    clear e1 e2 e3 e
    rcases hp with rfl | ⟨rfl, rfl⟩
    · skip
      go_enter Try.func68, Try.ntmps68
      go_wp2_with fail
      refine (C.out _).mono ?_
      rintro e w1 ⟨rfl, hb1⟩
      obtain ⟨hc1, hf1, hz1⟩ := own_stays hb1 (b := w.heap.size) (by simp; omega)
      obtain ⟨hd1, hg1, hy1⟩ := own_stays hb1 (b := w.heap.size + 1) (by simp)
      go_wp2
      obtain ⟨u0, u1⟩ := set2 (.int .i64 (x % 9223372036854775808)) (.int .u64 (y)) (show w1.cell? ⟨w.heap.size + 1, 0, none⟩ = some (.int .i64 0) by rw [hd1]; simp) (show w1.cell? ⟨w.heap.size + 1, 1, none⟩ = some (.int .u64 0) by rw [hd1]; simp)
      refine bodyPost_ret (v := .tuple #[.agg #[.int .i64 (x % 9223372036854775808), .int .u64 (y)], .bool (decide (x < 9223372036854775808))]) (by simp [results, Try.results68, go_sem, u0, u1]) rfl ⟨ret_wb (E1.out.symm) (E2.out.symm) (E3.out.symm), ?_⟩
      exact (by repeat (with_reducible (first | exact Below.refl _ _ | assumption | refine bl_alloc ?_ _ | refine bl_drewN ?_ _ | refine bl_drew ?_ | refine bl_call ?_ (by assumption) | (refine bl_setCell ?_ _ (Nat.le_refl _)) | (refine bl_setCell ?_ _ (by simp)))))
    · cases b
      all_goals
        go_enter Try.func68, Try.ntmps68
        go_wp2_with fail
        refine (C.out _).mono ?_
        rintro e w1 ⟨rfl, hb1⟩
        obtain ⟨hc1, hf1, hz1⟩ := own_stays hb1 (b := w.heap.size) (by simp; omega)
        obtain ⟨hd1, hg1, hy1⟩ := own_stays hb1 (b := w.heap.size + 1) (by simp)
        go_wp2
        obtain ⟨u0, u1⟩ := set2 (.int .i64 (0)) (.int .u64 (0)) (show w1.cell? ⟨w.heap.size + 1, 0, none⟩ = some (.int .i64 0) by rw [hd1]; simp) (show w1.cell? ⟨w.heap.size + 1, 1, none⟩ = some (.int .u64 0) by rw [hd1]; simp)
        refine bodyPost_ret (v := .tuple #[.agg #[.int .i64 (0), .int .u64 (0)], .bool (true)]) (by simp [results, Try.results68, go_sem, u0, u1]) rfl ⟨ret_wb (by rw [E1.out]; rfl) (E2.out.symm) (by rw [E3.out]; rfl), ?_⟩
        exact (by repeat (with_reducible (first | exact Below.refl _ _ | assumption | refine bl_alloc ?_ _ | refine bl_drewN ?_ _ | refine bl_drew ?_ | refine bl_call ?_ (by assumption) | (refine bl_setCell ?_ _ (Nat.le_refl _)) | (refine bl_setCell ?_ _ (by simp)))))
  obtain rfl : b = true := by cases b; exact absurd (.inl rfl) hp; rfl
  have hq : ¬ (x = 0 ∧ y = 0) := fun h => hp (.inr h)
  have q0 : ((x == 0) && (y == 0)) = false := by rw [← Bool.not_eq_true]; intro h; simp at h; exact hq h
  by_cases h1 : 9223372036854775808 < x ∨ (x = 9223372036854775808 ∧ 0 < y)
  · obtain ⟨e1, e2⟩ := back_over e y0 h1
    have E1 := Lib.hid e1
    have E2 := Lib.hid e2
    clear e1 e2 e hp hq q0
    rcases h1 with h1 | ⟨rfl, h1⟩
    all_goals
      go_enter Try.func68, Try.ntmps68
      go_wp2_with fail
      refine (C.out _).mono ?_
      rintro e w1 ⟨rfl, hb1⟩
      obtain ⟨hc1, hf1, hz1⟩ := own_stays hb1 (b := w.heap.size) (by simp; omega)
      obtain ⟨hd1, hg1, hy1⟩ := own_stays hb1 (b := w.heap.size + 1) (by simp)
      go_wp2
      obtain ⟨u0, u1⟩ := set2 (.int .i64 (0)) (.int .u64 (0)) (show w1.cell? ⟨w.heap.size + 1, 0, none⟩ = some (.int .i64 0) by rw [hd1]; simp) (show w1.cell? ⟨w.heap.size + 1, 1, none⟩ = some (.int .u64 0) by rw [hd1]; simp)
      refine bodyPost_ret (v := .tuple #[.agg #[.int .i64 (0), .int .u64 (0)], .bool (false)]) (by simp [results, Try.results68, go_sem, u0, u1]) rfl ⟨ret_wb (by rw [E1.out]; rfl) (by rw [E1.out]; rfl) (E2.out.symm), ?_⟩
      exact (by repeat (with_reducible (first | exact Below.refl _ _ | assumption | refine bl_alloc ?_ _ | refine bl_drewN ?_ _ | refine bl_drew ?_ | refine bl_call ?_ (by assumption) | (refine bl_setCell ?_ _ (Nat.le_refl _)) | (refine bl_setCell ?_ _ (by simp)))))
  obtain ⟨e1, e2, e3⟩ := back_neg e x0 y0 y1 hq (by omega)
  have E1 := Lib.hid e1
  by_cases hy : y = 0
  · have E2 := Lib.hid (e2 hy)
    subst hy
    have x2 : 0 < x := by omega
    have x3 : x ≤ 9223372036854775808 := by omega
    have nx : (x == 0) = false := by simp; omega
    clear e1 e2 e3 e hp hq q0 h1
    by_cases xx : x = 9223372036854775808
    · subst xx
      go_enter Try.func68, Try.ntmps68
      go_wp2_with fail
      refine (C.out _).mono ?_
      rintro e w1 ⟨rfl, hb1⟩
      obtain ⟨hc1, hf1, hz1⟩ := own_stays hb1 (b := w.heap.size) (by simp; omega)
      obtain ⟨hd1, hg1, hy1⟩ := own_stays hb1 (b := w.heap.size + 1) (by simp)
      go_wp2
      obtain ⟨u0, u1⟩ := set2 (.int .i64 (-9223372036854775808)) (.int .u64 (0)) (show w1.cell? ⟨w.heap.size + 1, 0, none⟩ = some (.int .i64 0) by rw [hd1]; simp) (show w1.cell? ⟨w.heap.size + 1, 1, none⟩ = some (.int .u64 0) by rw [hd1]; simp)
      refine bodyPost_ret (v := .tuple #[.agg #[.int .i64 (-9223372036854775808), .int .u64 (0)], .bool (true)]) (by simp [results, Try.results68, go_sem, u0, u1]) rfl ⟨ret_wb (by rw [E2.out.1]) (by rw [E2.out.2]) (E1.out.symm), ?_⟩
      exact (by repeat (with_reducible (first | exact Below.refl _ _ | assumption | refine bl_alloc ?_ _ | refine bl_drewN ?_ _ | refine bl_drew ?_ | refine bl_call ?_ (by assumption) | (refine bl_setCell ?_ _ (Nat.le_refl _)) | (refine bl_setCell ?_ _ (by simp)))))
    · have x4 : x < 9223372036854775808 := by omega
      have nxx : (x == 9223372036854775808) = false := by simpa using xx
      clear xx
      go_enter Try.func68, Try.ntmps68
      go_wp2_with fail
      refine (C.out _).mono ?_
      rintro e w1 ⟨rfl, hb1⟩
      obtain ⟨hc1, hf1, hz1⟩ := own_stays hb1 (b := w.heap.size) (by simp; omega)
      obtain ⟨hd1, hg1, hy1⟩ := own_stays hb1 (b := w.heap.size + 1) (by simp)
      go_wp2
      obtain ⟨u0, u1⟩ := set2 (.int .i64 (-(x - 1) - 1)) (.int .u64 (0)) (show w1.cell? ⟨w.heap.size + 1, 0, none⟩ = some (.int .i64 0) by rw [hd1]; simp) (show w1.cell? ⟨w.heap.size + 1, 1, none⟩ = some (.int .u64 0) by rw [hd1]; simp)
      refine bodyPost_ret (v := .tuple #[.agg #[.int .i64 (-(x - 1) - 1), .int .u64 (0)], .bool (true)]) (by simp [results, Try.results68, go_sem, u0, u1]) rfl ⟨ret_wb (by rw [E2.out.1]; omega) (by rw [E2.out.2]) (E1.out.symm), ?_⟩
      exact (by repeat (with_reducible (first | exact Below.refl _ _ | assumption | refine bl_alloc ?_ _ | refine bl_drewN ?_ _ | refine bl_drew ?_ | refine bl_call ?_ (by assumption) | (refine bl_setCell ?_ _ (Nat.le_refl _)) | (refine bl_setCell ?_ _ (by simp)))))
  · have E2 := Lib.hid (e3 hy)
    have y2 : 0 < y := by omega
    have x3 : x < 9223372036854775808 := by omega
    have ny : (y == 0) = false := by simp; omega
    have nxx : (x == 9223372036854775808) = false := by simp; omega
    clear e1 e2 e3 e hp hq h1 hy
    by_cases hx : x = 0
    · subst hx
      go_enter Try.func68, Try.ntmps68
      go_wp2_with fail
      refine (C.out _).mono ?_
      rintro e w1 ⟨rfl, hb1⟩
      obtain ⟨hc1, hf1, hz1⟩ := own_stays hb1 (b := w.heap.size) (by simp; omega)
      obtain ⟨hd1, hg1, hy1⟩ := own_stays hb1 (b := w.heap.size + 1) (by simp)
      go_wp2
      obtain ⟨u0, u1⟩ := set2 (.int .i64 (-1)) (.int .u64 (18446744073709551615 - y + 1)) (show w1.cell? ⟨w.heap.size + 1, 0, none⟩ = some (.int .i64 0) by rw [hd1]; simp) (show w1.cell? ⟨w.heap.size + 1, 1, none⟩ = some (.int .u64 0) by rw [hd1]; simp)
      refine bodyPost_ret (v := .tuple #[.agg #[.int .i64 (-1), .int .u64 (18446744073709551615 - y + 1)], .bool (true)]) (by simp [results, Try.results68, go_sem, u0, u1]) rfl ⟨ret_wb (by rw [E2.out.1]; rfl) (by rw [E2.out.2]; omega) (E1.out.symm), ?_⟩
      exact (by repeat (with_reducible (first | exact Below.refl _ _ | assumption | refine bl_alloc ?_ _ | refine bl_drewN ?_ _ | refine bl_drew ?_ | refine bl_call ?_ (by assumption) | (refine bl_setCell ?_ _ (Nat.le_refl _)) | (refine bl_setCell ?_ _ (by simp)))))
    · have nx : (x == 0) = false := by simpa using hx
      clear hx q0
      go_enter Try.func68, Try.ntmps68
      go_wp2_with fail
      refine (C.out _).mono ?_
      rintro e w1 ⟨rfl, hb1⟩
      obtain ⟨hc1, hf1, hz1⟩ := own_stays hb1 (b := w.heap.size) (by simp; omega)
      obtain ⟨hd1, hg1, hy1⟩ := own_stays hb1 (b := w.heap.size + 1) (by simp)
      go_wp2
      obtain ⟨u0, u1⟩ := set2 (.int .i64 (-x - 1)) (.int .u64 (18446744073709551615 - y + 1)) (show w1.cell? ⟨w.heap.size + 1, 0, none⟩ = some (.int .i64 0) by rw [hd1]; simp) (show w1.cell? ⟨w.heap.size + 1, 1, none⟩ = some (.int .u64 0) by rw [hd1]; simp)
      refine bodyPost_ret (v := .tuple #[.agg #[.int .i64 (-x - 1), .int .u64 (18446744073709551615 - y + 1)], .bool (true)]) (by simp [results, Try.results68, go_sem, u0, u1]) rfl ⟨ret_wb (by rw [E2.out.1]) (by rw [E2.out.2]; omega) (E1.out.symm), ?_⟩
      exact (by repeat (with_reducible (first | exact Below.refl _ _ | assumption | refine bl_alloc ?_ _ | refine bl_drewN ?_ _ | refine bl_drew ?_ | refine bl_call ?_ (by assumption) | (refine bl_setCell ?_ _ (Nat.le_refl _)) | (refine bl_setCell ?_ _ (by simp)))))
end Go.Proofs.Ytkejohmghacdhaa
