import Derived.Test.YtnjjihlknkmllaaLawWideBack
namespace Go.Proofs.Ytnjjihlknkmllaa
set_option linter.unusedVariables false
set_option linter.unusedSimpArgs false
open Go.RowKit
theorem word_cases (a b : Int) : (a < b ∧ cmpI a b = -1 ∧ cmpI b a = 1 ∧ (a == b) = false) ∨ (b < a ∧ cmpI a b = 1 ∧ cmpI b a = -1 ∧ (a == b) = false) ∨ (a = b ∧ cmpI a b = 0 ∧ cmpI b a = 0) := by
  unfold cmpI
  rcases Int.lt_trichotomy a b with h | h | h
  · exact .inl ⟨h, by rw [if_pos h], by rw [if_neg (by omega), if_pos h], by simp; omega⟩
  · exact .inr (.inr ⟨h, by rw [if_neg (by omega), if_neg (by omega)], by rw [if_neg (by omega), if_neg (by omega)]⟩)
  · exact .inr (.inl ⟨h, by rw [if_neg (by omega), if_pos h], by rw [if_pos h], by simp; omega⟩)
/-- two numbers apart: their words -/
theorem words_apart {a b : Int} (h : (a == b) = false) : (hiW a == hiW b) = false ∨ ((hiW a == hiW b) = true ∧ (loW a == loW b) = false) := by
  by_cases h1 : hiW a = hiW b
  · refine .inr ⟨by simpa using h1, ?_⟩
    refine Bool.eq_false_iff.2 fun h2 => ?_
    have := hilo_inj h1 (by simpa using h2)
    subst this
    simp at h
  · exact .inl (by simpa using h1)
theorem worder_diff {a b : Int} (hb : InW b) : (capW (-b) = -b ∧ errW (-b) = 0 ∧ InW (-b) ∧ ((capW (a + -b) = a + -b ∧ errW (a + -b) = 0 ∧ InW (a + -b) ∧ cmpI (a + -b) 0 = cmpI a b) ∨ (capW (a + -b) = 0 ∧ errW (a + -b) = 2))) ∨ (capW (-b) = 0 ∧ errW (-b) = 2) := by
  rcases capW_cases (-b) with ⟨h1, h2, h3, _⟩ | ⟨h1, h2, h3, _⟩
  · refine .inl ⟨h1, h2, h3, ?_⟩
    rcases capW_cases (a + -b) with ⟨g1, g2, g3, _⟩ | ⟨g1, g2, g3, _⟩
    · refine .inl ⟨g1, g2, g3, ?_⟩
      unfold cmpI
      by_cases h : a < b
      · rw [if_pos h, if_pos (by omega)]
      · rw [if_neg h, if_neg (by omega)]
        by_cases h' : b < a
        · rw [if_pos h', if_pos (by omega)]
        · rw [if_neg h', if_neg (by omega)]
    · exact .inr ⟨g1, g2⟩
  · exact .inr ⟨h1, h2⟩
set_option maxRecDepth 100000 in
set_option maxHeartbeats 8000000 in
theorem wideOrder_core (a b c c' : Int) (w : World) (ha : InW a) (hb : InW b) (e1 : cmpI a b = c) (e2 : cmpI b a = c') (hc : (c = -1 ∧ c' = 1 ∧ (a == b) = false) ∨ (c = 1 ∧ c' = -1 ∧ (a == b) = false) ∨ (c = 0 ∧ c' = 0 ∧ a = b)) :
    Calls Try.prog 10 #[wideA a, wideA b] w fun e w' => e = .returned (.bool true) ∧ Below w.heap.size w w' := by
  have HD := Lib.hid (worder_diff (a := a) hb)
  have E1 := Lib.hid e1
  have A := wcmp_any a b
  have B := wcmp_any b a
  rw [e1] at A
  rw [e2] at B
  have A := Lib.hid A
  have B := Lib.hid B
  have hq : (c = -1 ∧ c' = 1 ∧ (hiW a == hiW b) = false) ∨ (c = -1 ∧ c' = 1 ∧ (hiW a == hiW b) = true ∧ (loW a == loW b) = false) ∨ (c = 1 ∧ c' = -1 ∧ (hiW a == hiW b) = false) ∨ (c = 1 ∧ c' = -1 ∧ (hiW a == hiW b) = true ∧ (loW a == loW b) = false) ∨ (c = 0 ∧ c' = 0 ∧ (hiW a == hiW b) = true ∧ (loW a == loW b) = true) := by
    rcases hc with ⟨h1, h2, h⟩ | ⟨h1, h2, h⟩ | ⟨h1, h2, h⟩
    · rcases words_apart h with g | ⟨g, g'⟩
      · exact .inl ⟨h1, h2, g⟩
      · exact .inr (.inl ⟨h1, h2, g, g'⟩)
    · rcases words_apart h with g | ⟨g, g'⟩
      · exact .inr (.inr (.inl ⟨h1, h2, g⟩))
      · exact .inr (.inr (.inr (.inl ⟨h1, h2, g, g'⟩)))
    · subst h; exact .inr (.inr (.inr (.inr ⟨h1, h2, by simp, by simp⟩)))
  clear hc e1 e2
  rcases hq with ⟨rfl, rfl, g⟩ | ⟨rfl, rfl, g, g'⟩ | ⟨rfl, rfl, g⟩ | ⟨rfl, rfl, g, g'⟩ | ⟨rfl, rfl, g, g'⟩
  all_goals
    go_enter Try.func10, Try.ntmps10
    go_wp2_with fail
    refine (live2 _).mono ?_
    rintro e w1 ⟨rfl, hb1⟩
    obtain ⟨hc1_0, hf1_0, hz1_0⟩ := own_stays hb1 (b := w.heap.size) (by first | (simp; done) | (simp; omega) | omega)
    obtain ⟨hc1_1, hf1_1, hz1_1⟩ := own_stays hb1 (b := w.heap.size + 1) (by first | (simp; done) | (simp; omega) | omega)
    go_wp2_with fail
    refine (A.out _).mono ?_
    rintro e w2 ⟨rfl, hb2⟩
    obtain ⟨hc2_0, hf2_0, hz2_0⟩ := own_stays hb2 (b := w.heap.size) (by first | (simp; done) | (simp; omega) | omega)
    obtain ⟨hc2_1, hf2_1, hz2_1⟩ := own_stays hb2 (b := w.heap.size + 1) (by first | (simp; done) | (simp; omega) | omega)
    go_wp2_with fail
    refine (B.out _).mono ?_
    rintro e w3 ⟨rfl, hb3⟩
    obtain ⟨hc3_0, hf3_0, hz3_0⟩ := own_stays hb3 (b := w.heap.size) (by first | (simp; done) | (simp; omega) | omega)
    obtain ⟨hc3_1, hf3_1, hz3_1⟩ := own_stays hb3 (b := w.heap.size + 1) (by first | (simp; done) | (simp; omega) | omega)
    go_wp2_with fail
    refine (wneg_any _ _ hb).mono ?_
    rintro e w4 ⟨rfl, hb4⟩
    obtain ⟨hc4_0, hf4_0, hz4_0⟩ := own_stays hb4 (b := w.heap.size) (by first | (simp; done) | (simp; omega) | omega)
    obtain ⟨hc4_1, hf4_1, hz4_1⟩ := own_stays hb4 (b := w.heap.size + 1) (by first | (simp; done) | (simp; omega) | omega)
    go_wp2_with fail
    rcases HD.out with ⟨d1, d2, d3, d4⟩ | ⟨d1, d2⟩
    case' inl =>
      have D4 := Lib.hid d4
      clear d4
      go_wp2_with fail
      rw [d1]
      refine (wadd_any _ _ _ ha d3).mono ?_
      rintro e w5 ⟨rfl, hb5⟩
      obtain ⟨hc5_0, hf5_0, hz5_0⟩ := own_stays hb5 (b := w.heap.size) (by simp; omega)
      rcases D4.out with ⟨f1, f2, f3, f4⟩ | ⟨f1, f2⟩
      rw [E1.out] at f4
      have F4 := Lib.hid f4
      clear f4
      go_wp2_with fail
      refine region_qb (fun W => W.cell? ⟨w5.heap.size, 0, none⟩ = some (.int .i64 (hiW (a + -b))) ∧ W.cell? ⟨w5.heap.size, 1, none⟩ = some (.int .u64 (loW (a + -b))) ∧ Below w5.heap.size w5 W) ⟨by go_simp, by go_simp, (by repeat (with_reducible (first | exact Below.refl _ _ | assumption | refine bl_alloc ?_ _ | refine bl_drewN ?_ _ | refine bl_drew ?_ | refine bl_call ?_ (by assumption) | (refine bl_setCell ?_ _ (Nat.le_refl _)) | (refine bl_setCell ?_ _ (by simp)))))⟩ (by kernel_rfl) (by kernel_rfl) ?_
      intro W ⟨k0, k1, hbW⟩
      replace k0 := rcell k0
      replace k1 := rcell k1
      repeat (quiet_step (first | exact Calls.regrown_of (wof_any _ _ In_zero) | exact Calls.regrown_of (wcmp_any _ _ _)))
      refine wpQuiet_nil ?_
      intro w6 hb6'
      have hb6 : Below w5.heap.size w5 w6 := bl_call hbW hb6'
      have F4 := F4.out
    case' inr =>
      go_wp2_with fail
      rw [d1]
      refine (wadd_any _ _ _ ha InW_zero).mono ?_
      rintro e w5 ⟨rfl, hb5⟩
    all_goals
      go_wp2
      go_ret
      exact ⟨ret_b (by first | rfl | (simp; done) | (simp [*]; done)), (by repeat (with_reducible (first | exact Below.refl _ _ | assumption | refine bl_alloc ?_ _ | refine bl_drewN ?_ _ | refine bl_drew ?_ | refine bl_call ?_ (by assumption) | (refine bl_setCell ?_ _ (Nat.le_refl _)) | (refine bl_setCell ?_ _ (by simp)))))⟩
theorem wideOrder_any (h1 l1 h2 l2 : Int) (w : World) (i1 : In h1) (j1 : InU l1) (i2 : In h2) (j2 : InU l2) :
    Calls Try.prog 10 #[.agg #[.int .i64 h1, .int .u64 l1], .agg #[.int .i64 h2, .int .u64 l2]] w fun e w' => e = .returned (.bool true) ∧ Below w.heap.size w w' := by
  obtain ⟨a, ha, rfl, rfl⟩ := wide_of i1 j1
  obtain ⟨b, hb, rfl, rfl⟩ := wide_of i2 j2
  rcases word_cases a b with ⟨_, h1, h2, h3⟩ | ⟨_, h1, h2, h3⟩ | ⟨h3, h1, h2⟩
  · exact wideOrder_core a b _ _ w ha hb h1 h2 (.inl ⟨rfl, rfl, h3⟩)
  · exact wideOrder_core a b _ _ w ha hb h1 h2 (.inr (.inl ⟨rfl, rfl, h3⟩))
  · exact wideOrder_core a b _ _ w ha hb h1 h2 (.inr (.inr ⟨rfl, rfl, h3⟩))
end Go.Proofs.Ytnjjihlknkmllaa
