import Derived.Test.YtnjjihlknkmllaaWideD
namespace Go.Proofs.Ytnjjihlknkmllaa
set_option linter.unusedVariables false
set_option linter.unusedSimpArgs false
open Go.RowKit
theorem wide_of {h l : Int} (hh : In h) (hl : InU l) : ∃ x, InW x ∧ h = hiW x ∧ l = loW x := ⟨valW h l, InW_valW hh hl, (hi_valW hl).symm, (lo_valW hl).symm⟩
theorem wback_neg {b : Int} (hb : InW b) : (capW (-b) = -b ∧ errW (-b) = 0 ∧ InW (-b)) ∨ (capW (-b) = 0 ∧ errW (-b) = 2 ∧ hiW b = -9223372036854775808 ∧ loW b = 0) := by
  rcases capW_cases (-b) with ⟨h1, h2, h3, _⟩ | ⟨h1, h2, h3, _⟩
  · exact .inl ⟨h1, h2, h3⟩
  · refine .inr ⟨h1, h2, ?_⟩
    have : b = -170141183460469231731687303715884105728 := by unfold InW at *; omega
    subst this
    decide
set_option maxRecDepth 100000 in
set_option maxHeartbeats 8000000 in
theorem wideBack_core (a b n : Int) (w : World) (ha : InW a) (hb : InW b) (hn : In n) :
    Calls Try.prog 7 #[wideA a, wideA b, .int .i64 n] w fun e w' => e = .returned (.bool true) ∧ Below w.heap.size w w' := by
  have n1 := capN_fit (fitB_of hn)
  have n2 := errN_fit (fitB_of hn)
  have hnw := InW_of_In hn
  have ba : b + a = a + b := Int.add_comm b a
  have aa : a + b + -b = a := by omega
  have BA := Lib.hid ba
  have AA := Lib.hid aa
  clear ba aa
  have HC := capW_cases (a + b)
  have HN := wback_neg hb
  have HC := Lib.hid HC
  have HN := Lib.hid HN
  rcases cap_cases a with ⟨c1, c2, c3⟩ | ⟨c1, c2, c3⟩
  all_goals
    go_enter Try.func7, Try.ntmps7
    go_wp2_with fail
    refine (live2 _).mono ?_
    rintro e w1 ⟨rfl, hb1⟩
    obtain ⟨hc1_0, hf1_0, hz1_0⟩ := own_stays hb1 (b := w.heap.size) (by first | (simp; done) | (simp; omega) | omega)
    obtain ⟨hc1_1, hf1_1, hz1_1⟩ := own_stays hb1 (b := w.heap.size + 1) (by first | (simp; done) | (simp; omega) | omega)
    go_wp2_with fail
    refine (wof_any _ _ hn).mono ?_
    rintro e w2 ⟨rfl, hb2⟩
    obtain ⟨hc2_0, hf2_0, hz2_0⟩ := own_stays hb2 (b := w.heap.size) (by first | (simp; done) | (simp; omega) | omega)
    obtain ⟨hc2_1, hf2_1, hz2_1⟩ := own_stays hb2 (b := w.heap.size + 1) (by first | (simp; done) | (simp; omega) | omega)
    go_wp2_with fail
    refine (wfit_any _ _ hnw).mono ?_
    rintro e w3 ⟨rfl, hb3⟩
    obtain ⟨hc3_0, hf3_0, hz3_0⟩ := own_stays hb3 (b := w.heap.size) (by first | (simp; done) | (simp; omega) | omega)
    obtain ⟨hc3_1, hf3_1, hz3_1⟩ := own_stays hb3 (b := w.heap.size + 1) (by first | (simp; done) | (simp; omega) | omega)
    go_wp2_with fail
    refine (wfit_any _ _ ha).mono ?_
    rintro e w4 ⟨rfl, hb4⟩
    obtain ⟨hc4_0, hf4_0, hz4_0⟩ := own_stays hb4 (b := w.heap.size) (by first | (simp; done) | (simp; omega) | omega)
    obtain ⟨hc4_1, hf4_1, hz4_1⟩ := own_stays hb4 (b := w.heap.size + 1) (by first | (simp; done) | (simp; omega) | omega)
    go_wp2_with fail
    refine region_qb (fun W => W.cell? ⟨w.heap.size, 0, none⟩ = some (.int .i64 (hiW a)) ∧ W.cell? ⟨w.heap.size, 1, none⟩ = some (.int .u64 (loW a)) ∧ Below w4.heap.size w4 W) ⟨by go_simp, by go_simp, (by repeat (with_reducible (first | exact Below.refl _ _ | assumption | refine bl_alloc ?_ _ | refine bl_drewN ?_ _ | refine bl_drew ?_ | refine bl_call ?_ (by assumption) | (refine bl_setCell ?_ _ (Nat.le_refl _)) | (refine bl_setCell ?_ _ (by simp)))))⟩ (by kernel_rfl) (by kernel_rfl) ?_
    intro W ⟨k0, k1, hbW⟩
    replace k0 := rcell k0
    replace k1 := rcell k1
    repeat (quiet_step (first | exact Calls.regrown_of (wof_any _ _ (by assumption))))
    refine wpQuiet_nil ?_
    intro w5 hb5'
    have hb5 : Below w4.heap.size w4 w5 := bl_call hbW hb5'
    obtain ⟨hc5_0, hf5_0, hz5_0⟩ := own_stays hb5 (b := w.heap.size) (by omega)
    obtain ⟨hc5_1, hf5_1, hz5_1⟩ := own_stays hb5 (b := w.heap.size + 1) (by omega)
    clear k0 k1 hb5' hbW
    go_wp2_with fail
    refine (wadd_any _ _ _ ha hb).mono ?_
    rintro e w6 ⟨rfl, hb6⟩
    obtain ⟨hc6_0, hf6_0, hz6_0⟩ := own_stays hb6 (b := w.heap.size) (by omega)
    obtain ⟨hc6_1, hf6_1, hz6_1⟩ := own_stays hb6 (b := w.heap.size + 1) (by omega)
    go_wp2_with fail
    refine (wadd_any _ _ _ hb ha).mono ?_
    rw [BA.out]
    rintro e w7 ⟨rfl, hb7⟩
    obtain ⟨hc7_0, hf7_0, hz7_0⟩ := own_stays hb7 (b := w.heap.size) (by simp; omega)
    obtain ⟨hc7_1, hf7_1, hz7_1⟩ := own_stays hb7 (b := w.heap.size + 1) (by simp; omega)
    obtain ⟨hc7_2, hf7_2, hz7_2⟩ := own_stays hb7 (b := w6.heap.size) (by simp)
    go_wp2_with fail
    refine (wneg_any _ _ hb).mono ?_
    rintro e w8 ⟨rfl, hb8⟩
    obtain ⟨hc8_0, hf8_0, hz8_0⟩ := own_stays hb8 (b := w.heap.size) (by simp; omega)
    obtain ⟨hc8_1, hf8_1, hz8_1⟩ := own_stays hb8 (b := w.heap.size + 1) (by simp; omega)
    obtain ⟨hc8_2, hf8_2, hz8_2⟩ := own_stays hb8 (b := w6.heap.size) (by simp; omega)
    obtain ⟨hc8_3, hf8_3, hz8_3⟩ := own_stays hb8 (b := w7.heap.size) (by simp)
    rcases HC.out with ⟨d1, d2, d3, _⟩ | ⟨d1, d2, d3, _⟩
    all_goals
      rcases HN.out with ⟨e1, e2, e3⟩ | ⟨e1, e2, e3, e4⟩
    case' inl.inl =>
      go_wp2_with fail
      refine (wadd_any _ _ _ d3 e3).mono ?_
      rw [AA.out, (capW_of ha).1, (capW_of ha).2]
      rintro e w9 ⟨rfl, hb9⟩
      obtain ⟨hc9_0, hf9_0, hz9_0⟩ := own_stays hb9 (b := w.heap.size) (by simp; omega)
    all_goals
      go_wp2
      go_ret
      exact ⟨ret_b (by first | rfl | (simp; done)), (by repeat (with_reducible (first | exact Below.refl _ _ | assumption | refine bl_alloc ?_ _ | refine bl_drewN ?_ _ | refine bl_drew ?_ | refine bl_call ?_ (by assumption) | (refine bl_setCell ?_ _ (Nat.le_refl _)) | (refine bl_setCell ?_ _ (by simp)))))⟩
theorem wideBack_any (h1 l1 h2 l2 n : Int) (w : World) (i1 : In h1) (j1 : InU l1) (i2 : In h2) (j2 : InU l2) (hn : In n) :
    Calls Try.prog 7 #[.agg #[.int .i64 h1, .int .u64 l1], .agg #[.int .i64 h2, .int .u64 l2], .int .i64 n] w fun e w' => e = .returned (.bool true) ∧ Below w.heap.size w w' := by
  obtain ⟨a, ha, rfl, rfl⟩ := wide_of i1 j1
  obtain ⟨b, hb, rfl, rfl⟩ := wide_of i2 j2
  exact wideBack_core a b n w ha hb hn
end Go.Proofs.Ytnjjihlknkmllaa
