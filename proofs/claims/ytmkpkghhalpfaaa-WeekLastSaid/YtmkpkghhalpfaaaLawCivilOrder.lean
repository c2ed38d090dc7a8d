import Derived.Test.YtmkpkghhalpfaaaCivLive
namespace Go.Proofs.Ytmkpkghhalpfaaa
open Go.RowKit
set_option linter.unusedVariables false
theorem dayV_cases (y m d : Int) : (validB y m d = true ∧ dayV y m d = dayNo y m d ∧ dateE (validB y m d) = 0) ∨ (validB y m d = false ∧ dayV y m d = 0 ∧ dateE (validB y m d) = 4) := by
  rcases Bool.eq_false_or_eq_true (validB y m d) with h | h
  · exact .inl ⟨h, by unfold dayV; rw [if_pos h], by rw [h]; rfl⟩
  · exact .inr ⟨h, by unfold dayV; rw [h]; rfl, by rw [h]; rfl⟩
set_option maxHeartbeats 4000000 in
theorem civilOrder_any (y m d z k f : Int) (w : World) (_ : In y) (_ : In m) (_ : In d) (_ : In z) (_ : In k) (_ : In f) :
    Calls Try.prog 5 #[dateA y m d, dateA z k f] w fun e w' => e = .returned (.bool true) ∧ Below w.heap.size w w' := by
  rcases dayV_cases y m d with ⟨v1, h1, e1⟩ | ⟨v1, h1, e1⟩
  case' inr =>
    clear h1 v1
    go_enter Try.func5, Try.ntmps5
    go_wp2_with (first | (go_at_call 17; refine (live5 _).mono ?_; rintro e w1 ⟨rfl, hb1⟩; obtain ⟨hc1_0, hf1_0, hz1_0⟩ := own_stays hb1 (b := w.heap.size) (by first | (simp; done) | (simp; omega) | omega); obtain ⟨hc1_1, hf1_1, hz1_1⟩ := own_stays hb1 (b := w.heap.size + 1) (by first | (simp; done) | (simp; omega) | omega)) | (go_at_call 24; refine (day_any _ _ _ _).mono ?_; rintro e w2 ⟨rfl, hb2⟩; obtain ⟨hc2_0, hf2_0, hz2_0⟩ := own_stays hb2 (b := w.heap.size) (by first | (simp; done) | (simp; omega) | omega); obtain ⟨hc2_1, hf2_1, hz2_1⟩ := own_stays hb2 (b := w.heap.size + 1) (by first | (simp; done) | (simp; omega) | omega)))
    go_ret
    exact ⟨rfl, (by repeat (first | exact Below.refl _ _ | assumption | refine bl_alloc ?_ _ | refine bl_drewN ?_ _ | refine bl_drew ?_ | refine bl_call ?_ (by assumption) | (refine bl_setCell ?_ _ (Nat.le_refl _)) | (refine bl_setCell ?_ _ (by simp))))⟩
  rcases dayV_cases z k f with ⟨v2, h2, e2⟩ | ⟨v2, h2, e2⟩
  case' inr =>
    clear h1 v1 h2 v2
    go_enter Try.func5, Try.ntmps5
    go_wp2_with (first | (go_at_call 17; refine (live5 _).mono ?_; rintro e w1 ⟨rfl, hb1⟩; obtain ⟨hc1_0, hf1_0, hz1_0⟩ := own_stays hb1 (b := w.heap.size) (by first | (simp; done) | (simp; omega) | omega); obtain ⟨hc1_1, hf1_1, hz1_1⟩ := own_stays hb1 (b := w.heap.size + 1) (by first | (simp; done) | (simp; omega) | omega)) | (go_at_call 24; refine (day_any _ _ _ _).mono ?_; rintro e w2 ⟨rfl, hb2⟩; obtain ⟨hc2_0, hf2_0, hz2_0⟩ := own_stays hb2 (b := w.heap.size) (by first | (simp; done) | (simp; omega) | omega); obtain ⟨hc2_1, hf2_1, hz2_1⟩ := own_stays hb2 (b := w.heap.size + 1) (by first | (simp; done) | (simp; omega) | omega)))
    go_ret
    exact ⟨rfl, (by repeat (first | exact Below.refl _ _ | assumption | refine bl_alloc ?_ _ | refine bl_drewN ?_ _ | refine bl_drew ?_ | refine bl_call ?_ (by assumption) | (refine bl_setCell ?_ _ (Nat.le_refl _)) | (refine bl_setCell ?_ _ (by simp))))⟩
  have L1 := Lib.hid (dayNo_lt y m d z k f v1 v2)
  have L2 := Lib.hid (dayNo_lt z k f y m d v2 v1)
  clear v1 v2
  have tri : y < z ∨ (z < y) ∨ (y = z ∧ (m < k ∨ k < m ∨ (m = k ∧ (d < f ∨ f < d ∨ d = f)))) := by omega
  rcases tri with h | h | ⟨rfl, h | h | ⟨rfl, h | h | rfl⟩⟩
  all_goals
    first
      | have hl := L1.out (by omega)
      | have hl := L2.out (by omega)
      | skip
  all_goals
    clear L1 L2
    go_enter Try.func5, Try.ntmps5
    go_wp2_with (first | (go_at_call 17; refine (live5 _).mono ?_; rintro e w1 ⟨rfl, hb1⟩; obtain ⟨hc1_0, hf1_0, hz1_0⟩ := own_stays hb1 (b := w.heap.size) (by first | (simp; done) | (simp; omega) | omega); obtain ⟨hc1_1, hf1_1, hz1_1⟩ := own_stays hb1 (b := w.heap.size + 1) (by first | (simp; done) | (simp; omega) | omega)) | (go_at_call 24; refine (day_any _ _ _ _).mono ?_; rintro e w2 ⟨rfl, hb2⟩; obtain ⟨hc2_0, hf2_0, hz2_0⟩ := own_stays hb2 (b := w.heap.size) (by first | (simp; done) | (simp; omega) | omega); obtain ⟨hc2_1, hf2_1, hz2_1⟩ := own_stays hb2 (b := w.heap.size + 1) (by first | (simp; done) | (simp; omega) | omega)))
    go_ret
    exact ⟨ret_b (by first | rfl | (simp; done) | (simp; omega)), (by repeat (first | exact Below.refl _ _ | assumption | refine bl_alloc ?_ _ | refine bl_drewN ?_ _ | refine bl_drew ?_ | refine bl_call ?_ (by assumption) | (refine bl_setCell ?_ _ (Nat.le_refl _)) | (refine bl_setCell ?_ _ (by simp))))⟩
end Go.Proofs.Ytmkpkghhalpfaaa
