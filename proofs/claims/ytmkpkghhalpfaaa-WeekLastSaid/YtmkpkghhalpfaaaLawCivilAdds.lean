import Derived.Test.YtmkpkghhalpfaaaCivLive
namespace Go.Proofs.Ytmkpkghhalpfaaa
open Go.RowKit
set_option linter.unusedVariables false
theorem adds_cases (n k : Int) : (addOk n k = true ∧ addI n k = n + k ∧ dateE (addOk n k) = 0 ∧ 0 ≤ n ∧ n < 3068037 ∧ -n ≤ k ∧ k < 3068037 - n) ∨ (addI n k = 0 ∧ dateE (addOk n k) = 4) := by
  rcases Bool.eq_false_or_eq_true (addOk n k) with h | h
  · refine .inl ⟨h, by unfold addI; rw [if_pos h], by rw [h]; rfl, ?_⟩
    unfold addOk at h; simpa using h
  · exact .inr ⟨by unfold addI; rw [h]; rfl, by rw [h]; rfl⟩
theorem addOk_of {n k : Int} (h : 0 ≤ n ∧ n < 3068037 ∧ -n ≤ k ∧ k < 3068037 - n) : addI n k = n + k ∧ dateE (addOk n k) = 0 := by
  have h' : addOk n k = true := by unfold addOk; simpa using h
  exact ⟨by unfold addI; rw [if_pos h'], by rw [h']; rfl⟩
set_option maxHeartbeats 1000000 in
theorem civilAdds_any (n k m : Int) (w : World) (hn : In n) (hk : In k) (hm : In m) :
    Calls Try.prog 6 #[.int .i64 n, .int .i64 k, .int .i64 m] w fun e w' => e = .returned (.bool true) ∧ Below w.heap.size w w' := by
  rcases adds_cases n k with ⟨_, h1, h2, b1, b2, b3, b4⟩ | ⟨h1, h2⟩
  · have h3 := addOk_of (n := n + k) (k := -k) (by omega)
    rw [show n + k + -k = n by omega] at h3
    obtain ⟨h3, h4⟩ := h3
    have IK : In (-k) := by unfold In at *; omega
    rcases adds_cases (n + k) m with ⟨_, h5, h6, c1, c2, c3, c4⟩ | ⟨h5, h6⟩
    · have h7 := addOk_of (n := n) (k := k + m) (by omega)
      rw [show n + (k + m) = n + k + m by omega] at h7
      obtain ⟨h7, h8⟩ := h7
      have IM : In (k + m) := by unfold In at *; omega
      go_enter Try.func6, Try.ntmps6
      go_wp2_with (first | (go_at_call 17; refine (live5 _).mono ?_; rintro e w1 ⟨rfl, hb1⟩) | (go_at_call 26; refine (add_any _ _ _ (by assumption)).mono ?_; rintro e w' ⟨rfl, rfl⟩))
      go_ret
      exact ⟨rfl, (by repeat (with_reducible (first | exact Below.refl _ _ | assumption | refine bl_alloc ?_ _ | refine bl_drewN ?_ _ | refine bl_drew ?_ | refine bl_call ?_ (by assumption) | (refine bl_setCell ?_ _ (Nat.le_refl _)) | (refine bl_setCell ?_ _ (by simp)))))⟩
    · go_enter Try.func6, Try.ntmps6
      go_wp2_with (first | (go_at_call 17; refine (live5 _).mono ?_; rintro e w1 ⟨rfl, hb1⟩) | (go_at_call 26; refine (add_any _ _ _ (by assumption)).mono ?_; rintro e w' ⟨rfl, rfl⟩))
      go_ret
      exact ⟨rfl, (by repeat (with_reducible (first | exact Below.refl _ _ | assumption | refine bl_alloc ?_ _ | refine bl_drewN ?_ _ | refine bl_drew ?_ | refine bl_call ?_ (by assumption) | (refine bl_setCell ?_ _ (Nat.le_refl _)) | (refine bl_setCell ?_ _ (by simp)))))⟩
  · go_enter Try.func6, Try.ntmps6
    go_wp2_with (first | (go_at_call 17; refine (live5 _).mono ?_; rintro e w1 ⟨rfl, hb1⟩) | (go_at_call 26; refine (add_any _ _ _ (by assumption)).mono ?_; rintro e w' ⟨rfl, rfl⟩))
    go_ret
    exact ⟨rfl, (by repeat (with_reducible (first | exact Below.refl _ _ | assumption | refine bl_alloc ?_ _ | refine bl_drewN ?_ _ | refine bl_drew ?_ | refine bl_call ?_ (by assumption) | (refine bl_setCell ?_ _ (Nat.le_refl _)) | (refine bl_setCell ?_ _ (by simp)))))⟩
end Go.Proofs.Ytmkpkghhalpfaaa
