import Derived.Test.YtmkpkghhalpfaaaRefE
namespace Go.Proofs.Ytmkpkghhalpfaaa
open Go.RowKit
set_option linter.unusedVariables false
set_option maxRecDepth 100000 in
set_option maxHeartbeats 4000000 in
theorem civilDoes_any (y m d n k : Int) (w : World) (_ : In y) (_ : In m) (_ : In d) (_ : In n) (hk : In k) :
    Calls Try.prog 8 #[dateA y m d, .int .i64 n, .int .i64 k] w fun e w' => e = .returned (.bool true) ∧ Below w.heap.size w w' := by
  go_enter Try.func8, Try.ntmps8
  go_wp2_with (first | (go_at_call 25; refine (weekday_any _ _).mono ?_; rintro e w' ⟨rfl, rfl⟩) | (go_at_call 26; refine (add_any _ _ _ hk).mono ?_; rintro e w' ⟨rfl, rfl⟩) | (go_at_call 31; refine (radd_any _ _ _ hk).mono ?_; rintro e w' ⟨rfl, rfl⟩))
  refine (live5 _).mono ?_
  rintro e w1 ⟨rfl, hb1⟩
  obtain ⟨hc1_0, hf1_0, hz1_0⟩ := own_stays hb1 (b := w.heap.size) (by first | (simp; done) | (simp; omega) | omega)
  go_wp2_with (first | (go_at_call 25; refine (weekday_any _ _).mono ?_; rintro e w' ⟨rfl, rfl⟩) | (go_at_call 26; refine (add_any _ _ _ hk).mono ?_; rintro e w' ⟨rfl, rfl⟩) | (go_at_call 31; refine (radd_any _ _ _ hk).mono ?_; rintro e w' ⟨rfl, rfl⟩))
  refine (day_any _ _ _ _).mono ?_
  rintro e w2 ⟨rfl, hb2⟩
  obtain ⟨hc2_0, hf2_0, hz2_0⟩ := own_stays hb2 (b := w.heap.size) (by first | (simp; done) | (simp; omega) | omega)
  go_wp2_with (first | (go_at_call 25; refine (weekday_any _ _).mono ?_; rintro e w' ⟨rfl, rfl⟩) | (go_at_call 26; refine (add_any _ _ _ hk).mono ?_; rintro e w' ⟨rfl, rfl⟩) | (go_at_call 31; refine (radd_any _ _ _ hk).mono ?_; rintro e w' ⟨rfl, rfl⟩))
  refine (rday_any _ _ _ _).mono ?_
  rintro e w3 ⟨rfl, hb3⟩
  obtain ⟨hc3_0, hf3_0, hz3_0⟩ := own_stays hb3 (b := w.heap.size) (by first | (simp; done) | (simp; omega) | omega)
  go_wp2_with (first | (go_at_call 25; refine (weekday_any _ _).mono ?_; rintro e w' ⟨rfl, rfl⟩) | (go_at_call 26; refine (add_any _ _ _ hk).mono ?_; rintro e w' ⟨rfl, rfl⟩) | (go_at_call 31; refine (radd_any _ _ _ hk).mono ?_; rintro e w' ⟨rfl, rfl⟩))
  refine (of_any _ _).mono ?_
  rintro e w4 ⟨rfl, hb4⟩
  obtain ⟨hc4_0, hf4_0, hz4_0⟩ := own_stays hb4 (b := w.heap.size) (by first | (simp; done) | (simp; omega) | omega)
  go_wp2_with (first | (go_at_call 25; refine (weekday_any _ _).mono ?_; rintro e w' ⟨rfl, rfl⟩) | (go_at_call 26; refine (add_any _ _ _ hk).mono ?_; rintro e w' ⟨rfl, rfl⟩) | (go_at_call 31; refine (radd_any _ _ _ hk).mono ?_; rintro e w' ⟨rfl, rfl⟩))
  refine (rof_any _ _).mono ?_
  rintro e w5 ⟨rfl, hb5⟩
  obtain ⟨hc5_0, hf5_0, hz5_0⟩ := own_stays hb5 (b := w.heap.size) (by first | (simp; done) | (simp; omega) | omega)
  obtain ⟨hc5_1, hf5_1, hz5_1⟩ := own_stays hb5 (b := w4.heap.size) (by first | (simp; done) | (simp; omega) | omega)
  go_wp2_with (first | (go_at_call 25; refine (weekday_any _ _).mono ?_; rintro e w' ⟨rfl, rfl⟩) | (go_at_call 26; refine (add_any _ _ _ hk).mono ?_; rintro e w' ⟨rfl, rfl⟩) | (go_at_call 31; refine (radd_any _ _ _ hk).mono ?_; rintro e w' ⟨rfl, rfl⟩))
  refine (rweekday_any _ _).mono ?_
  rintro e w6 ⟨rfl, hb6⟩
  obtain ⟨hc6_0, hf6_0, hz6_0⟩ := own_stays hb6 (b := w.heap.size) (by first | (simp; done) | (simp; omega) | omega)
  obtain ⟨hc6_1, hf6_1, hz6_1⟩ := own_stays hb6 (b := w4.heap.size) (by first | (simp; done) | (simp; omega) | omega)
  obtain ⟨hc6_2, hf6_2, hz6_2⟩ := own_stays hb6 (b := w5.heap.size) (by first | (simp; done) | (simp; omega) | omega)
  go_wp2_with (first | (go_at_call 25; refine (weekday_any _ _).mono ?_; rintro e w' ⟨rfl, rfl⟩) | (go_at_call 26; refine (add_any _ _ _ hk).mono ?_; rintro e w' ⟨rfl, rfl⟩) | (go_at_call 31; refine (radd_any _ _ _ hk).mono ?_; rintro e w' ⟨rfl, rfl⟩))
  go_ret
  exact ⟨ret_b (by first | rfl | (simp; done)), (by repeat (with_reducible (first | exact Below.refl _ _ | assumption | refine bl_alloc ?_ _ | refine bl_drewN ?_ _ | refine bl_drew ?_ | refine bl_call ?_ (by assumption) | (refine bl_setCell ?_ _ (Nat.le_refl _)) | (refine bl_setCell ?_ _ (by simp)))))⟩
end Go.Proofs.Ytmkpkghhalpfaaa
