import Derived.Test.YtmkpkghhalpfaaaWeekE
import Derived.Test.YtmkpkghhalpfaaaMathG
namespace Go.Proofs.Ytmkpkghhalpfaaa
open Go.RowKit
set_option linter.unusedVariables false
set_option maxRecDepth 100000 in
set_option maxHeartbeats 4000000 in
theorem weekYears_any (y m d : Int) (w : World) (_ : In y) (_ : In m) (_ : In d) :
    Calls Try.prog 16 #[.int .i64 y, .int .i64 m, .int .i64 d] w fun e w' => e = .returned (.bool true) ∧ Below w.heap.size w w' := by
  by_cases y1 : y < 1600
  · go_enter Try.func16, Try.ntmps16
    go_wp2_with fail
    refine (live6 _).mono ?_
    rintro e w1 ⟨rfl, hb1⟩
    go_wp2_with fail
    go_ret
    exact ⟨ret_b (by first | rfl | (simp; done)), (by repeat (with_reducible (first | exact Below.refl _ _ | assumption | refine bl_alloc ?_ _ | refine bl_drewN ?_ _ | refine bl_drew ?_ | refine bl_call ?_ (by assumption) | (refine bl_setCell ?_ _ (Nat.le_refl _)) | (refine bl_setCell ?_ _ (by simp)))))⟩
  by_cases y2 : 9998 < y
  · go_enter Try.func16, Try.ntmps16
    go_wp2_with fail
    refine (live6 _).mono ?_
    rintro e w1 ⟨rfl, hb1⟩
    go_wp2_with fail
    go_ret
    exact ⟨ret_b (by first | rfl | (simp; done)), (by repeat (with_reducible (first | exact Below.refl _ _ | assumption | refine bl_alloc ?_ _ | refine bl_drewN ?_ _ | refine bl_drew ?_ | refine bl_call ?_ (by assumption) | (refine bl_setCell ?_ _ (Nat.le_refl _)) | (refine bl_setCell ?_ _ (by simp)))))⟩
  have z1 : 1600 ≤ y := by omega
  have z2 : y ≤ 9998 := by omega
  clear y1 y2
  have wn := wkE_next y m d z1 z2
  by_cases e : wkE y m d = 0
  · obtain ⟨h1, h2, h3⟩ := years_apart y m d z1 z2 e
    obtain ⟨_, _, _, a1, _, _, _, _, _, _, a8, a9, a10, a11, a12⟩ := last_facts y m d e
    obtain ⟨_, _, _, b1, _, _, _, _, _, _, b8, b9, b10, b11, b12⟩ := last_facts (y + 1) m d (by rw [wn, e])
    have la : 0 - 10 ≤ lastV y m d ∧ lastV y m d ≤ 3068040 := by omega
    have lb : 0 - 10 ≤ lastV (y + 1) m d ∧ lastV (y + 1) m d ≤ 3068040 := by omega
    have na : 0 - 10 ≤ nearV y m d ∧ nearV y m d ≤ 3068050 := by rcases a12 with a12 | a12 <;> omega
    have nb : nearE (y + 1) m d = 0 → 0 - 10 ≤ nearV (y + 1) m d ∧ nearV (y + 1) m d ≤ 3068050 := by intro hh; rcases b12 with b12 | b12 <;> omega
    rw [e] at wn
    clear a1 a8 a9 a10 a11 a12 b1 b8 b9 b10 b11 b12
    rcases h3 with ⟨g1, g2⟩ | ⟨g1, g2⟩
    · clear nb
      have g3 : (y == 9998) = true := by rw [beq_iff_eq]; exact g2
      clear g2
      rcases h1 with h1 | h1
      all_goals
        go_enter Try.func16, Try.ntmps16
        go_wp2_with fail
        refine (live6 _).mono ?_
        rintro e w1 ⟨rfl, hb1⟩
        go_wp2_with fail
        refine (last_any _ _ _ _).mono ?_
        rintro e w2 ⟨rfl, hb2⟩
        go_wp2_with fail
        refine (last_any _ _ _ _).mono ?_
        rintro e w3 ⟨rfl, hb3⟩
        go_wp2_with fail
        refine (near_any _ _ _ _).mono ?_
        rintro e w4 ⟨rfl, hb4⟩
        go_wp2_with fail
        refine (near_any _ _ _ _).mono ?_
        rintro e w5 ⟨rfl, hb5⟩
        go_wp2_with fail
        go_ret
        exact ⟨ret_b (by first | rfl | (simp; done) | (simp; omega)), (by repeat (with_reducible (first | exact Below.refl _ _ | assumption | refine bl_alloc ?_ _ | refine bl_drewN ?_ _ | refine bl_drew ?_ | refine bl_call ?_ (by assumption) | (refine bl_setCell ?_ _ (Nat.le_refl _)) | (refine bl_setCell ?_ _ (by simp)))))⟩
    · have nb := nb g1
      rcases h1 with h1 | h1
      all_goals
        rcases g2 with g2 | g2
        all_goals
          go_enter Try.func16, Try.ntmps16
          go_wp2_with fail
          refine (live6 _).mono ?_
          rintro e w1 ⟨rfl, hb1⟩
          go_wp2_with fail
          refine (last_any _ _ _ _).mono ?_
          rintro e w2 ⟨rfl, hb2⟩
          go_wp2_with fail
          refine (last_any _ _ _ _).mono ?_
          rintro e w3 ⟨rfl, hb3⟩
          go_wp2_with fail
          refine (near_any _ _ _ _).mono ?_
          rintro e w4 ⟨rfl, hb4⟩
          go_wp2_with fail
          refine (near_any _ _ _ _).mono ?_
          rintro e w5 ⟨rfl, hb5⟩
          go_wp2_with fail
          go_ret
          exact ⟨ret_b (by first | rfl | (simp; done) | (simp; omega)), (by repeat (with_reducible (first | exact Below.refl _ _ | assumption | refine bl_alloc ?_ _ | refine bl_drewN ?_ _ | refine bl_drew ?_ | refine bl_call ?_ (by assumption) | (refine bl_setCell ?_ _ (Nat.le_refl _)) | (refine bl_setCell ?_ _ (by simp)))))⟩
  · have e' : (wkE y m d == 0) = false := by simpa using e
    have e2 : (wkE y m d != 0) = true := by simpa using e
    go_enter Try.func16, Try.ntmps16
    go_wp2_with fail
    refine (live6 _).mono ?_
    rintro e w1 ⟨rfl, hb1⟩
    go_wp2_with fail
    refine (last_any _ _ _ _).mono ?_
    rintro e w2 ⟨rfl, hb2⟩
    go_wp2_with fail
    refine (last_any _ _ _ _).mono ?_
    rintro e w3 ⟨rfl, hb3⟩
    go_wp2_with fail
    refine (near_any _ _ _ _).mono ?_
    rintro e w4 ⟨rfl, hb4⟩
    go_wp2_with fail
    refine (near_any _ _ _ _).mono ?_
    rintro e w5 ⟨rfl, hb5⟩
    go_wp2_with fail
    go_ret
    exact ⟨ret_b (by first | rfl | (simp; done) | (simp; omega)), (by repeat (with_reducible (first | exact Below.refl _ _ | assumption | refine bl_alloc ?_ _ | refine bl_drewN ?_ _ | refine bl_drew ?_ | refine bl_call ?_ (by assumption) | (refine bl_setCell ?_ _ (Nat.le_refl _)) | (refine bl_setCell ?_ _ (by simp)))))⟩
end Go.Proofs.Ytmkpkghhalpfaaa
