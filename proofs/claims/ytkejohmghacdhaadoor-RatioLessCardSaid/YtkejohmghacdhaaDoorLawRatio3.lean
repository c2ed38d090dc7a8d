import Derived.Test.YtkejohmghacdhaaDoorRatD
namespace Go.Proofs.YtkejohmghacdhaaDoor
set_option linter.unusedVariables false
set_option linter.unusedSimpArgs false
open Go.RowKit
theorem ck_one (q : Int) : ckB q 1 = true := decide_eq_true ⟨by decide, by unfold gN; simp⟩
theorem In_mk {n d : Int} (hn : In n) (hd : In d) : In (mkN n d) ∧ In (mkD n d) := by
  rcases mk_cases n d with ⟨_, e1, e2, _⟩ | ⟨h0, ok, e1, e2, _⟩ | ⟨_, _, e1, e2, _⟩
  · rw [e1, e2]; exact ⟨⟨by decide, by decide⟩, ⟨by decide, by decide⟩⟩
  · obtain ⟨_, k1, k2⟩ := of_decide_eq_true ok
    have bx := mX_bd h0 hn
    rw [e1, e2]
    unfold In
    refine ⟨?_, by omega⟩
    rcases k2 with k2 | k2
    · unfold sgn; split <;> omega
    · rw [k2, sgn_true]; omega
  · rw [e1, e2]; exact ⟨⟨by decide, by decide⟩, ⟨by decide, by decide⟩⟩
theorem mk_over {n d : Int} (hn : In n) (hd : In d) (h0 : d ≠ 0) (h : mkOk n d = false) : n = -9223372036854775808 ∨ d = -9223372036854775808 := by
  have k := of_decide_eq_false h
  have x : mX n d ≤ n.natAbs := Nat.div_le_self _ _
  have y : mY n d ≤ d.natAbs := Nat.div_le_self _ _
  unfold In at hn hd
  apply Classical.byContradiction
  intro hc
  exact k ⟨h0, by omega, .inl (by omega)⟩
set_option maxRecDepth 100000 in
set_option maxHeartbeats 2000000 in
theorem live3 (w : World) : Calls Tryd.prog 8 #[] w fun e w' => e = .returned (.bool true) ∧ Below w.heap.size w w' := by
  have M := fun w => rat_make 6 (-4) w ⟨by decide, by decide⟩ ⟨by decide, by decide⟩
  rw [show mkN 6 (-4) = -3 by decide +kernel, show mkD 6 (-4) = 2 by decide +kernel, show mkE 6 (-4) = 0 by decide +kernel] at M
  have F := fun w => rat_floor (-3) 2 w ⟨by decide, by decide⟩ ⟨by decide, by decide⟩
  have C := fun w => rat_ceil (-3) 2 w ⟨by decide, by decide⟩ ⟨by decide, by decide⟩
  rw [show ckR (-3) 2 = 0 by decide +kernel] at F C
  rw [show flV (-3) 2 = -2 by decide +kernel] at F
  rw [show clV (-3) 2 = -1 by decide +kernel] at C
  have M := Lib.hid M
  have F := Lib.hid F
  have C := Lib.hid C
  go_enter Tryd.func8, Tryd.ntmps8
  go_wp2_with fail
  refine (M.out _).mono ?_
  rintro e w1 ⟨rfl, hb1⟩
  go_wp2_with fail
  refine (F.out _).mono ?_
  rintro e w2 ⟨rfl, hb2⟩
  obtain ⟨hc2, hf2, hz2⟩ := own_stays hb2 (b := w1.heap.size) (by go_simp)
  go_wp2_with fail
  refine (C.out _).mono ?_
  rintro e w3 ⟨rfl, hb3⟩
  obtain ⟨hc3, hf3, hz3⟩ := own_stays hb3 (b := w1.heap.size) hz2
  go_wp2
  go_ret
  exact ⟨ret_b (by first | rfl | (simp; done)), (by repeat (with_reducible (first | exact Below.refl _ _ | assumption | refine bl_alloc ?_ _ | refine bl_drewN ?_ _ | refine bl_drew ?_ | refine bl_call ?_ (by assumption) | (refine bl_setCell ?_ _ (Nat.le_refl _)) | (refine bl_setCell ?_ _ (by first | omega | (simp; done) | (simp; omega))))))⟩
end Go.Proofs.YtkejohmghacdhaaDoor
