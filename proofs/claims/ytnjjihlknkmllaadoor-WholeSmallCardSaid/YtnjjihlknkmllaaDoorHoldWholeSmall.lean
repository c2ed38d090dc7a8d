/- Any input: 'quarterdaylaw01.WholeSmall' returns true, and its arguments stay as they were. No conditions. -/
import Derived.Test.YtnjjihlknkmllaaDoorLawWhole3
import Derived.Test.YtnjjihlknkmllaaDoorFrame
import Derived.Test.YtnjjihlknkmllaaDoorFrameD
import Derived.Test.YtnjjihlknkmllaaDoorCards
import Derived.Test.YtnjjihlknkmllaaDoorTie
import Derived.Test.YtnjjihlknkmllaaDoorFrameS
namespace Go.Proofs.YtnjjihlknkmllaaDoor
set_option linter.unusedVariables false
set_option linter.unusedSimpArgs false
open Go.ChangeShapes Go.WideShapes Go.ChangeAt Go.RowKit

set_option maxRecDepth 100000 in
theorem wholeSmall_lifted (os : Os) (started : os.Started) (H : Type) (enc : TypeId × Value → H) :
    ReturnsInHanded {} Tryd.checked os 5 .any (fun w args => (Rows.wholeSmallSpec.pre enc Tryd.prog Tryd.f5 [] false w args ∧ laidMetH Tryd.prog laidD w) ∧ sizedMet enc Tryd.prog Tryd.f5 (OpenSpec.ofChange Rows.wholeSmallSpec) false w args)
      (Rows.wholeSmallSpec.post enc Tryd.prog Tryd.f5 false true false false) := by
  refine returnsInHanded_of_change_and (C := Tryd.checked) (X := fun w _ => laidMetH Tryd.prog laidD w) (fun _ _ _ hh h => h.of_heap hh) own started (by kernel_rfl) Tryd.func5
    (ChangeSpec.witness_shaped (enc := enc) (C := Tryd.checked) (os := os) (X := fun w _ => laidMetH Tryd.prog laidD w) false (World.doorLaid Tryd.prog 400 os) #[.int .i32 0, .int .i32 0] 8 rfl (World.shaped_of_RefB (by kernel_rfl) (by kernel_rfl)) (by kernel_rfl) (by kernel_rfl) (by kernel_rfl) (door_met os _)) ?_
  intro W base args ds gs before hval0 hW _ _ hL _
  have hval : ∀ (j : Nat) t v, Tryd.f5.params[j]? = some t → args[j]? = some v → Value.okWide Tryd.prog W .any base t v := hval0
  have hW' := hW
  obtain ⟨p, q, hA0, hV, rfl, hfz, hnd⟩ := hW
  have hA : DataW.TrodAll enc Tryd.prog W 0 (fun _ => true) true Tryd.f5.params.toList args.toList ds p := hA0
  rw [Tryd.params5] at hA hval
  obtain ⟨v0, vs0, d0, ds0, p0, q0, hargs, rfl, rfl, h0, r0⟩ := trodAll_cons hA
  obtain ⟨v1, vs1, d1, ds1, p1, q1, rfl, rfl, rfl, h1, r1⟩ := trodAll_cons r0
  obtain ⟨rfl, rfl, rfl⟩ := trodAll_nil r1
  obtain rfl : args = #[v0, v1] := by cases args; simp_all
  obtain ⟨rfl, rfl⟩ := trodVars_none hV
  obtain ⟨a0, rfl, rfl, rfl, w0⟩ := open_int Tryd.underlying21 (hval 0 21 v0 rfl rfl) h0
  obtain ⟨a1, rfl, rfl, rfl, w1⟩ := open_int Tryd.underlying21 (hval 1 21 v1 rfl rfl) h1
  clear hA0 hval0
  refine (wholeSmall_any a0 a1 W (In32_of_wf w0) (In32_of_wf w1) (tab_of_laid hL)).mono fun e W' ⟨he, hg⟩ => ?_
  subst he
  exact ⟨_, rfl, law_post laidOut hg (by kernel_rfl) (by kernel_rfl) Tryd.underlying4 rfl rfl hW'⟩
theorem wholeSmall_over : Rows.wholeSmallRow.holds Tryd.pinned (OpenSpec.ofChange Rows.wholeSmallSpec) :=
  OpenClaim.holds_of_wide 5 Tryd.f5 rfl rfl rfl rfl rfl rfl rfl ⟨rfl, rfl, rfl, rfl, rfl⟩ rfl rfl rfl rfl rfl (by kernel_rfl) Tryd.func5 (by kernel_rfl)
    (of_decide_eq_true (by kernel_rfl)) (by unfold Func.isWrapper; first | (rw [if_pos (by decide +kernel)]; kernel_rfl) | (rw [if_neg (by decide +kernel)]; exact ⟨rfl, rfl⟩))
    (fun os started H enc _ => wholeSmall_lifted os started H enc)
theorem wholeSmall_holds : Rows.WholeSmallCardSaid :=
  Claim7.holds_tied_plain_at .later [] [.data] true (true, "5d1468f52d3f38544d781211bb34579b54ae79784723183c942e3999115a302a") false
    wholeSmall_over (fun _ h => by cases h) (by kernel_rfl) (fun _ h => by cases h) wholeSmall_row_tie rfl ⟨rfl, rfl⟩ (by kernel_rfl) rfl
    (fun f fn hf hfn => by
      obtain rfl : 5 = f := Option.some.inj ((show Tryd.prog.funcNamed "quarterday/quarterdaylaw01.WholeSmall" = some 5 by kernel_rfl).symm.trans hf)
      obtain rfl : fn = Tryd.f5 := (Option.some.inj (Tryd.func5.symm.trans hfn)).symm
      exact ⟨by kernel_rfl, stand_of_all (by kernel_rfl)⟩)
    (by kernel_rfl)
end Go.Proofs.YtnjjihlknkmllaaDoor
