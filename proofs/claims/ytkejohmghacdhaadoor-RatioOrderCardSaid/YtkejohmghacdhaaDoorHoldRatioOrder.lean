/- Any input: 'quarterdaylaw03.RatioOrder' returns true, and its arguments stay as they were. No conditions. -/
import Derived.Test.YtkejohmghacdhaaDoorLawRatioOrder
import Derived.Test.YtkejohmghacdhaaDoorFrame
import Derived.Test.YtkejohmghacdhaaDoorFrameD
import Derived.Test.YtkejohmghacdhaaDoorCards
import Derived.Test.YtkejohmghacdhaaDoorTie
namespace Go.Proofs.YtkejohmghacdhaaDoor
set_option linter.unusedVariables false
set_option linter.unusedSimpArgs false
open Go.ChangeShapes Go.WideShapes Go.ChangeAt Go.RowKit
theorem cells_ratioOrder0 : Tryd.prog.cellsOf 23 = 2 := by kernel_rfl
theorem cells_ratioOrder1 : Tryd.prog.cellsOf 23 = 2 := by kernel_rfl
theorem cells_ratioOrder2 : Tryd.prog.cellsOf 23 = 2 := by kernel_rfl
set_option maxRecDepth 100000 in
theorem ratioOrder_lifted (os : Os) (started : os.Started) (H : Type) (enc : TypeId × Value → H) :
    ReturnsInHanded {} Tryd.checked os 3 .any (fun w args => (Rows.ratioOrderSpec.pre enc Tryd.prog Tryd.f3 [] false w args ∧ laidMetH Tryd.prog laidD w) ∧ sizedMet enc Tryd.prog Tryd.f3 (OpenSpec.ofChange Rows.ratioOrderSpec) false w args)
      (Rows.ratioOrderSpec.post enc Tryd.prog Tryd.f3 false true false false) := by
  refine returnsInHanded_of_change_and (C := Tryd.checked) (X := fun w _ => laidMetH Tryd.prog laidD w) (fun _ _ _ hh h => h.of_heap hh) own started (by kernel_rfl) Tryd.func3
    (ChangeSpec.witness_shaped (enc := enc) (C := Tryd.checked) (os := os) (X := fun w _ => laidMetH Tryd.prog laidD w) false (World.doorLaid Tryd.prog 400 os) #[.agg #[.int .i64 0, .int .i64 0], .agg #[.int .i64 0, .int .i64 0], .agg #[.int .i64 0, .int .i64 0]] 8 rfl (World.shaped_of_RefB (by kernel_rfl) (by kernel_rfl)) (by kernel_rfl) (by kernel_rfl) (by kernel_rfl) (door_met os _)) ?_
  intro W base args ds gs before hval0 hW _ _ hL _
  have hval : ∀ (j : Nat) t v, Tryd.f3.params[j]? = some t → args[j]? = some v → Value.okWide Tryd.prog W .any base t v := hval0
  have hW' := hW
  obtain ⟨p, q, hA0, hV, rfl, hfz, hnd⟩ := hW
  have hA : DataW.TrodAll enc Tryd.prog W 0 (fun _ => true) true Tryd.f3.params.toList args.toList ds p := hA0
  rw [Tryd.params3] at hA hval
  obtain ⟨v0, vs0, d0, ds0, p0, q0, hargs, rfl, rfl, h0, r0⟩ := trodAll_cons hA
  obtain ⟨v1, vs1, d1, ds1, p1, q1, rfl, rfl, rfl, h1, r1⟩ := trodAll_cons r0
  obtain ⟨v2, vs2, d2, ds2, p2, q2, rfl, rfl, rfl, h2, r2⟩ := trodAll_cons r1
  obtain ⟨rfl, rfl, rfl⟩ := trodAll_nil r2
  obtain rfl : args = #[v0, v1, v2] := by cases args; simp_all
  obtain ⟨rfl, rfl⟩ := trodVars_none hV
  obtain ⟨c00, c01, y00, y01, m0, rfl, rfl, rfl, hy00, hy01⟩ := Go.Joins.open_agg2 Tryd.underlying23 (by kernel_rfl) cells_ratioOrder0 (hval 0 23 v0 rfl rfl) h0
  obtain ⟨a00, e00, rfl, w00⟩ := DataW.trod_int Tryd.underlying2 hy00
  simp only [List.cons.injEq, and_true] at e00; subst e00
  obtain ⟨a01, e01, rfl, w01⟩ := DataW.trod_int Tryd.underlying2 hy01
  simp only [List.cons.injEq, and_true] at e01; subst e01
  obtain ⟨c10, c11, y10, y11, m1, rfl, rfl, rfl, hy10, hy11⟩ := Go.Joins.open_agg2 Tryd.underlying23 (by kernel_rfl) cells_ratioOrder1 (hval 1 23 v1 rfl rfl) h1
  obtain ⟨a10, e10, rfl, w10⟩ := DataW.trod_int Tryd.underlying2 hy10
  simp only [List.cons.injEq, and_true] at e10; subst e10
  obtain ⟨a11, e11, rfl, w11⟩ := DataW.trod_int Tryd.underlying2 hy11
  simp only [List.cons.injEq, and_true] at e11; subst e11
  obtain ⟨c20, c21, y20, y21, m2, rfl, rfl, rfl, hy20, hy21⟩ := Go.Joins.open_agg2 Tryd.underlying23 (by kernel_rfl) cells_ratioOrder2 (hval 2 23 v2 rfl rfl) h2
  obtain ⟨a20, e20, rfl, w20⟩ := DataW.trod_int Tryd.underlying2 hy20
  simp only [List.cons.injEq, and_true] at e20; subst e20
  obtain ⟨a21, e21, rfl, w21⟩ := DataW.trod_int Tryd.underlying2 hy21
  simp only [List.cons.injEq, and_true] at e21; subst e21
  clear hA0 hval0
  refine (ratioOrder_any a00 a01 a10 a11 a20 a21 W (In_of_wf w00) (In_of_wf w01) (In_of_wf w10) (In_of_wf w11) (In_of_wf w20) (In_of_wf w21) (tab_of_laid hL)).mono fun e W' ⟨he, hg⟩ => ?_
  subst he
  exact ⟨_, rfl, law_post laidOut hg (by kernel_rfl) (by kernel_rfl) Tryd.underlying4 rfl rfl hW'⟩
theorem ratioOrder_over : Rows.ratioOrderRow.holds Tryd.pinned (OpenSpec.ofChange Rows.ratioOrderSpec) :=
  OpenClaim.holds_of_wide 3 Tryd.f3 rfl rfl rfl rfl rfl rfl rfl ⟨rfl, rfl, rfl, rfl, rfl⟩ rfl rfl rfl rfl rfl (by kernel_rfl) Tryd.func3 (by kernel_rfl)
    (of_decide_eq_true (by kernel_rfl)) (by unfold Func.isWrapper; first | (rw [if_pos (by decide +kernel)]; kernel_rfl) | (rw [if_neg (by decide +kernel)]; exact ⟨rfl, rfl⟩))
    (fun os started H enc _ => ratioOrder_lifted os started H enc)
theorem ratioOrder_holds : Rows.RatioOrderCardSaid :=
  Claim7.holds_tied_plain_at .later [] [.data] true (true, "b4d12f6b7d7a0804626657869ad9cff5ca96b3739b6e3f026bdec01d2de90865") false
    ratioOrder_over (fun _ h => by cases h) (by kernel_rfl) (fun _ h => by cases h) ratioOrder_row_tie rfl ⟨rfl, rfl⟩ (by kernel_rfl) rfl
    (fun f fn hf hfn => by
      obtain rfl : 3 = f := Option.some.inj ((show Tryd.prog.funcNamed "quarterday/quarterdaylaw03.RatioOrder" = some 3 by kernel_rfl).symm.trans hf)
      obtain rfl : fn = Tryd.f3 := (Option.some.inj (Tryd.func3.symm.trans hfn)).symm
      exact ⟨by kernel_rfl, stand_of_all (by kernel_rfl)⟩)
    (by kernel_rfl)
end Go.Proofs.YtkejohmghacdhaaDoor
