/- Any input: 'quarterdaylaw03.RatioLess' returns true, and its arguments stay as they were. No conditions. -/
import Derived.Test.YtkejohmghacdhaaDoorLawRatioLess
import Derived.Test.YtkejohmghacdhaaDoorFrame
import Derived.Test.YtkejohmghacdhaaDoorFrameD
import Derived.Test.YtkejohmghacdhaaDoorCards
import Derived.Test.YtkejohmghacdhaaDoorTie
namespace Go.Proofs.YtkejohmghacdhaaDoor
set_option linter.unusedVariables false
set_option linter.unusedSimpArgs false
open Go.ChangeShapes Go.WideShapes Go.ChangeAt Go.RowKit
theorem cells_ratioLess0 : Tryd.prog.cellsOf 23 = 2 := by kernel_rfl
theorem cells_ratioLess1 : Tryd.prog.cellsOf 23 = 2 := by kernel_rfl
set_option maxRecDepth 100000 in
theorem ratioLess_lifted (os : Os) (started : os.Started) (H : Type) (enc : TypeId × Value → H) :
    ReturnsInHanded {} Tryd.checked os 6 .any (fun w args => (Rows.ratioLessSpec.pre enc Tryd.prog Tryd.f6 [] false w args ∧ laidMetH Tryd.prog laidD w) ∧ sizedMet enc Tryd.prog Tryd.f6 (OpenSpec.ofChange Rows.ratioLessSpec) false w args)
      (Rows.ratioLessSpec.post enc Tryd.prog Tryd.f6 false true false false) := by
  refine returnsInHanded_of_change_and (C := Tryd.checked) (X := fun w _ => laidMetH Tryd.prog laidD w) (fun _ _ _ hh h => h.of_heap hh) own started (by kernel_rfl) Tryd.func6
    (ChangeSpec.witness_shaped (enc := enc) (C := Tryd.checked) (os := os) (X := fun w _ => laidMetH Tryd.prog laidD w) false (World.doorLaid Tryd.prog 400 os) #[.agg #[.int .i64 0, .int .i64 0], .agg #[.int .i64 0, .int .i64 0]] 8 rfl (World.shaped_of_RefB (by kernel_rfl) (by kernel_rfl)) (by kernel_rfl) (by kernel_rfl) (by kernel_rfl) (door_met os _)) ?_
  intro W base args ds gs before hval0 hW _ _ hL _
  have hval : ∀ (j : Nat) t v, Tryd.f6.params[j]? = some t → args[j]? = some v → Value.okWide Tryd.prog W .any base t v := hval0
  have hW' := hW
  obtain ⟨p, q, hA0, hV, rfl, hfz, hnd⟩ := hW
  have hA : DataW.TrodAll enc Tryd.prog W 0 (fun _ => true) true Tryd.f6.params.toList args.toList ds p := hA0
  rw [Tryd.params6] at hA hval
  obtain ⟨v0, vs0, d0, ds0, p0, q0, hargs, rfl, rfl, h0, r0⟩ := trodAll_cons hA
  obtain ⟨v1, vs1, d1, ds1, p1, q1, rfl, rfl, rfl, h1, r1⟩ := trodAll_cons r0
  obtain ⟨rfl, rfl, rfl⟩ := trodAll_nil r1
  obtain rfl : args = #[v0, v1] := by cases args; simp_all
  obtain ⟨rfl, rfl⟩ := trodVars_none hV
  obtain ⟨c00, c01, y00, y01, m0, rfl, rfl, rfl, hy00, hy01⟩ := Go.Joins.open_agg2 Tryd.underlying23 (by kernel_rfl) cells_ratioLess0 (hval 0 23 v0 rfl rfl) h0
  obtain ⟨a00, e00, rfl, w00⟩ := DataW.trod_int Tryd.underlying2 hy00
  simp only [List.cons.injEq, and_true] at e00; subst e00
  obtain ⟨a01, e01, rfl, w01⟩ := DataW.trod_int Tryd.underlying2 hy01
  simp only [List.cons.injEq, and_true] at e01; subst e01
  obtain ⟨c10, c11, y10, y11, m1, rfl, rfl, rfl, hy10, hy11⟩ := Go.Joins.open_agg2 Tryd.underlying23 (by kernel_rfl) cells_ratioLess1 (hval 1 23 v1 rfl rfl) h1
  obtain ⟨a10, e10, rfl, w10⟩ := DataW.trod_int Tryd.underlying2 hy10
  simp only [List.cons.injEq, and_true] at e10; subst e10
  obtain ⟨a11, e11, rfl, w11⟩ := DataW.trod_int Tryd.underlying2 hy11
  simp only [List.cons.injEq, and_true] at e11; subst e11
  clear hA0 hval0
  refine (ratioLess_any a00 a01 a10 a11 W (In_of_wf w00) (In_of_wf w01) (In_of_wf w10) (In_of_wf w11) (tab_of_laid hL)).mono fun e W' ⟨he, hg⟩ => ?_
  subst he
  exact ⟨_, rfl, law_post laidOut hg (by kernel_rfl) (by kernel_rfl) Tryd.underlying4 rfl rfl hW'⟩
theorem ratioLess_over : Rows.ratioLessRow.holds Tryd.pinned (OpenSpec.ofChange Rows.ratioLessSpec) :=
  OpenClaim.holds_of_wide 6 Tryd.f6 rfl rfl rfl rfl rfl rfl rfl ⟨rfl, rfl, rfl, rfl, rfl⟩ rfl rfl rfl rfl rfl (by kernel_rfl) Tryd.func6 (by kernel_rfl)
    (of_decide_eq_true (by kernel_rfl)) (by unfold Func.isWrapper; first | (rw [if_pos (by decide +kernel)]; kernel_rfl) | (rw [if_neg (by decide +kernel)]; exact ⟨rfl, rfl⟩))
    (fun os started H enc _ => ratioLess_lifted os started H enc)
theorem ratioLess_holds : Rows.RatioLessCardSaid :=
  Claim7.holds_tied_plain_at .later [] [.data] true (true, "b4d12f6b7d7a0804626657869ad9cff5ca96b3739b6e3f026bdec01d2de90865") false
    ratioLess_over (fun _ h => by cases h) (by kernel_rfl) (fun _ h => by cases h) ratioLess_row_tie rfl ⟨rfl, rfl⟩ (by kernel_rfl) rfl
    (fun f fn hf hfn => by
      obtain rfl : 6 = f := Option.some.inj ((show Tryd.prog.funcNamed "quarterday/quarterdaylaw03.RatioLess" = some 6 by kernel_rfl).symm.trans hf)
      obtain rfl : fn = Tryd.f6 := (Option.some.inj (Tryd.func6.symm.trans hfn)).symm
      exact ⟨by kernel_rfl, stand_of_all (by kernel_rfl)⟩)
    (by kernel_rfl)
end Go.Proofs.YtkejohmghacdhaaDoor
