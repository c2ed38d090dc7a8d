/- Any input: 'quarterdaylaw03.RatioTells' returns true, and its arguments stay as they were. No conditions. -/
import Derived.Test.YtkejohmghacdhaaLawRatio3
import Derived.Test.YtkejohmghacdhaaFrame
namespace Go.Proofs.Ytkejohmghacdhaa
set_option linter.unusedVariables false
set_option linter.unusedSimpArgs false
open Go.ChangeShapes Go.WideShapes Go.ChangeAt Go.RowKit
theorem cells_ratioTells2 : Try.prog.cellsOf 24 = 2 := by kernel_rfl
theorem cells_ratioTells3 : Try.prog.cellsOf 24 = 2 := by kernel_rfl
set_option maxRecDepth 100000 in
theorem ratioTells_lifted (os : Os) (started : os.Started) (H : Type) (enc : TypeId × Value → H) :
    ReturnsInHanded {} Try.checked os 4 .any (Rows.ratioTellsSpec.pre6 enc Try.prog Try.f4 Rows.ratioTellsRow.domain false) (Rows.ratioTellsSpec.post enc Try.prog Try.f4 false true false false) := by
  refine returnsInHanded_of_change (C := Try.checked) own started (by kernel_rfl) Try.func4
    (ChangeSpec.witness6 (enc := enc) (C := Try.checked) false ⟨#[], #[.int .i64 0, .int .i64 0, .agg #[.int .i64 0, .int .i64 0], .agg #[.int .i64 0, .int .i64 0]], []⟩ 8 (by kernel_rfl) (by kernel_rfl) (by kernel_rfl) (by kernel_rfl)) ?_
  intro W base args ds gs before hval0 hW hcnd _
  have hval : ∀ (j : Nat) t v, Try.f4.params[j]? = some t → args[j]? = some v → Value.okWide Try.prog W .any base t v := hval0
  have hW' := hW
  obtain ⟨p, q, hA0, hV, rfl, hfz, hnd⟩ := hW
  have hA : DataW.TrodAll enc Try.prog W 0 (fun _ => true) true Try.f4.params.toList args.toList ds p := hA0
  rw [Try.params4] at hA hval
  obtain ⟨v0, vs0, d0, ds0, p0, q0, hargs, rfl, rfl, h0, r0⟩ := trodAll_cons hA
  obtain ⟨v1, vs1, d1, ds1, p1, q1, rfl, rfl, rfl, h1, r1⟩ := trodAll_cons r0
  obtain ⟨v2, vs2, d2, ds2, p2, q2, rfl, rfl, rfl, h2, r2⟩ := trodAll_cons r1
  obtain ⟨v3, vs3, d3, ds3, p3, q3, rfl, rfl, rfl, h3, r3⟩ := trodAll_cons r2
  obtain ⟨rfl, rfl, rfl⟩ := trodAll_nil r3
  obtain rfl : args = #[v0, v1, v2, v3] := by cases args; simp_all
  obtain ⟨rfl, rfl⟩ := trodVars_none hV
  obtain ⟨a0, rfl, rfl, rfl, w0⟩ := open_int Try.underlying2 (hval 0 2 v0 rfl rfl) h0
  obtain ⟨a1, rfl, rfl, rfl, w1⟩ := open_int Try.underlying2 (hval 1 2 v1 rfl rfl) h1
  obtain ⟨c20, c21, y20, y21, m2, rfl, rfl, rfl, hy20, hy21⟩ := Go.Joins.open_agg2 Try.underlying24 (by kernel_rfl) cells_ratioTells2 (hval 2 24 v2 rfl rfl) h2
  obtain ⟨a20, e20, rfl, w20⟩ := DataW.trod_int Try.underlying2 hy20
  simp only [List.cons.injEq, and_true] at e20; subst e20
  obtain ⟨a21, e21, rfl, w21⟩ := DataW.trod_int Try.underlying2 hy21
  simp only [List.cons.injEq, and_true] at e21; subst e21
  obtain ⟨c30, c31, y30, y31, m3, rfl, rfl, rfl, hy30, hy31⟩ := Go.Joins.open_agg2 Try.underlying24 (by kernel_rfl) cells_ratioTells3 (hval 3 24 v3 rfl rfl) h3
  obtain ⟨a30, e30, rfl, w30⟩ := DataW.trod_int Try.underlying2 hy30
  simp only [List.cons.injEq, and_true] at e30; subst e30
  obtain ⟨a31, e31, rfl, w31⟩ := DataW.trod_int Try.underlying2 hy31
  simp only [List.cons.injEq, and_true] at e31; subst e31
  clear hA0 hval0
  refine (ratioTells_any a0 a1 a20 a21 a30 a31 W (In_of_wf w0) (In_of_wf w1) (In_of_wf w20) (In_of_wf w21) (In_of_wf w30) (In_of_wf w31)).mono fun e W' ⟨he, hg⟩ => ?_
  subst he
  exact ⟨_, rfl, law_post laidOut hg (by kernel_rfl) (by kernel_rfl) Try.underlying4 rfl rfl hW'⟩
theorem ratioTells_over : Rows.ratioTellsRow.holds Try.pinned (OpenSpec.ofChange Rows.ratioTellsSpec) :=
  OpenClaim.holds_of_wide 4 Try.f4 rfl rfl rfl rfl rfl rfl rfl ⟨rfl, rfl, rfl, rfl, rfl⟩ rfl rfl rfl rfl rfl (by kernel_rfl) Try.func4 (by kernel_rfl)
    (of_decide_eq_true (by kernel_rfl)) (by unfold Func.isWrapper; first | (rw [if_pos (by decide +kernel)]; kernel_rfl) | (rw [if_neg (by decide +kernel)]; exact ⟨rfl, rfl⟩))
    (fun os started H enc _ => ratioTells_lifted os started H enc)
theorem ratioTells_holds : Rows.RatioTellsSaid := ratioTells_over
end Go.Proofs.Ytkejohmghacdhaa
