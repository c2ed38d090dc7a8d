/- Any input: 'quarterdaylaw05.CivilTells' returns true, and its arguments stay as they were. No conditions. -/
import Derived.Test.YtmkpkghhalpfaaaLawCivilTells
import Derived.Test.YtmkpkghhalpfaaaFrame
namespace Go.Proofs.Ytmkpkghhalpfaaa
open Go.ChangeShapes Go.WideShapes Go.ChangeAt Go.RowKit
theorem cells_civilTells2 : Try.prog.cellsOf 23 = 3 := by kernel_rfl
set_option maxRecDepth 100000 in
theorem civilTells_lifted (os : Os) (started : os.Started) (H : Type) (enc : TypeId × Value → H) :
    ReturnsInHanded {} Try.checked os 3 .any (Rows.civilTellsSpec.pre6 enc Try.prog Try.f3 Rows.civilTellsRow.domain false) (Rows.civilTellsSpec.post enc Try.prog Try.f3 false true false false) := by
  refine returnsInHanded_of_change (C := Try.checked) own started (by kernel_rfl) Try.func3
    (ChangeSpec.witness6 (enc := enc) (C := Try.checked) false ⟨#[], #[.int .i64 0, .int .i64 0, .agg #[.int .i64 0, .int .i64 0, .int .i64 0]], []⟩ 8 (by kernel_rfl) (by kernel_rfl) (by kernel_rfl) (by kernel_rfl)) ?_
  intro W base args ds gs before hval0 hW hcnd _
  have hval : ∀ (j : Nat) t v, Try.f3.params[j]? = some t → args[j]? = some v → Value.okWide Try.prog W .any base t v := hval0
  have hW' := hW
  obtain ⟨p, q, hA0, hV, rfl, hfz, hnd⟩ := hW
  have hA : DataW.TrodAll enc Try.prog W 0 (fun _ => true) true Try.f3.params.toList args.toList ds p := hA0
  rw [Try.params3] at hA hval
  obtain ⟨v0, vs0, d0, ds0, p0, q0, hargs, rfl, rfl, h0, r0⟩ := trodAll_cons hA
  obtain ⟨v1, vs1, d1, ds1, p1, q1, rfl, rfl, rfl, h1, r1⟩ := trodAll_cons r0
  obtain ⟨v2, vs2, d2, ds2, p2, q2, rfl, rfl, rfl, h2, r2⟩ := trodAll_cons r1
  obtain ⟨rfl, rfl, rfl⟩ := trodAll_nil r2
  obtain rfl : args = #[v0, v1, v2] := by cases args; simp_all
  obtain ⟨rfl, rfl⟩ := trodVars_none hV
  obtain ⟨a0, rfl, rfl, rfl, w0⟩ := open_int Try.underlying3 (hval 0 3 v0 rfl rfl) h0
  obtain ⟨a1, rfl, rfl, rfl, w1⟩ := open_int Try.underlying3 (hval 1 3 v1 rfl rfl) h1
  obtain ⟨c20, c21, c22, y20, y21, y22, m2, rfl, rfl, rfl, hy20, hy21, hy22⟩ := Go.Joins.open_agg3 Try.underlying23 (by kernel_rfl) cells_civilTells2 (hval 2 23 v2 rfl rfl) h2
  obtain ⟨a20, e20, rfl, w20⟩ := DataW.trod_int Try.underlying3 hy20
  simp only [List.cons.injEq, and_true] at e20; subst e20
  obtain ⟨a21, e21, rfl, w21⟩ := DataW.trod_int Try.underlying3 hy21
  simp only [List.cons.injEq, and_true] at e21; subst e21
  obtain ⟨a22, e22, rfl, w22⟩ := DataW.trod_int Try.underlying3 hy22
  simp only [List.cons.injEq, and_true] at e22; subst e22
  clear hA0 hval0
  refine (civilTells_any a0 a1 a20 a21 a22 W (In_of_wf w0) (In_of_wf w1) (In_of_wf w20) (In_of_wf w21) (In_of_wf w22)).mono fun e W' ⟨he, hg⟩ => ?_
  subst he
  exact ⟨_, rfl, law_post laidOut hg (by kernel_rfl) (by kernel_rfl) Try.underlying4 rfl rfl hW'⟩
theorem civilTells_over : Rows.civilTellsRow.holds Try.pinned (OpenSpec.ofChange Rows.civilTellsSpec) :=
  OpenClaim.holds_of_wide 3 Try.f3 rfl rfl rfl rfl rfl rfl rfl ⟨rfl, rfl, rfl, rfl, rfl⟩ rfl rfl rfl rfl rfl (by kernel_rfl) Try.func3 (by kernel_rfl)
    (of_decide_eq_true (by kernel_rfl)) (by unfold Func.isWrapper; first | (rw [if_pos (by decide +kernel)]; kernel_rfl) | (rw [if_neg (by decide +kernel)]; exact ⟨rfl, rfl⟩))
    (fun os started H enc _ => civilTells_lifted os started H enc)
theorem civilTells_holds : Rows.CivilTellsSaid := civilTells_over
end Go.Proofs.Ytmkpkghhalpfaaa
