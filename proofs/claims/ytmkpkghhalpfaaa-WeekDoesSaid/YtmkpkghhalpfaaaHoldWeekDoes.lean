/- Any input: 'quarterdaylaw06.WeekDoes' returns true, and its arguments stay as they were. No conditions. -/
import Derived.Test.YtmkpkghhalpfaaaLawWeekDoes
import Derived.Test.YtmkpkghhalpfaaaFrame
namespace Go.Proofs.Ytmkpkghhalpfaaa
set_option linter.unusedVariables false
set_option linter.unusedSimpArgs false
open Go.ChangeShapes Go.WideShapes Go.ChangeAt Go.RowKit
theorem cells_weekDoes1 : Try.prog.cellsOf 41 = 3 := by kernel_rfl
set_option maxRecDepth 100000 in
theorem weekDoes_lifted (os : Os) (started : os.Started) (H : Type) (enc : TypeId × Value → H) :
    ReturnsInHanded {} Try.checked os 10 .any (Rows.weekDoesSpec.pre6 enc Try.prog Try.f10 Rows.weekDoesRow.domain false) (Rows.weekDoesSpec.post enc Try.prog Try.f10 false true false false) := by
  refine returnsInHanded_of_change (C := Try.checked) own started (by kernel_rfl) Try.func10
    (ChangeSpec.witness6 (enc := enc) (C := Try.checked) false ⟨#[], #[.int .i64 0, .agg #[.int .i64 0, .int .i64 0, .int .i64 0], .int .i64 0], []⟩ 8 (by kernel_rfl) (by kernel_rfl) (by kernel_rfl) (by kernel_rfl)) ?_
  intro W base args ds gs before hval0 hW hcnd _
  have hval : ∀ (j : Nat) t v, Try.f10.params[j]? = some t → args[j]? = some v → Value.okWide Try.prog W .any base t v := hval0
  have hW' := hW
  obtain ⟨p, q, hA0, hV, rfl, hfz, hnd⟩ := hW
  have hA : DataW.TrodAll enc Try.prog W 0 (fun _ => true) true Try.f10.params.toList args.toList ds p := hA0
  rw [Try.params10] at hA hval
  obtain ⟨v0, vs0, d0, ds0, p0, q0, hargs, rfl, rfl, h0, r0⟩ := trodAll_cons hA
  obtain ⟨v1, vs1, d1, ds1, p1, q1, rfl, rfl, rfl, h1, r1⟩ := trodAll_cons r0
  obtain ⟨v2, vs2, d2, ds2, p2, q2, rfl, rfl, rfl, h2, r2⟩ := trodAll_cons r1
  obtain ⟨rfl, rfl, rfl⟩ := trodAll_nil r2
  obtain rfl : args = #[v0, v1, v2] := by cases args; simp_all
  obtain ⟨rfl, rfl⟩ := trodVars_none hV
  obtain ⟨a0, rfl, rfl, rfl, w0⟩ := open_int Try.underlying3 (hval 0 3 v0 rfl rfl) h0
  obtain ⟨c10, c11, c12, y10, y11, y12, m1, rfl, rfl, rfl, hy10, hy11, hy12⟩ := Go.Joins.open_agg3 Try.underlying41 (by kernel_rfl) cells_weekDoes1 (hval 1 41 v1 rfl rfl) h1
  obtain ⟨a10, e10, rfl, w10⟩ := DataW.trod_int Try.underlying3 hy10
  simp only [List.cons.injEq, and_true] at e10; subst e10
  obtain ⟨a11, e11, rfl, w11⟩ := DataW.trod_int Try.underlying3 hy11
  simp only [List.cons.injEq, and_true] at e11; subst e11
  obtain ⟨a12, e12, rfl, w12⟩ := DataW.trod_int Try.underlying3 hy12
  simp only [List.cons.injEq, and_true] at e12; subst e12
  obtain ⟨a2, rfl, rfl, rfl, w2⟩ := open_int Try.underlying3 (hval 2 3 v2 rfl rfl) h2
  clear hA0 hval0
  refine (weekDoes_any a0 a10 a11 a12 a2 W (In_of_wf w0) (In_of_wf w10) (In_of_wf w11) (In_of_wf w12) (In_of_wf w2)).mono fun e W' ⟨he, hg⟩ => ?_
  subst he
  exact ⟨_, rfl, law_post laidOut hg (by kernel_rfl) (by kernel_rfl) Try.underlying4 rfl rfl hW'⟩
theorem weekDoes_over : Rows.weekDoesRow.holds Try.pinned (OpenSpec.ofChange Rows.weekDoesSpec) :=
  OpenClaim.holds_of_wide 10 Try.f10 rfl rfl rfl rfl rfl rfl rfl ⟨rfl, rfl, rfl, rfl, rfl⟩ rfl rfl rfl rfl rfl (by kernel_rfl) Try.func10 (by kernel_rfl)
    (of_decide_eq_true (by kernel_rfl)) (by unfold Func.isWrapper; first | (rw [if_pos (by decide +kernel)]; kernel_rfl) | (rw [if_neg (by decide +kernel)]; exact ⟨rfl, rfl⟩))
    (fun os started H enc _ => weekDoes_lifted os started H enc)
theorem weekDoes_holds : Rows.WeekDoesSaid := weekDoes_over
end Go.Proofs.Ytmkpkghhalpfaaa
