/- Any input: 'quarterdaylaw02.WideDoes' returns true, and its arguments stay as they were. No conditions. -/
import Derived.Test.YtnjjihlknkmllaaLawWideDoes
import Derived.Test.YtnjjihlknkmllaaFrame
namespace Go.Proofs.Ytnjjihlknkmllaa
set_option linter.unusedVariables false
set_option linter.unusedSimpArgs false
open Go.ChangeShapes Go.WideShapes Go.ChangeAt Go.RowKit
theorem cells_wideDoes0 : Try.prog.cellsOf 36 = 2 := by kernel_rfl
theorem cells_wideDoes1 : Try.prog.cellsOf 36 = 2 := by kernel_rfl
set_option maxRecDepth 100000 in
theorem wideDoes_lifted (os : Os) (started : os.Started) (H : Type) (enc : TypeId × Value → H) :
    ReturnsInHanded {} Try.checked os 9 .any (Rows.wideDoesSpec.pre6 enc Try.prog Try.f9 Rows.wideDoesRow.domain false) (Rows.wideDoesSpec.post enc Try.prog Try.f9 false true false false) := by
  refine returnsInHanded_of_change (C := Try.checked) own started (by kernel_rfl) Try.func9
    (ChangeSpec.witness6 (enc := enc) (C := Try.checked) false ⟨#[], #[.agg #[.int .i64 0, .int .u64 0], .agg #[.int .i64 0, .int .u64 0]], []⟩ 8 (by kernel_rfl) (by kernel_rfl) (by kernel_rfl) (by kernel_rfl)) ?_
  intro W base args ds gs before hval0 hW hcnd _
  have hval : ∀ (j : Nat) t v, Try.f9.params[j]? = some t → args[j]? = some v → Value.okWide Try.prog W .any base t v := hval0
  have hW' := hW
  obtain ⟨p, q, hA0, hV, rfl, hfz, hnd⟩ := hW
  have hA : DataW.TrodAll enc Try.prog W 0 (fun _ => true) true Try.f9.params.toList args.toList ds p := hA0
  rw [Try.params9] at hA hval
  obtain ⟨v0, vs0, d0, ds0, p0, q0, hargs, rfl, rfl, h0, r0⟩ := trodAll_cons hA
  obtain ⟨v1, vs1, d1, ds1, p1, q1, rfl, rfl, rfl, h1, r1⟩ := trodAll_cons r0
  obtain ⟨rfl, rfl, rfl⟩ := trodAll_nil r1
  obtain rfl : args = #[v0, v1] := by cases args; simp_all
  obtain ⟨rfl, rfl⟩ := trodVars_none hV
  obtain ⟨c00, c01, y00, y01, m0, rfl, rfl, rfl, hy00, hy01⟩ := Go.Joins.open_agg2 Try.underlying36 (by kernel_rfl) cells_wideDoes0 (hval 0 36 v0 rfl rfl) h0
  obtain ⟨a00, e00, rfl, w00⟩ := DataW.trod_int Try.underlying2 hy00
  simp only [List.cons.injEq, and_true] at e00; subst e00
  obtain ⟨a01, e01, rfl, w01⟩ := DataW.trod_int Try.underlying34 hy01
  simp only [List.cons.injEq, and_true] at e01; subst e01
  obtain ⟨c10, c11, y10, y11, m1, rfl, rfl, rfl, hy10, hy11⟩ := Go.Joins.open_agg2 Try.underlying36 (by kernel_rfl) cells_wideDoes1 (hval 1 36 v1 rfl rfl) h1
  obtain ⟨a10, e10, rfl, w10⟩ := DataW.trod_int Try.underlying2 hy10
  simp only [List.cons.injEq, and_true] at e10; subst e10
  obtain ⟨a11, e11, rfl, w11⟩ := DataW.trod_int Try.underlying34 hy11
  simp only [List.cons.injEq, and_true] at e11; subst e11
  clear hA0 hval0
  refine (wideDoes_any a00 a01 a10 a11 W (In_of_wf w00) (InU_of_wf w01) (In_of_wf w10) (InU_of_wf w11)).mono fun e W' ⟨he, hg⟩ => ?_
  subst he
  exact ⟨_, rfl, law_post laidOut hg (by kernel_rfl) (by kernel_rfl) Try.underlying4 rfl rfl hW'⟩
theorem wideDoes_over : Rows.wideDoesRow.holds Try.pinned (OpenSpec.ofChange Rows.wideDoesSpec) :=
  OpenClaim.holds_of_wide 9 Try.f9 rfl rfl rfl rfl rfl rfl rfl ⟨rfl, rfl, rfl, rfl, rfl⟩ rfl rfl rfl rfl rfl (by kernel_rfl) Try.func9 (by kernel_rfl)
    (of_decide_eq_true (by kernel_rfl)) (by unfold Func.isWrapper; first | (rw [if_pos (by decide +kernel)]; kernel_rfl) | (rw [if_neg (by decide +kernel)]; exact ⟨rfl, rfl⟩))
    (fun os started H enc _ => wideDoes_lifted os started H enc)
theorem wideDoes_holds : Rows.WideDoesSaid := wideDoes_over
end Go.Proofs.Ytnjjihlknkmllaa
