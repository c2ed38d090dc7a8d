/- Any input: 'quarterdaylaw02.WideSums' returns true, and its arguments stay as they were. No conditions. -/
import Derived.Test.YtnjjihlknkmllaaLawWideSums
import Derived.Test.YtnjjihlknkmllaaFrame
import Derived.Test.YtnjjihlknkmllaaFrameS
namespace Go.Proofs.Ytnjjihlknkmllaa
set_option linter.unusedVariables false
set_option linter.unusedSimpArgs false
open Go.ChangeShapes Go.WideShapes Go.ChangeAt Go.RowKit

set_option maxRecDepth 100000 in
theorem wideSums_lifted (os : Os) (started : os.Started) (H : Type) (enc : TypeId × Value → H) :
    ReturnsInHanded {} Try.checked os 6 .any (Rows.wideSumsSpec.pre6 enc Try.prog Try.f6 Rows.wideSumsRow.domain false) (Rows.wideSumsSpec.post enc Try.prog Try.f6 false true false false) := by
  refine returnsInHanded_of_change (C := Try.checked) own started (by kernel_rfl) Try.func6
    (ChangeSpec.witness6 (enc := enc) (C := Try.checked) false ⟨#[], #[.slice none 0 0], []⟩ 8 (by kernel_rfl) (by kernel_rfl) (by kernel_rfl) (by kernel_rfl)) ?_
  intro W base args ds gs before hval0 hW hcnd _
  have hval : ∀ (j : Nat) t v, Try.f6.params[j]? = some t → args[j]? = some v → Value.okWide Try.prog W .any base t v := hval0
  have hW' := hW
  obtain ⟨p, q, hA0, hV, rfl, hfz, hnd⟩ := hW
  have hA : DataW.TrodAll enc Try.prog W 0 (fun _ => true) true Try.f6.params.toList args.toList ds p := hA0
  rw [Try.params6] at hA hval
  obtain ⟨v0, vs0, d0, ds0, p0, q0, hargs, rfl, rfl, h0, r0⟩ := trodAll_cons hA
  obtain ⟨rfl, rfl, rfl⟩ := trodAll_nil r0
  obtain rfl : args = #[v0] := by cases args; simp_all
  obtain ⟨rfl, rfl⟩ := trodVars_none hV
  obtain ⟨sa0, xs0, sc0, rfl, lc0, mc0, wf0, sl0⟩ := open_sl Try.underlying31 Try.underlying2 (by kernel_rfl) (hval 0 31 v0 rfl rfl) h0
  clear hA0 hval0
  refine (wideSums_any xs0 sa0 sc0 W (by unfold maxLen at mc0; omega) (In_all wf0) sl0).mono fun e W' ⟨he, hg⟩ => ?_
  subst he
  exact ⟨_, rfl, law_post laidOut hg (by kernel_rfl) (by kernel_rfl) Try.underlying4 rfl rfl hW'⟩
theorem wideSums_over : Rows.wideSumsRow.holds Try.pinned (OpenSpec.ofChange Rows.wideSumsSpec) :=
  OpenClaim.holds_of_wide 6 Try.f6 rfl rfl rfl rfl rfl rfl rfl ⟨rfl, rfl, rfl, rfl, rfl⟩ rfl rfl rfl rfl rfl (by kernel_rfl) Try.func6 (by kernel_rfl)
    (of_decide_eq_true (by kernel_rfl)) (by unfold Func.isWrapper; first | (rw [if_pos (by decide +kernel)]; kernel_rfl) | (rw [if_neg (by decide +kernel)]; exact ⟨rfl, rfl⟩))
    (fun os started H enc _ => wideSums_lifted os started H enc)
theorem wideSums_holds : Rows.WideSumsSaid := wideSums_over
end Go.Proofs.Ytnjjihlknkmllaa
