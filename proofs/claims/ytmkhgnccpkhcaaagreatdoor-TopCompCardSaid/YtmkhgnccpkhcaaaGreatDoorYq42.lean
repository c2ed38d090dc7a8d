import Derived.Test.YtmkhgnccpkhcaaaGreatDoorYq41
set_option linter.unusedVariables false
set_option linter.unusedSimpArgs false
set_option maxRecDepth 100000
set_option maxHeartbeats 8000000
namespace Go.Proofs.YtmkhgnccpkhcaaaGreatDoor
open Go.ChangeShapes Go.WideShapes Go.ChangeAt Go.RowKit
set_option maxRecDepth 100000
theorem topComp_named:Tryz.pinned.checked.prog.funcNamed Rows.topCompRow.func=some 3:=by kernel_rfl
theorem topComp_closed:joinedFacts Tryz.pinned.checked.prog 3 Tryz.f3 Rows.topCompSpec Rows.topCompRow=true:=by kernel_rfl
theorem topComp_inst:Tryz.f3.isInstance Tryz.pinned.checked.prog Rows.topCompRow.origin Rows.topCompRow.targs:=of_decide_eq_true (by kernel_rfl)
theorem topComp_wrap:Tryz.f3.isWrapper Tryz.pinned.checked.prog Rows.topCompRow.wrapper Rows.topCompRow.mainSum:=by unfold Func.isWrapper;first|(rw[if_pos (by decide +kernel)];kernel_rfl)|(rw[if_neg (by decide +kernel)];exact⟨rfl,rfl⟩)
end Go.Proofs.YtmkhgnccpkhcaaaGreatDoor
