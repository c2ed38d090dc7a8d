import Derived.Test.YtmkhgnccpkhcaaaGreatDoorYq51
import Derived.Test.YtmkhgnccpkhcaaaGreatDoorYq42
import Derived.Test.YtmkhgnccpkhcaaaGreatDoorCards
import Derived.Test.YtmkhgnccpkhcaaaGreatDoorTie
set_option linter.unusedVariables false
set_option linter.unusedSimpArgs false
set_option maxRecDepth 100000
set_option maxHeartbeats 8000000
namespace Go.Proofs.YtmkhgnccpkhcaaaGreatDoor
open Go.ChangeShapes Go.WideShapes Go.ChangeAt Go.RowKit
set_option maxRecDepth 100000
theorem topComp_over:Rows.topCompRow.holds Tryz.pinned (OpenSpec.ofChange Rows.topCompSpec):=
 OpenClaim.holds_of_wide 3 Tryz.f3 rfl rfl rfl rfl rfl rfl rfl ⟨rfl,rfl,rfl,rfl,rfl⟩ rfl rfl rfl rfl rfl topComp_named Tryz.func3 topComp_closed
  topComp_inst topComp_wrap (fun os started H enc _=>topComp_lifted os started H enc)
theorem topComp_holds:Rows.TopCompCardSaid:=
 Claim7.holds_tied_plain_at .later [] [.data,.data,.data,.data,.pinned] true (true, "086b9712544b2acb438e36b9c57b56a167b1791b98c8a6fdd3af73f7cdb24c55") false
  topComp_over (fun _ h=>by cases h) (by kernel_rfl) (fun _ h=>by cases h) topComp_row_tie rfl ⟨rfl,rfl⟩ (by kernel_rfl) rfl
  (fun f fn hf hfn=>by
   obtain rfl:3=f:=Option.some.inj ((show Tryz.prog.funcNamed "quarterday/quarterdaytop.TopComp" = some 3 by kernel_rfl).symm.trans hf)
   obtain rfl:fn=Tryz.f3:=(Option.some.inj (Tryz.func3.symm.trans hfn)).symm
   exact⟨by kernel_rfl,stand_of_all (by kernel_rfl)⟩)
  (by kernel_rfl)
end Go.Proofs.YtmkhgnccpkhcaaaGreatDoor
