/-
  DERIVED. GIVEN WITH THE SEED: THE CARDS: each row of YtmkhgnccpkhcaaaGreatDoorRows.lean that lists a variable, with what it lists TIED to the program's text (the seventh form; the later family's looks); each row that meets fmt, with fmt's text TOLD by the authors' own Lean function (tested against real Go, not proved from fmt's source: count such statements apart). THE CARD IS WHAT COUNTS. Prove the row's statement (the work); the ties are given (YtmkhgnccpkhcaaaGreatDoorTie.lean); close each card by the builder's one call (the guide's Derived/Test/ToyasCard.lean, 'card_holds'). Laid BY PROGRAM, IN A SANDBOX (cutbox-door.mjs). By AI agents, Wed Nov 11 2026. No macro, syntax, notation, axiom, sorry.
-/
import Derived.Test.YtmkhgnccpkhcaaaGreatDoorRows
import GoSem.ClaimSeven
namespace Go.Proofs.YtmkhgnccpkhcaaaGreatDoor
namespace Rows

/-- THE TIED CARD OF 'quarterdaytop.TopComp'. -/
def topCompCard : Claim7 := { stood := { row := topCompRow, standIns := [], harness := (true, "086b9712544b2acb438e36b9c57b56a167b1791b98c8a6fdd3af73f7cdb24c55"), looks := false }, kinds := [], alts := [], laidByText := true, laidKinds := [.data, .data, .data, .data, .pinned], laidTests := true, laidLooks := .later }
def TopCompCardSaid : Prop := Claim7.holds Tryz.pinned (.plain (OpenSpec.ofChange topCompSpec)) topCompCard

/-- THE TIED CARD OF 'quarterdaytop.TopRefuses'. -/
def topRefusesCard : Claim7 := { stood := { row := topRefusesRow, standIns := [], harness := (true, "086b9712544b2acb438e36b9c57b56a167b1791b98c8a6fdd3af73f7cdb24c55"), looks := false }, kinds := [], alts := [], laidByText := true, laidKinds := [.data, .data, .data, .data, .pinned], laidTests := true, laidLooks := .later }
def TopRefusesCardSaid : Prop := Claim7.holds Tryz.pinned (.plain (OpenSpec.ofChange topRefusesSpec)) topRefusesCard

/-- THE SECOND FORM's CARD OF 'quarterdaytop.TopComp'. -/
def topCompUptoCard : Claim7 := { stood := { row := topCompUptoRow, standIns := [], harness := (true, "086b9712544b2acb438e36b9c57b56a167b1791b98c8a6fdd3af73f7cdb24c55"), looks := false }, kinds := [], alts := [], laidByText := true, laidKinds := [.data, .data, .data, .data, .pinned], laidTests := true, laidLooks := .later }
def TopCompUptoCardSaid : Prop := Claim7.holds Tryz.pinned (.plain (OpenSpec.upto topCompSpec)) topCompUptoCard

/-- THE SECOND FORM's CARD OF 'quarterdaytop.TopRefuses'. -/
def topRefusesUptoCard : Claim7 := { stood := { row := topRefusesUptoRow, standIns := [], harness := (true, "086b9712544b2acb438e36b9c57b56a167b1791b98c8a6fdd3af73f7cdb24c55"), looks := false }, kinds := [], alts := [], laidByText := true, laidKinds := [.data, .data, .data, .data, .pinned], laidTests := true, laidLooks := .later }
def TopRefusesUptoCardSaid : Prop := Claim7.holds Tryz.pinned (.plain (OpenSpec.upto topRefusesSpec)) topRefusesUptoCard
end Rows
end Go.Proofs.YtmkhgnccpkhcaaaGreatDoor
