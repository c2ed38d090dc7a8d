/-
  DERIVED. GIVEN WITH THE SEED: THE CARDS: each row of YtnjjihlknkmllaaDoorRows.lean that lists a variable, with what it lists TIED to the program's text (the seventh form; the later family's looks); each row that meets fmt, with fmt's text TOLD by the authors' own Lean function (tested against real Go, not proved from fmt's source: count such statements apart). THE CARD IS WHAT COUNTS. Prove the row's statement (the work); the ties are given (YtnjjihlknkmllaaDoorTie.lean); close each card by the builder's one call (the guide's Derived/Test/ToyasCard.lean, 'card_holds'). Laid BY PROGRAM, IN A SANDBOX (cutbox-door.mjs). By AI agents, Wed Nov 11 2026. No macro, syntax, notation, axiom, sorry.
-/
import Derived.Test.YtnjjihlknkmllaaDoorRows
import GoSem.ClaimSeven
namespace Go.Proofs.YtnjjihlknkmllaaDoor
namespace Rows

/-- THE TIED CARD OF 'quarterdaylaw01.WholeCommon'. -/
def wholeCommonCard : Claim7 := { stood := { row := wholeCommonRow, standIns := [], harness := (true, "5d1468f52d3f38544d781211bb34579b54ae79784723183c942e3999115a302a"), looks := false }, kinds := [], alts := [], laidByText := true, laidKinds := [.data], laidTests := true, laidLooks := .later }
def WholeCommonCardSaid : Prop := Claim7.holds Tryd.pinned (.plain (OpenSpec.ofChange wholeCommonSpec)) wholeCommonCard

/-- THE TIED CARD OF 'quarterdaylaw01.WholeDoes'. -/
def wholeDoesCard : Claim7 := { stood := { row := wholeDoesRow, standIns := [], harness := (true, "5d1468f52d3f38544d781211bb34579b54ae79784723183c942e3999115a302a"), looks := false }, kinds := [], alts := [], laidByText := true, laidKinds := [.data], laidTests := true, laidLooks := .later }
def WholeDoesCardSaid : Prop := Claim7.holds Tryd.pinned (.plain (OpenSpec.ofChange wholeDoesSpec)) wholeDoesCard

/-- THE TIED CARD OF 'quarterdaylaw01.WholeSmall'. -/
def wholeSmallCard : Claim7 := { stood := { row := wholeSmallRow, standIns := [], harness := (true, "5d1468f52d3f38544d781211bb34579b54ae79784723183c942e3999115a302a"), looks := false }, kinds := [], alts := [], laidByText := true, laidKinds := [.data], laidTests := true, laidLooks := .later }
def WholeSmallCardSaid : Prop := Claim7.holds Tryd.pinned (.plain (OpenSpec.ofChange wholeSmallSpec)) wholeSmallCard

/-- THE SECOND FORM's CARD OF 'quarterdaylaw01.WholeCommon'. -/
def wholeCommonUptoCard : Claim7 := { stood := { row := wholeCommonUptoRow, standIns := [], harness := (true, "5d1468f52d3f38544d781211bb34579b54ae79784723183c942e3999115a302a"), looks := false }, kinds := [], alts := [], laidByText := true, laidKinds := [.data], laidTests := true, laidLooks := .later }
def WholeCommonUptoCardSaid : Prop := Claim7.holds Tryd.pinned (.plain (OpenSpec.upto wholeCommonSpec)) wholeCommonUptoCard

/-- THE SECOND FORM's CARD OF 'quarterdaylaw01.WholeDoes'. -/
def wholeDoesUptoCard : Claim7 := { stood := { row := wholeDoesUptoRow, standIns := [], harness := (true, "5d1468f52d3f38544d781211bb34579b54ae79784723183c942e3999115a302a"), looks := false }, kinds := [], alts := [], laidByText := true, laidKinds := [.data], laidTests := true, laidLooks := .later }
def WholeDoesUptoCardSaid : Prop := Claim7.holds Tryd.pinned (.plain (OpenSpec.upto wholeDoesSpec)) wholeDoesUptoCard

/-- THE SECOND FORM's CARD OF 'quarterdaylaw01.WholeSmall'. -/
def wholeSmallUptoCard : Claim7 := { stood := { row := wholeSmallUptoRow, standIns := [], harness := (true, "5d1468f52d3f38544d781211bb34579b54ae79784723183c942e3999115a302a"), looks := false }, kinds := [], alts := [], laidByText := true, laidKinds := [.data], laidTests := true, laidLooks := .later }
def WholeSmallUptoCardSaid : Prop := Claim7.holds Tryd.pinned (.plain (OpenSpec.upto wholeSmallSpec)) wholeSmallUptoCard
end Rows
end Go.Proofs.YtnjjihlknkmllaaDoor
