/-
  DERIVED. GIVEN WITH THE SEED: THE CARDS: each row of YtkejohmghacdhaaDoorRows.lean that lists a variable, with what it lists TIED to the program's text (the seventh form; the later family's looks); each row that meets fmt, with fmt's text TOLD by the authors' own Lean function (tested against real Go, not proved from fmt's source: count such statements apart). THE CARD IS WHAT COUNTS. Prove the row's statement (the work); the ties are given (YtkejohmghacdhaaDoorTie.lean); close each card by the builder's one call (the guide's Derived/Test/ToyasCard.lean, 'card_holds'). Laid BY PROGRAM, IN A SANDBOX (cutbox-door.mjs). By AI agents, Wed Nov 11 2026. No macro, syntax, notation, axiom, sorry.
-/
import Derived.Test.YtkejohmghacdhaaDoorRows
import GoSem.ClaimSeven
namespace Go.Proofs.YtkejohmghacdhaaDoor
namespace Rows

/-- THE TIED CARD OF 'quarterdaylaw03.RatioOrder'. -/
def ratioOrderCard : Claim7 := { stood := { row := ratioOrderRow, standIns := [], harness := (true, "b4d12f6b7d7a0804626657869ad9cff5ca96b3739b6e3f026bdec01d2de90865"), looks := false }, kinds := [], alts := [], laidByText := true, laidKinds := [.data], laidTests := true, laidLooks := .later }
def RatioOrderCardSaid : Prop := Claim7.holds Tryd.pinned (.plain (OpenSpec.ofChange ratioOrderSpec)) ratioOrderCard

/-- THE TIED CARD OF 'quarterdaylaw03.RatioDoes'. -/
def ratioDoesCard : Claim7 := { stood := { row := ratioDoesRow, standIns := [], harness := (true, "b4d12f6b7d7a0804626657869ad9cff5ca96b3739b6e3f026bdec01d2de90865"), looks := false }, kinds := [], alts := [], laidByText := true, laidKinds := [.data], laidTests := true, laidLooks := .later }
def RatioDoesCardSaid : Prop := Claim7.holds Tryd.pinned (.plain (OpenSpec.ofChange ratioDoesSpec)) ratioDoesCard

/-- THE TIED CARD OF 'quarterdaylaw03.RatioBack'. -/
def ratioBackCard : Claim7 := { stood := { row := ratioBackRow, standIns := [], harness := (true, "b4d12f6b7d7a0804626657869ad9cff5ca96b3739b6e3f026bdec01d2de90865"), looks := false }, kinds := [], alts := [], laidByText := true, laidKinds := [.data], laidTests := true, laidLooks := .later }
def RatioBackCardSaid : Prop := Claim7.holds Tryd.pinned (.plain (OpenSpec.ofChange ratioBackSpec)) ratioBackCard

/-- THE TIED CARD OF 'quarterdaylaw03.RatioLess'. -/
def ratioLessCard : Claim7 := { stood := { row := ratioLessRow, standIns := [], harness := (true, "b4d12f6b7d7a0804626657869ad9cff5ca96b3739b6e3f026bdec01d2de90865"), looks := false }, kinds := [], alts := [], laidByText := true, laidKinds := [.data], laidTests := true, laidLooks := .later }
def RatioLessCardSaid : Prop := Claim7.holds Tryd.pinned (.plain (OpenSpec.ofChange ratioLessSpec)) ratioLessCard

/-- THE TIED CARD OF 'quarterdaylaw04.ShareExact'. -/
def shareExactCard : Claim7 := { stood := { row := shareExactRow, standIns := [], harness := (true, "b4d12f6b7d7a0804626657869ad9cff5ca96b3739b6e3f026bdec01d2de90865"), looks := false }, kinds := [], alts := [], laidByText := true, laidKinds := [.data], laidTests := true, laidLooks := .later }
def ShareExactCardSaid : Prop := Claim7.holds Tryd.pinned (.plain (OpenSpec.ofChange shareExactSpec)) shareExactCard

/-- THE SECOND FORM's CARD OF 'quarterdaylaw03.RatioOrder'. -/
def ratioOrderUptoCard : Claim7 := { stood := { row := ratioOrderUptoRow, standIns := [], harness := (true, "b4d12f6b7d7a0804626657869ad9cff5ca96b3739b6e3f026bdec01d2de90865"), looks := false }, kinds := [], alts := [], laidByText := true, laidKinds := [.data], laidTests := true, laidLooks := .later }
def RatioOrderUptoCardSaid : Prop := Claim7.holds Tryd.pinned (.plain (OpenSpec.upto ratioOrderSpec)) ratioOrderUptoCard

/-- THE SECOND FORM's CARD OF 'quarterdaylaw03.RatioDoes'. -/
def ratioDoesUptoCard : Claim7 := { stood := { row := ratioDoesUptoRow, standIns := [], harness := (true, "b4d12f6b7d7a0804626657869ad9cff5ca96b3739b6e3f026bdec01d2de90865"), looks := false }, kinds := [], alts := [], laidByText := true, laidKinds := [.data], laidTests := true, laidLooks := .later }
def RatioDoesUptoCardSaid : Prop := Claim7.holds Tryd.pinned (.plain (OpenSpec.upto ratioDoesSpec)) ratioDoesUptoCard

/-- THE SECOND FORM's CARD OF 'quarterdaylaw03.RatioBack'. -/
def ratioBackUptoCard : Claim7 := { stood := { row := ratioBackUptoRow, standIns := [], harness := (true, "b4d12f6b7d7a0804626657869ad9cff5ca96b3739b6e3f026bdec01d2de90865"), looks := false }, kinds := [], alts := [], laidByText := true, laidKinds := [.data], laidTests := true, laidLooks := .later }
def RatioBackUptoCardSaid : Prop := Claim7.holds Tryd.pinned (.plain (OpenSpec.upto ratioBackSpec)) ratioBackUptoCard

/-- THE SECOND FORM's CARD OF 'quarterdaylaw03.RatioLess'. -/
def ratioLessUptoCard : Claim7 := { stood := { row := ratioLessUptoRow, standIns := [], harness := (true, "b4d12f6b7d7a0804626657869ad9cff5ca96b3739b6e3f026bdec01d2de90865"), looks := false }, kinds := [], alts := [], laidByText := true, laidKinds := [.data], laidTests := true, laidLooks := .later }
def RatioLessUptoCardSaid : Prop := Claim7.holds Tryd.pinned (.plain (OpenSpec.upto ratioLessSpec)) ratioLessUptoCard

/-- THE SECOND FORM's CARD OF 'quarterdaylaw04.ShareExact'. -/
def shareExactUptoCard : Claim7 := { stood := { row := shareExactUptoRow, standIns := [], harness := (true, "b4d12f6b7d7a0804626657869ad9cff5ca96b3739b6e3f026bdec01d2de90865"), looks := false }, kinds := [], alts := [], laidByText := true, laidKinds := [.data], laidTests := true, laidLooks := .later }
def ShareExactUptoCardSaid : Prop := Claim7.holds Tryd.pinned (.plain (OpenSpec.upto shareExactSpec)) shareExactUptoCard
end Rows
end Go.Proofs.YtkejohmghacdhaaDoor
