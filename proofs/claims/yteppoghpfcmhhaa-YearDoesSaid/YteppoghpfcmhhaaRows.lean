/-
  No cell of these rows narrows 'for every input' (looked for: loops, veiled, ifaces, maps, wideKeys, modest, calm, conditions, laid).
  DERIVED. THE GIVEN ROWS OF THIS SEAT. 12 by the template 'for every input the law returns true; each argument reads behind the call as it read before'; 0 by the template 'total and deterministic' (their statements: YteppoghpfcmhhaaTotals.lean).
  GIVEN WITH THE SEED: the statements are not yours to turn. If you find one false, say at which input.
  Laid BY PROGRAM, IN A SANDBOX (cutbox-rows.mjs): the forced cells as the released guide's own fill.sh prints them over the translation dc6b2f63d2f4fae2… (all of the seat's roots in one cut). By AI agents, Wed Nov 11 2026. No macro, syntax, notation, axiom, sorry.
-/
import Derived.Test.YteppoghpfcmhhaaChecked
import GoSem.Claim
import GoSem.ClaimJoined
import GoSem.ClaimMapViews
import Derived.JoinedTies
import Derived.KernelRfl
namespace Go.Proofs.Yteppoghpfcmhhaa
/- THE CELL 'sum', in the pinned program and in every row, IS THE sha256 OF THE DUMP (.gsa) THAT YteppoghpfcmhhaaProg.lean LOADS. Nothing in Lean hashes anything: it is a label: what it is worth is what the hold of that sum in a sandbox is worth. -/
noncomputable def Try.pinned : Pinned := { name := "yteppoghpfcmhhaa", sum := "dc6b2f63d2f4fae277a1123b221787ce3afcfaf5c9f5d56c21ff9e4b00db8d01", checked := Try.checked }
namespace Rows
def none {H : Type} : Left H := { results := [], args := [] }

/-- 'quarterdaylaw13.AnchorDoes': WHATEVER THE INPUT: true; the input reads as it did. -/
def anchorDoesSpec : ChangeSpec := { name := "anchorDoes", fn := fun _ => fun
  | [d1, d2] => { results := [.lit (.bool true)], args := [d1, d2] }
  | _ => none }
def anchorDoesRow : OpenClaim := { program := "yteppoghpfcmhhaa", sum := "dc6b2f63d2f4fae277a1123b221787ce3afcfaf5c9f5d56c21ff9e4b00db8d01", func := "quarterday/quarterdaylaw13.AnchorDoes", spec := "anchorDoes", unfollowed := true, recurses := true, apart := false }
def AnchorDoesSaid : Prop := anchorDoesRow.holds Try.pinned (OpenSpec.ofChange anchorDoesSpec)

/-- ITS FALSE NEIGHBOUR: 'it returns false'. Refute it at one input. -/
def anchorDoesWrong : ChangeSpec := { name := "anchorDoes", fn := fun _ => fun
  | [d1, d2] => { results := [.lit (.bool false)], args := [d1, d2] }
  | _ => none }
def AnchorDoesWrongFalsely : Prop := anchorDoesRow.holds Try.pinned (OpenSpec.ofChange anchorDoesWrong)

/-- 'quarterdaylaw13.AnchorNext': WHATEVER THE INPUT: true; the input reads as it did. -/
def anchorNextSpec : ChangeSpec := { name := "anchorNext", fn := fun _ => fun
  | [d1, d2] => { results := [.lit (.bool true)], args := [d1, d2] }
  | _ => none }
def anchorNextRow : OpenClaim := { program := "yteppoghpfcmhhaa", sum := "dc6b2f63d2f4fae277a1123b221787ce3afcfaf5c9f5d56c21ff9e4b00db8d01", func := "quarterday/quarterdaylaw13.AnchorNext", spec := "anchorNext", unfollowed := true, recurses := true, apart := false }
def AnchorNextSaid : Prop := anchorNextRow.holds Try.pinned (OpenSpec.ofChange anchorNextSpec)

/-- ITS FALSE NEIGHBOUR: 'it returns false'. Refute it at one input. -/
def anchorNextWrong : ChangeSpec := { name := "anchorNext", fn := fun _ => fun
  | [d1, d2] => { results := [.lit (.bool false)], args := [d1, d2] }
  | _ => none }
def AnchorNextWrongFalsely : Prop := anchorNextRow.holds Try.pinned (OpenSpec.ofChange anchorNextWrong)

/-- 'quarterdaylaw13.AnchorWeeks': WHATEVER THE INPUT: true; the input reads as it did. -/
def anchorWeeksSpec : ChangeSpec := { name := "anchorWeeks", fn := fun _ => fun
  | [d1, d2] => { results := [.lit (.bool true)], args := [d1, d2] }
  | _ => none }
def anchorWeeksRow : OpenClaim := { program := "yteppoghpfcmhhaa", sum := "dc6b2f63d2f4fae277a1123b221787ce3afcfaf5c9f5d56c21ff9e4b00db8d01", func := "quarterday/quarterdaylaw13.AnchorWeeks", spec := "anchorWeeks", unfollowed := true, recurses := true, apart := false }
def AnchorWeeksSaid : Prop := anchorWeeksRow.holds Try.pinned (OpenSpec.ofChange anchorWeeksSpec)

/-- ITS FALSE NEIGHBOUR: 'it returns false'. Refute it at one input. -/
def anchorWeeksWrong : ChangeSpec := { name := "anchorWeeks", fn := fun _ => fun
  | [d1, d2] => { results := [.lit (.bool false)], args := [d1, d2] }
  | _ => none }
def AnchorWeeksWrongFalsely : Prop := anchorWeeksRow.holds Try.pinned (OpenSpec.ofChange anchorWeeksWrong)

/-- 'quarterdaylaw13.AnchorWords': WHATEVER THE INPUT: true; the input reads as it did. -/
def anchorWordsSpec : ChangeSpec := { name := "anchorWords", fn := fun _ => fun
  | [d1, d2] => { results := [.lit (.bool true)], args := [d1, d2] }
  | _ => none }
def anchorWordsRow : OpenClaim := { program := "yteppoghpfcmhhaa", sum := "dc6b2f63d2f4fae277a1123b221787ce3afcfaf5c9f5d56c21ff9e4b00db8d01", func := "quarterday/quarterdaylaw13.AnchorWords", spec := "anchorWords", unfollowed := true, recurses := true, apart := false }
def AnchorWordsSaid : Prop := anchorWordsRow.holds Try.pinned (OpenSpec.ofChange anchorWordsSpec)

/-- ITS FALSE NEIGHBOUR: 'it returns false'. Refute it at one input. -/
def anchorWordsWrong : ChangeSpec := { name := "anchorWords", fn := fun _ => fun
  | [d1, d2] => { results := [.lit (.bool false)], args := [d1, d2] }
  | _ => none }
def AnchorWordsWrongFalsely : Prop := anchorWordsRow.holds Try.pinned (OpenSpec.ofChange anchorWordsWrong)

/-- 'quarterdaylaw13.AnchorMonths': WHATEVER THE INPUT: true; the input reads as it did. -/
def anchorMonthsSpec : ChangeSpec := { name := "anchorMonths", fn := fun _ => fun
  | [d1, d2] => { results := [.lit (.bool true)], args := [d1, d2] }
  | _ => none }
def anchorMonthsRow : OpenClaim := { program := "yteppoghpfcmhhaa", sum := "dc6b2f63d2f4fae277a1123b221787ce3afcfaf5c9f5d56c21ff9e4b00db8d01", func := "quarterday/quarterdaylaw13.AnchorMonths", spec := "anchorMonths", unfollowed := true, recurses := true, apart := false }
def AnchorMonthsSaid : Prop := anchorMonthsRow.holds Try.pinned (OpenSpec.ofChange anchorMonthsSpec)

/-- ITS FALSE NEIGHBOUR: 'it returns false'. Refute it at one input. -/
def anchorMonthsWrong : ChangeSpec := { name := "anchorMonths", fn := fun _ => fun
  | [d1, d2] => { results := [.lit (.bool false)], args := [d1, d2] }
  | _ => none }
def AnchorMonthsWrongFalsely : Prop := anchorMonthsRow.holds Try.pinned (OpenSpec.ofChange anchorMonthsWrong)

/-- 'quarterdaylaw13.AnchorIso': WHATEVER THE INPUT: true; the input reads as it did. -/
def anchorIsoSpec : ChangeSpec := { name := "anchorIso", fn := fun _ => fun
  | [d1, d2] => { results := [.lit (.bool true)], args := [d1, d2] }
  | _ => none }
def anchorIsoRow : OpenClaim := { program := "yteppoghpfcmhhaa", sum := "dc6b2f63d2f4fae277a1123b221787ce3afcfaf5c9f5d56c21ff9e4b00db8d01", func := "quarterday/quarterdaylaw13.AnchorIso", spec := "anchorIso", unfollowed := true, recurses := true, apart := false }
def AnchorIsoSaid : Prop := anchorIsoRow.holds Try.pinned (OpenSpec.ofChange anchorIsoSpec)

/-- ITS FALSE NEIGHBOUR: 'it returns false'. Refute it at one input. -/
def anchorIsoWrong : ChangeSpec := { name := "anchorIso", fn := fun _ => fun
  | [d1, d2] => { results := [.lit (.bool false)], args := [d1, d2] }
  | _ => none }
def AnchorIsoWrongFalsely : Prop := anchorIsoRow.holds Try.pinned (OpenSpec.ofChange anchorIsoWrong)

/-- 'quarterdaylaw14.YearEdges': WHATEVER THE INPUT: true; the input reads as it did. -/
def yearEdgesSpec : ChangeSpec := { name := "yearEdges", fn := fun _ => fun
  | [d1, d2] => { results := [.lit (.bool true)], args := [d1, d2] }
  | _ => none }
def yearEdgesRow : OpenClaim := { program := "yteppoghpfcmhhaa", sum := "dc6b2f63d2f4fae277a1123b221787ce3afcfaf5c9f5d56c21ff9e4b00db8d01", func := "quarterday/quarterdaylaw14.YearEdges", spec := "yearEdges", unfollowed := true, recurses := true, apart := false }
def YearEdgesSaid : Prop := yearEdgesRow.holds Try.pinned (OpenSpec.ofChange yearEdgesSpec)

/-- ITS FALSE NEIGHBOUR: 'it returns false'. Refute it at one input. -/
def yearEdgesWrong : ChangeSpec := { name := "yearEdges", fn := fun _ => fun
  | [d1, d2] => { results := [.lit (.bool false)], args := [d1, d2] }
  | _ => none }
def YearEdgesWrongFalsely : Prop := yearEdgesRow.holds Try.pinned (OpenSpec.ofChange yearEdgesWrong)

/-- 'quarterdaylaw14.YearServed': WHATEVER THE INPUT: true; the input reads as it did. -/
def yearServedSpec : ChangeSpec := { name := "yearServed", fn := fun _ => fun
  | [d1, d2] => { results := [.lit (.bool true)], args := [d1, d2] }
  | _ => none }
def yearServedRow : OpenClaim := { program := "yteppoghpfcmhhaa", sum := "dc6b2f63d2f4fae277a1123b221787ce3afcfaf5c9f5d56c21ff9e4b00db8d01", func := "quarterday/quarterdaylaw14.YearServed", spec := "yearServed", unfollowed := true, recurses := true, apart := false }
def YearServedSaid : Prop := yearServedRow.holds Try.pinned (OpenSpec.ofChange yearServedSpec)

/-- ITS FALSE NEIGHBOUR: 'it returns false'. Refute it at one input. -/
def yearServedWrong : ChangeSpec := { name := "yearServed", fn := fun _ => fun
  | [d1, d2] => { results := [.lit (.bool false)], args := [d1, d2] }
  | _ => none }
def YearServedWrongFalsely : Prop := yearServedRow.holds Try.pinned (OpenSpec.ofChange yearServedWrong)

/-- 'quarterdaylaw14.YearSpans': WHATEVER THE INPUT: true; the input reads as it did. -/
def yearSpansSpec : ChangeSpec := { name := "yearSpans", fn := fun _ => fun
  | [d] => { results := [.lit (.bool true)], args := [d] }
  | _ => none }
def yearSpansRow : OpenClaim := { program := "yteppoghpfcmhhaa", sum := "dc6b2f63d2f4fae277a1123b221787ce3afcfaf5c9f5d56c21ff9e4b00db8d01", func := "quarterday/quarterdaylaw14.YearSpans", spec := "yearSpans", unfollowed := true, recurses := true, apart := false }
def YearSpansSaid : Prop := yearSpansRow.holds Try.pinned (OpenSpec.ofChange yearSpansSpec)

/-- ITS FALSE NEIGHBOUR: 'it returns false'. Refute it at one input. -/
def yearSpansWrong : ChangeSpec := { name := "yearSpans", fn := fun _ => fun
  | [d] => { results := [.lit (.bool false)], args := [d] }
  | _ => none }
def YearSpansWrongFalsely : Prop := yearSpansRow.holds Try.pinned (OpenSpec.ofChange yearSpansWrong)

/-- 'quarterdaylaw14.YearDoes': WHATEVER THE INPUT: true; the input reads as it did. -/
def yearDoesSpec : ChangeSpec := { name := "yearDoes", fn := fun _ => fun
  | [d1, d2] => { results := [.lit (.bool true)], args := [d1, d2] }
  | _ => none }
def yearDoesRow : OpenClaim := { program := "yteppoghpfcmhhaa", sum := "dc6b2f63d2f4fae277a1123b221787ce3afcfaf5c9f5d56c21ff9e4b00db8d01", func := "quarterday/quarterdaylaw14.YearDoes", spec := "yearDoes", unfollowed := true, recurses := true, apart := false }
def YearDoesSaid : Prop := yearDoesRow.holds Try.pinned (OpenSpec.ofChange yearDoesSpec)

/-- ITS FALSE NEIGHBOUR: 'it returns false'. Refute it at one input. -/
def yearDoesWrong : ChangeSpec := { name := "yearDoes", fn := fun _ => fun
  | [d1, d2] => { results := [.lit (.bool false)], args := [d1, d2] }
  | _ => none }
def YearDoesWrongFalsely : Prop := yearDoesRow.holds Try.pinned (OpenSpec.ofChange yearDoesWrong)

/-- 'quarterdaylaw14.YearIn': WHATEVER THE INPUT: true; the input reads as it did. -/
def yearInSpec : ChangeSpec := { name := "yearIn", fn := fun _ => fun
  | [d1, d2, d3] => { results := [.lit (.bool true)], args := [d1, d2, d3] }
  | _ => none }
def yearInRow : OpenClaim := { program := "yteppoghpfcmhhaa", sum := "dc6b2f63d2f4fae277a1123b221787ce3afcfaf5c9f5d56c21ff9e4b00db8d01", func := "quarterday/quarterdaylaw14.YearIn", spec := "yearIn", unfollowed := true, recurses := true, apart := false }
def YearInSaid : Prop := yearInRow.holds Try.pinned (OpenSpec.ofChange yearInSpec)

/-- ITS FALSE NEIGHBOUR: 'it returns false'. Refute it at one input. -/
def yearInWrong : ChangeSpec := { name := "yearIn", fn := fun _ => fun
  | [d1, d2, d3] => { results := [.lit (.bool false)], args := [d1, d2, d3] }
  | _ => none }
def YearInWrongFalsely : Prop := yearInRow.holds Try.pinned (OpenSpec.ofChange yearInWrong)

/-- 'quarterdaylaw14.YearNext': WHATEVER THE INPUT: true; the input reads as it did. -/
def yearNextSpec : ChangeSpec := { name := "yearNext", fn := fun _ => fun
  | [d1, d2] => { results := [.lit (.bool true)], args := [d1, d2] }
  | _ => none }
def yearNextRow : OpenClaim := { program := "yteppoghpfcmhhaa", sum := "dc6b2f63d2f4fae277a1123b221787ce3afcfaf5c9f5d56c21ff9e4b00db8d01", func := "quarterday/quarterdaylaw14.YearNext", spec := "yearNext", unfollowed := true, recurses := true, apart := false }
def YearNextSaid : Prop := yearNextRow.holds Try.pinned (OpenSpec.ofChange yearNextSpec)

/-- ITS FALSE NEIGHBOUR: 'it returns false'. Refute it at one input. -/
def yearNextWrong : ChangeSpec := { name := "yearNext", fn := fun _ => fun
  | [d1, d2] => { results := [.lit (.bool false)], args := [d1, d2] }
  | _ => none }
def YearNextWrongFalsely : Prop := yearNextRow.holds Try.pinned (OpenSpec.ofChange yearNextWrong)

/- THE SECOND FORM. 'bulk': how many values and letters a reading holds, each counted each time it is reached (what is shared counts as often as it is met; a slice's spare places count too). A statement '..UptoSaid' is the law's where the arguments, and the package variables that the reading takes, are together of bulk at most 1048576: NARROWER than '..Said'. Prove '..Said' where nothing that the law and all that it calls make is longer than what came in: it says more and counts as full. Else prove '..UptoSaid'. A law counts once. -/
mutual
def uptoBulk {H : Type} : DataW H → Nat
  | .lit (.string bytes) => bytes.length + 1
  | .lit _ => 1
  | .nil => 1
  | .ptr d => uptoBulk d + 1
  | .slice elems spare => uptoBulkAll elems + uptoBulkAll spare + 1
  | .agg parts => uptoBulkAll parts + 1
  | .iface _ d => uptoBulk d + 1
  | .map entries => uptoBulkEntries entries + 1
  | .held _ => 1
def uptoBulkAll {H : Type} : List (DataW H) → Nat
  | [] => 0
  | d :: r => uptoBulk d + uptoBulkAll r
def uptoBulkEntries {H : Type} : List (Lit × DataW H) → Nat
  | [] => 0
  | x :: r => uptoBulkEntry x + uptoBulkEntries r
def uptoBulkEntry {H : Type} : Lit × DataW H → Nat
  | (.string bytes, d) => bytes.length + uptoBulk d + 1
  | (_, d) => uptoBulk d + 1
 end
def uptoSmall : (H : Type) → List (DataW H) → Bool := fun _ ds => decide (uptoBulkAll ds ≤ 1048576)
def OpenSpec.upto (s : _root_.Go.ChangeSpec) : _root_.Go.OpenSpec := { _root_.Go.OpenSpec.ofChange s with cond := some uptoSmall }

/-- 'quarterdaylaw13.AnchorDoes', WHERE WHAT IT READS IS OF BULK AT MOST 1048576: true; the input reads as it did. -/
def anchorDoesUptoRow : OpenClaim := { program := "yteppoghpfcmhhaa", sum := "dc6b2f63d2f4fae277a1123b221787ce3afcfaf5c9f5d56c21ff9e4b00db8d01", func := "quarterday/quarterdaylaw13.AnchorDoes", spec := "anchorDoes", unfollowed := true, recurses := true, apart := false, narrowed := true }
def AnchorDoesUptoSaid : Prop := anchorDoesUptoRow.holds Try.pinned (OpenSpec.upto anchorDoesSpec)

/-- 'quarterdaylaw13.AnchorNext', WHERE WHAT IT READS IS OF BULK AT MOST 1048576: true; the input reads as it did. -/
def anchorNextUptoRow : OpenClaim := { program := "yteppoghpfcmhhaa", sum := "dc6b2f63d2f4fae277a1123b221787ce3afcfaf5c9f5d56c21ff9e4b00db8d01", func := "quarterday/quarterdaylaw13.AnchorNext", spec := "anchorNext", unfollowed := true, recurses := true, apart := false, narrowed := true }
def AnchorNextUptoSaid : Prop := anchorNextUptoRow.holds Try.pinned (OpenSpec.upto anchorNextSpec)

/-- 'quarterdaylaw13.AnchorWeeks', WHERE WHAT IT READS IS OF BULK AT MOST 1048576: true; the input reads as it did. -/
def anchorWeeksUptoRow : OpenClaim := { program := "yteppoghpfcmhhaa", sum := "dc6b2f63d2f4fae277a1123b221787ce3afcfaf5c9f5d56c21ff9e4b00db8d01", func := "quarterday/quarterdaylaw13.AnchorWeeks", spec := "anchorWeeks", unfollowed := true, recurses := true, apart := false, narrowed := true }
def AnchorWeeksUptoSaid : Prop := anchorWeeksUptoRow.holds Try.pinned (OpenSpec.upto anchorWeeksSpec)

/-- 'quarterdaylaw13.AnchorWords', WHERE WHAT IT READS IS OF BULK AT MOST 1048576: true; the input reads as it did. -/
def anchorWordsUptoRow : OpenClaim := { program := "yteppoghpfcmhhaa", sum := "dc6b2f63d2f4fae277a1123b221787ce3afcfaf5c9f5d56c21ff9e4b00db8d01", func := "quarterday/quarterdaylaw13.AnchorWords", spec := "anchorWords", unfollowed := true, recurses := true, apart := false, narrowed := true }
def AnchorWordsUptoSaid : Prop := anchorWordsUptoRow.holds Try.pinned (OpenSpec.upto anchorWordsSpec)

/-- 'quarterdaylaw13.AnchorMonths', WHERE WHAT IT READS IS OF BULK AT MOST 1048576: true; the input reads as it did. -/
def anchorMonthsUptoRow : OpenClaim := { program := "yteppoghpfcmhhaa", sum := "dc6b2f63d2f4fae277a1123b221787ce3afcfaf5c9f5d56c21ff9e4b00db8d01", func := "quarterday/quarterdaylaw13.AnchorMonths", spec := "anchorMonths", unfollowed := true, recurses := true, apart := false, narrowed := true }
def AnchorMonthsUptoSaid : Prop := anchorMonthsUptoRow.holds Try.pinned (OpenSpec.upto anchorMonthsSpec)

/-- 'quarterdaylaw13.AnchorIso', WHERE WHAT IT READS IS OF BULK AT MOST 1048576: true; the input reads as it did. -/
def anchorIsoUptoRow : OpenClaim := { program := "yteppoghpfcmhhaa", sum := "dc6b2f63d2f4fae277a1123b221787ce3afcfaf5c9f5d56c21ff9e4b00db8d01", func := "quarterday/quarterdaylaw13.AnchorIso", spec := "anchorIso", unfollowed := true, recurses := true, apart := false, narrowed := true }
def AnchorIsoUptoSaid : Prop := anchorIsoUptoRow.holds Try.pinned (OpenSpec.upto anchorIsoSpec)

/-- 'quarterdaylaw14.YearEdges', WHERE WHAT IT READS IS OF BULK AT MOST 1048576: true; the input reads as it did. -/
def yearEdgesUptoRow : OpenClaim := { program := "yteppoghpfcmhhaa", sum := "dc6b2f63d2f4fae277a1123b221787ce3afcfaf5c9f5d56c21ff9e4b00db8d01", func := "quarterday/quarterdaylaw14.YearEdges", spec := "yearEdges", unfollowed := true, recurses := true, apart := false, narrowed := true }
def YearEdgesUptoSaid : Prop := yearEdgesUptoRow.holds Try.pinned (OpenSpec.upto yearEdgesSpec)

/-- 'quarterdaylaw14.YearServed', WHERE WHAT IT READS IS OF BULK AT MOST 1048576: true; the input reads as it did. -/
def yearServedUptoRow : OpenClaim := { program := "yteppoghpfcmhhaa", sum := "dc6b2f63d2f4fae277a1123b221787ce3afcfaf5c9f5d56c21ff9e4b00db8d01", func := "quarterday/quarterdaylaw14.YearServed", spec := "yearServed", unfollowed := true, recurses := true, apart := false, narrowed := true }
def YearServedUptoSaid : Prop := yearServedUptoRow.holds Try.pinned (OpenSpec.upto yearServedSpec)

/-- 'quarterdaylaw14.YearSpans', WHERE WHAT IT READS IS OF BULK AT MOST 1048576: true; the input reads as it did. -/
def yearSpansUptoRow : OpenClaim := { program := "yteppoghpfcmhhaa", sum := "dc6b2f63d2f4fae277a1123b221787ce3afcfaf5c9f5d56c21ff9e4b00db8d01", func := "quarterday/quarterdaylaw14.YearSpans", spec := "yearSpans", unfollowed := true, recurses := true, apart := false, narrowed := true }
def YearSpansUptoSaid : Prop := yearSpansUptoRow.holds Try.pinned (OpenSpec.upto yearSpansSpec)

/-- 'quarterdaylaw14.YearDoes', WHERE WHAT IT READS IS OF BULK AT MOST 1048576: true; the input reads as it did. -/
def yearDoesUptoRow : OpenClaim := { program := "yteppoghpfcmhhaa", sum := "dc6b2f63d2f4fae277a1123b221787ce3afcfaf5c9f5d56c21ff9e4b00db8d01", func := "quarterday/quarterdaylaw14.YearDoes", spec := "yearDoes", unfollowed := true, recurses := true, apart := false, narrowed := true }
def YearDoesUptoSaid : Prop := yearDoesUptoRow.holds Try.pinned (OpenSpec.upto yearDoesSpec)

/-- 'quarterdaylaw14.YearIn', WHERE WHAT IT READS IS OF BULK AT MOST 1048576: true; the input reads as it did. -/
def yearInUptoRow : OpenClaim := { program := "yteppoghpfcmhhaa", sum := "dc6b2f63d2f4fae277a1123b221787ce3afcfaf5c9f5d56c21ff9e4b00db8d01", func := "quarterday/quarterdaylaw14.YearIn", spec := "yearIn", unfollowed := true, recurses := true, apart := false, narrowed := true }
def YearInUptoSaid : Prop := yearInUptoRow.holds Try.pinned (OpenSpec.upto yearInSpec)

/-- 'quarterdaylaw14.YearNext', WHERE WHAT IT READS IS OF BULK AT MOST 1048576: true; the input reads as it did. -/
def yearNextUptoRow : OpenClaim := { program := "yteppoghpfcmhhaa", sum := "dc6b2f63d2f4fae277a1123b221787ce3afcfaf5c9f5d56c21ff9e4b00db8d01", func := "quarterday/quarterdaylaw14.YearNext", spec := "yearNext", unfollowed := true, recurses := true, apart := false, narrowed := true }
def YearNextUptoSaid : Prop := yearNextUptoRow.holds Try.pinned (OpenSpec.upto yearNextSpec)

end Rows
end Go.Proofs.Yteppoghpfcmhhaa
