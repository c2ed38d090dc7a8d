/-
  No cell of these rows narrows 'for every input' (looked for: loops, veiled, ifaces, maps, wideKeys, modest, calm, conditions, laid).
  DERIVED. THE GIVEN ROWS OF THIS SEAT. 11 by the template 'for every input the law returns true; each argument reads behind the call as it read before'; 0 by the template 'total and deterministic' (their statements: YtnjjihlknkmllaaTotals.lean).
  GIVEN WITH THE SEED: the statements are not yours to turn. If you find one false, say at which input.
  Laid BY PROGRAM, IN A SANDBOX (cutbox-rows.mjs): the forced cells as the released guide's own fill.sh prints them over the translation 4138b2005178d146… (all of the seat's roots in one cut). By AI agents, Wed Nov 11 2026. No macro, syntax, notation, axiom, sorry.
-/
import Derived.Test.YtnjjihlknkmllaaChecked
import GoSem.Claim
import GoSem.ClaimJoined
import GoSem.ClaimMapViews
import Derived.JoinedTies
import Derived.KernelRfl
namespace Go.Proofs.Ytnjjihlknkmllaa
/- THE CELL 'sum', in the pinned program and in every row, IS THE sha256 OF THE DUMP (.gsa) THAT YtnjjihlknkmllaaProg.lean LOADS. Nothing in Lean hashes anything: it is a label: what it is worth is what the hold of that sum in a sandbox is worth. -/
noncomputable def Try.pinned : Pinned := { name := "ytnjjihlknkmllaa", sum := "4138b2005178d146c342cd4ba22c69d9e9040957a45c7ba5339a9d0ce1e68a8b", checked := Try.checked }
namespace Rows
def none {H : Type} : Left H := { results := [], args := [] }

/-- 'quarterdaylaw01.WholeBack': WHATEVER THE INPUT: true; the input reads as it did. -/
def wholeBackSpec : ChangeSpec := { name := "wholeBack", fn := fun _ => fun
  | [d1, d2] => { results := [.lit (.bool true)], args := [d1, d2] }
  | _ => none }
def wholeBackRow : OpenClaim := { program := "ytnjjihlknkmllaa", sum := "4138b2005178d146c342cd4ba22c69d9e9040957a45c7ba5339a9d0ce1e68a8b", func := "quarterday/quarterdaylaw01.WholeBack", spec := "wholeBack", apart := false }
def WholeBackSaid : Prop := wholeBackRow.holds Try.pinned (OpenSpec.ofChange wholeBackSpec)

/-- ITS FALSE NEIGHBOUR: 'it returns false'. Refute it at one input. -/
def wholeBackWrong : ChangeSpec := { name := "wholeBack", fn := fun _ => fun
  | [d1, d2] => { results := [.lit (.bool false)], args := [d1, d2] }
  | _ => none }
def WholeBackWrongFalsely : Prop := wholeBackRow.holds Try.pinned (OpenSpec.ofChange wholeBackWrong)

/-- 'quarterdaylaw01.WholeDivides': WHATEVER THE INPUT: true; the input reads as it did. -/
def wholeDividesSpec : ChangeSpec := { name := "wholeDivides", fn := fun _ => fun
  | [d1, d2] => { results := [.lit (.bool true)], args := [d1, d2] }
  | _ => none }
def wholeDividesRow : OpenClaim := { program := "ytnjjihlknkmllaa", sum := "4138b2005178d146c342cd4ba22c69d9e9040957a45c7ba5339a9d0ce1e68a8b", func := "quarterday/quarterdaylaw01.WholeDivides", spec := "wholeDivides", apart := false }
def WholeDividesSaid : Prop := wholeDividesRow.holds Try.pinned (OpenSpec.ofChange wholeDividesSpec)

/-- ITS FALSE NEIGHBOUR: 'it returns false'. Refute it at one input. -/
def wholeDividesWrong : ChangeSpec := { name := "wholeDivides", fn := fun _ => fun
  | [d1, d2] => { results := [.lit (.bool false)], args := [d1, d2] }
  | _ => none }
def WholeDividesWrongFalsely : Prop := wholeDividesRow.holds Try.pinned (OpenSpec.ofChange wholeDividesWrong)

/-- 'quarterdaylaw01.WholeOrder': WHATEVER THE INPUT: true; the input reads as it did. -/
def wholeOrderSpec : ChangeSpec := { name := "wholeOrder", fn := fun _ => fun
  | [d1, d2, d3] => { results := [.lit (.bool true)], args := [d1, d2, d3] }
  | _ => none }
def wholeOrderRow : OpenClaim := { program := "ytnjjihlknkmllaa", sum := "4138b2005178d146c342cd4ba22c69d9e9040957a45c7ba5339a9d0ce1e68a8b", func := "quarterday/quarterdaylaw01.WholeOrder", spec := "wholeOrder", apart := false }
def WholeOrderSaid : Prop := wholeOrderRow.holds Try.pinned (OpenSpec.ofChange wholeOrderSpec)

/-- ITS FALSE NEIGHBOUR: 'it returns false'. Refute it at one input. -/
def wholeOrderWrong : ChangeSpec := { name := "wholeOrder", fn := fun _ => fun
  | [d1, d2, d3] => { results := [.lit (.bool false)], args := [d1, d2, d3] }
  | _ => none }
def WholeOrderWrongFalsely : Prop := wholeOrderRow.holds Try.pinned (OpenSpec.ofChange wholeOrderWrong)

/-- 'quarterdaylaw02.WideSums': WHATEVER THE INPUT: true; the input reads as it did. -/
def wideSumsSpec : ChangeSpec := { name := "wideSums", fn := fun _ => fun
  | [d] => { results := [.lit (.bool true)], args := [d] }
  | _ => none }
def wideSumsRow : OpenClaim := { program := "ytnjjihlknkmllaa", sum := "4138b2005178d146c342cd4ba22c69d9e9040957a45c7ba5339a9d0ce1e68a8b", func := "quarterday/quarterdaylaw02.WideSums", spec := "wideSums", inPlace := ["math/bits.Add64"], apart := false }
def WideSumsSaid : Prop := wideSumsRow.holds Try.pinned (OpenSpec.ofChange wideSumsSpec)

/-- ITS FALSE NEIGHBOUR: 'it returns false'. Refute it at one input. -/
def wideSumsWrong : ChangeSpec := { name := "wideSums", fn := fun _ => fun
  | [d] => { results := [.lit (.bool false)], args := [d] }
  | _ => none }
def WideSumsWrongFalsely : Prop := wideSumsRow.holds Try.pinned (OpenSpec.ofChange wideSumsWrong)

/-- 'quarterdaylaw02.WideBack': WHATEVER THE INPUT: true; the input reads as it did. -/
def wideBackSpec : ChangeSpec := { name := "wideBack", fn := fun _ => fun
  | [d1, d2, d3] => { results := [.lit (.bool true)], args := [d1, d2, d3] }
  | _ => none }
def wideBackRow : OpenClaim := { program := "ytnjjihlknkmllaa", sum := "4138b2005178d146c342cd4ba22c69d9e9040957a45c7ba5339a9d0ce1e68a8b", func := "quarterday/quarterdaylaw02.WideBack", spec := "wideBack", inPlace := ["math/bits.Add64"], apart := false }
def WideBackSaid : Prop := wideBackRow.holds Try.pinned (OpenSpec.ofChange wideBackSpec)

/-- ITS FALSE NEIGHBOUR: 'it returns false'. Refute it at one input. -/
def wideBackWrong : ChangeSpec := { name := "wideBack", fn := fun _ => fun
  | [d1, d2, d3] => { results := [.lit (.bool false)], args := [d1, d2, d3] }
  | _ => none }
def WideBackWrongFalsely : Prop := wideBackRow.holds Try.pinned (OpenSpec.ofChange wideBackWrong)

/-- 'quarterdaylaw02.WideOrders': WHATEVER THE INPUT: true; the input reads as it did. -/
def wideOrdersSpec : ChangeSpec := { name := "wideOrders", fn := fun _ => fun
  | [d1, d2, d3] => { results := [.lit (.bool true)], args := [d1, d2, d3] }
  | _ => none }
def wideOrdersRow : OpenClaim := { program := "ytnjjihlknkmllaa", sum := "4138b2005178d146c342cd4ba22c69d9e9040957a45c7ba5339a9d0ce1e68a8b", func := "quarterday/quarterdaylaw02.WideOrders", spec := "wideOrders", inPlace := ["math/bits.Add64"], apart := false }
def WideOrdersSaid : Prop := wideOrdersRow.holds Try.pinned (OpenSpec.ofChange wideOrdersSpec)

/-- ITS FALSE NEIGHBOUR: 'it returns false'. Refute it at one input. -/
def wideOrdersWrong : ChangeSpec := { name := "wideOrders", fn := fun _ => fun
  | [d1, d2, d3] => { results := [.lit (.bool false)], args := [d1, d2, d3] }
  | _ => none }
def WideOrdersWrongFalsely : Prop := wideOrdersRow.holds Try.pinned (OpenSpec.ofChange wideOrdersWrong)

/-- 'quarterdaylaw02.WideDoes': WHATEVER THE INPUT: true; the input reads as it did. -/
def wideDoesSpec : ChangeSpec := { name := "wideDoes", fn := fun _ => fun
  | [d1, d2] => { results := [.lit (.bool true)], args := [d1, d2] }
  | _ => none }
def wideDoesRow : OpenClaim := { program := "ytnjjihlknkmllaa", sum := "4138b2005178d146c342cd4ba22c69d9e9040957a45c7ba5339a9d0ce1e68a8b", func := "quarterday/quarterdaylaw02.WideDoes", spec := "wideDoes", inPlace := ["math/bits.Add64"], apart := false }
def WideDoesSaid : Prop := wideDoesRow.holds Try.pinned (OpenSpec.ofChange wideDoesSpec)

/-- ITS FALSE NEIGHBOUR: 'it returns false'. Refute it at one input. -/
def wideDoesWrong : ChangeSpec := { name := "wideDoes", fn := fun _ => fun
  | [d1, d2] => { results := [.lit (.bool false)], args := [d1, d2] }
  | _ => none }
def WideDoesWrongFalsely : Prop := wideDoesRow.holds Try.pinned (OpenSpec.ofChange wideDoesWrong)

/-- 'quarterdaylaw02.WideOrder': WHATEVER THE INPUT: true; the input reads as it did. -/
def wideOrderSpec : ChangeSpec := { name := "wideOrder", fn := fun _ => fun
  | [d1, d2] => { results := [.lit (.bool true)], args := [d1, d2] }
  | _ => none }
def wideOrderRow : OpenClaim := { program := "ytnjjihlknkmllaa", sum := "4138b2005178d146c342cd4ba22c69d9e9040957a45c7ba5339a9d0ce1e68a8b", func := "quarterday/quarterdaylaw02.WideOrder", spec := "wideOrder", inPlace := ["math/bits.Add64"], apart := false }
def WideOrderSaid : Prop := wideOrderRow.holds Try.pinned (OpenSpec.ofChange wideOrderSpec)

/-- ITS FALSE NEIGHBOUR: 'it returns false'. Refute it at one input. -/
def wideOrderWrong : ChangeSpec := { name := "wideOrder", fn := fun _ => fun
  | [d1, d2] => { results := [.lit (.bool false)], args := [d1, d2] }
  | _ => none }
def WideOrderWrongFalsely : Prop := wideOrderRow.holds Try.pinned (OpenSpec.ofChange wideOrderWrong)

/-- 'quarterdaylaw02.WideWhole': WHATEVER THE INPUT: true; the input reads as it did. -/
def wideWholeSpec : ChangeSpec := { name := "wideWhole", fn := fun _ => fun
  | [d1, d2, d3, d4] => { results := [.lit (.bool true)], args := [d1, d2, d3, d4] }
  | _ => none }
def wideWholeRow : OpenClaim := { program := "ytnjjihlknkmllaa", sum := "4138b2005178d146c342cd4ba22c69d9e9040957a45c7ba5339a9d0ce1e68a8b", func := "quarterday/quarterdaylaw02.WideWhole", spec := "wideWhole", inPlace := ["math/bits.Add64"], named := ["math/bits.divideError", "math/bits.overflowError"], apart := false }
def WideWholeSaid : Prop := wideWholeRow.holds Try.pinned (OpenSpec.ofChange wideWholeSpec)

/-- ITS FALSE NEIGHBOUR: 'it returns false'. Refute it at one input. -/
def wideWholeWrong : ChangeSpec := { name := "wideWhole", fn := fun _ => fun
  | [d1, d2, d3, d4] => { results := [.lit (.bool false)], args := [d1, d2, d3, d4] }
  | _ => none }
def WideWholeWrongFalsely : Prop := wideWholeRow.holds Try.pinned (OpenSpec.ofChange wideWholeWrong)

/-- 'quarterdaylaw02.WideDivides': WHATEVER THE INPUT: true; the input reads as it did. -/
def wideDividesSpec : ChangeSpec := { name := "wideDivides", fn := fun _ => fun
  | [d1, d2, d3, d4] => { results := [.lit (.bool true)], args := [d1, d2, d3, d4] }
  | _ => none }
def wideDividesRow : OpenClaim := { program := "ytnjjihlknkmllaa", sum := "4138b2005178d146c342cd4ba22c69d9e9040957a45c7ba5339a9d0ce1e68a8b", func := "quarterday/quarterdaylaw02.WideDivides", spec := "wideDivides", inPlace := ["math/bits.Add64"], named := ["math/bits.divideError", "math/bits.overflowError"], apart := false }
def WideDividesSaid : Prop := wideDividesRow.holds Try.pinned (OpenSpec.ofChange wideDividesSpec)

/-- ITS FALSE NEIGHBOUR: 'it returns false'. Refute it at one input. -/
def wideDividesWrong : ChangeSpec := { name := "wideDivides", fn := fun _ => fun
  | [d1, d2, d3, d4] => { results := [.lit (.bool false)], args := [d1, d2, d3, d4] }
  | _ => none }
def WideDividesWrongFalsely : Prop := wideDividesRow.holds Try.pinned (OpenSpec.ofChange wideDividesWrong)

/-- 'quarterdaylaw02.WideSmall': WHATEVER THE INPUT: true; the input reads as it did. -/
def wideSmallSpec : ChangeSpec := { name := "wideSmall", fn := fun _ => fun
  | [d1, d2, d3] => { results := [.lit (.bool true)], args := [d1, d2, d3] }
  | _ => none }
def wideSmallRow : OpenClaim := { program := "ytnjjihlknkmllaa", sum := "4138b2005178d146c342cd4ba22c69d9e9040957a45c7ba5339a9d0ce1e68a8b", func := "quarterday/quarterdaylaw02.WideSmall", spec := "wideSmall", inPlace := ["math/bits.Add64"], named := ["math/bits.divideError", "math/bits.overflowError"], apart := false }
def WideSmallSaid : Prop := wideSmallRow.holds Try.pinned (OpenSpec.ofChange wideSmallSpec)

/-- ITS FALSE NEIGHBOUR: 'it returns false'. Refute it at one input. -/
def wideSmallWrong : ChangeSpec := { name := "wideSmall", fn := fun _ => fun
  | [d1, d2, d3] => { results := [.lit (.bool false)], args := [d1, d2, d3] }
  | _ => none }
def WideSmallWrongFalsely : Prop := wideSmallRow.holds Try.pinned (OpenSpec.ofChange wideSmallWrong)

/- THE SECOND FORM. 'bulk': how many values and letters a reading holds, each counted each time it is reached (what is shared counts as often as it is met; a slice's spare places count too). A statement '..UptoSaid' is the law's where the arguments, and the package variables that the reading takes, are together of bulk at most 1048576: NARROWER than '..Said'. Prove '..Said' where nothing that the law and all that it calls make is longer than what came in: it says more and counts as full. Else prove '..UptoSaid'. A law counts once. -/
mutual
def uptoBulk {H : Type} : DataW H → Nat
  | .lit (.string bytes) => bytes.length + 1
  | .lit _ => 1
  | .nil => 1
  | .ptr d => uptoBulk d + 1
  | .slice elems spare => uptoBulkAll elems + uptoBulkAll spare + 1
  | .agg parts => uptoBulkAll parts + 1
  | .iface _ d => uptoBulk d + 1
  | .map entries => uptoBulkEntries entries + 1
  | .held _ => 1
def uptoBulkAll {H : Type} : List (DataW H) → Nat
  | [] => 0
  | d :: r => uptoBulk d + uptoBulkAll r
def uptoBulkEntries {H : Type} : List (Lit × DataW H) → Nat
  | [] => 0
  | x :: r => uptoBulkEntry x + uptoBulkEntries r
def uptoBulkEntry {H : Type} : Lit × DataW H → Nat
  | (.string bytes, d) => bytes.length + uptoBulk d + 1
  | (_, d) => uptoBulk d + 1
 end
def uptoSmall : (H : Type) → List (DataW H) → Bool := fun _ ds => decide (uptoBulkAll ds ≤ 1048576)
def OpenSpec.upto (s : _root_.Go.ChangeSpec) : _root_.Go.OpenSpec := { _root_.Go.OpenSpec.ofChange s with cond := some uptoSmall }

/-- 'quarterdaylaw01.WholeBack', WHERE WHAT IT READS IS OF BULK AT MOST 1048576: true; the input reads as it did. -/
def wholeBackUptoRow : OpenClaim := { program := "ytnjjihlknkmllaa", sum := "4138b2005178d146c342cd4ba22c69d9e9040957a45c7ba5339a9d0ce1e68a8b", func := "quarterday/quarterdaylaw01.WholeBack", spec := "wholeBack", apart := false, narrowed := true }
def WholeBackUptoSaid : Prop := wholeBackUptoRow.holds Try.pinned (OpenSpec.upto wholeBackSpec)

/-- 'quarterdaylaw01.WholeDivides', WHERE WHAT IT READS IS OF BULK AT MOST 1048576: true; the input reads as it did. -/
def wholeDividesUptoRow : OpenClaim := { program := "ytnjjihlknkmllaa", sum := "4138b2005178d146c342cd4ba22c69d9e9040957a45c7ba5339a9d0ce1e68a8b", func := "quarterday/quarterdaylaw01.WholeDivides", spec := "wholeDivides", apart := false, narrowed := true }
def WholeDividesUptoSaid : Prop := wholeDividesUptoRow.holds Try.pinned (OpenSpec.upto wholeDividesSpec)

/-- 'quarterdaylaw01.WholeOrder', WHERE WHAT IT READS IS OF BULK AT MOST 1048576: true; the input reads as it did. -/
def wholeOrderUptoRow : OpenClaim := { program := "ytnjjihlknkmllaa", sum := "4138b2005178d146c342cd4ba22c69d9e9040957a45c7ba5339a9d0ce1e68a8b", func := "quarterday/quarterdaylaw01.WholeOrder", spec := "wholeOrder", apart := false, narrowed := true }
def WholeOrderUptoSaid : Prop := wholeOrderUptoRow.holds Try.pinned (OpenSpec.upto wholeOrderSpec)

/-- 'quarterdaylaw02.WideSums', WHERE WHAT IT READS IS OF BULK AT MOST 1048576: true; the input reads as it did. -/
def wideSumsUptoRow : OpenClaim := { program := "ytnjjihlknkmllaa", sum := "4138b2005178d146c342cd4ba22c69d9e9040957a45c7ba5339a9d0ce1e68a8b", func := "quarterday/quarterdaylaw02.WideSums", spec := "wideSums", inPlace := ["math/bits.Add64"], apart := false, narrowed := true }
def WideSumsUptoSaid : Prop := wideSumsUptoRow.holds Try.pinned (OpenSpec.upto wideSumsSpec)

/-- 'quarterdaylaw02.WideBack', WHERE WHAT IT READS IS OF BULK AT MOST 1048576: true; the input reads as it did. -/
def wideBackUptoRow : OpenClaim := { program := "ytnjjihlknkmllaa", sum := "4138b2005178d146c342cd4ba22c69d9e9040957a45c7ba5339a9d0ce1e68a8b", func := "quarterday/quarterdaylaw02.WideBack", spec := "wideBack", inPlace := ["math/bits.Add64"], apart := false, narrowed := true }
def WideBackUptoSaid : Prop := wideBackUptoRow.holds Try.pinned (OpenSpec.upto wideBackSpec)

/-- 'quarterdaylaw02.WideOrders', WHERE WHAT IT READS IS OF BULK AT MOST 1048576: true; the input reads as it did. -/
def wideOrdersUptoRow : OpenClaim := { program := "ytnjjihlknkmllaa", sum := "4138b2005178d146c342cd4ba22c69d9e9040957a45c7ba5339a9d0ce1e68a8b", func := "quarterday/quarterdaylaw02.WideOrders", spec := "wideOrders", inPlace := ["math/bits.Add64"], apart := false, narrowed := true }
def WideOrdersUptoSaid : Prop := wideOrdersUptoRow.holds Try.pinned (OpenSpec.upto wideOrdersSpec)

/-- 'quarterdaylaw02.WideDoes', WHERE WHAT IT READS IS OF BULK AT MOST 1048576: true; the input reads as it did. -/
def wideDoesUptoRow : OpenClaim := { program := "ytnjjihlknkmllaa", sum := "4138b2005178d146c342cd4ba22c69d9e9040957a45c7ba5339a9d0ce1e68a8b", func := "quarterday/quarterdaylaw02.WideDoes", spec := "wideDoes", inPlace := ["math/bits.Add64"], apart := false, narrowed := true }
def WideDoesUptoSaid : Prop := wideDoesUptoRow.holds Try.pinned (OpenSpec.upto wideDoesSpec)

/-- 'quarterdaylaw02.WideOrder', WHERE WHAT IT READS IS OF BULK AT MOST 1048576: true; the input reads as it did. -/
def wideOrderUptoRow : OpenClaim := { program := "ytnjjihlknkmllaa", sum := "4138b2005178d146c342cd4ba22c69d9e9040957a45c7ba5339a9d0ce1e68a8b", func := "quarterday/quarterdaylaw02.WideOrder", spec := "wideOrder", inPlace := ["math/bits.Add64"], apart := false, narrowed := true }
def WideOrderUptoSaid : Prop := wideOrderUptoRow.holds Try.pinned (OpenSpec.upto wideOrderSpec)

/-- 'quarterdaylaw02.WideWhole', WHERE WHAT IT READS IS OF BULK AT MOST 1048576: true; the input reads as it did. -/
def wideWholeUptoRow : OpenClaim := { program := "ytnjjihlknkmllaa", sum := "4138b2005178d146c342cd4ba22c69d9e9040957a45c7ba5339a9d0ce1e68a8b", func := "quarterday/quarterdaylaw02.WideWhole", spec := "wideWhole", inPlace := ["math/bits.Add64"], named := ["math/bits.divideError", "math/bits.overflowError"], apart := false, narrowed := true }
def WideWholeUptoSaid : Prop := wideWholeUptoRow.holds Try.pinned (OpenSpec.upto wideWholeSpec)

/-- 'quarterdaylaw02.WideDivides', WHERE WHAT IT READS IS OF BULK AT MOST 1048576: true; the input reads as it did. -/
def wideDividesUptoRow : OpenClaim := { program := "ytnjjihlknkmllaa", sum := "4138b2005178d146c342cd4ba22c69d9e9040957a45c7ba5339a9d0ce1e68a8b", func := "quarterday/quarterdaylaw02.WideDivides", spec := "wideDivides", inPlace := ["math/bits.Add64"], named := ["math/bits.divideError", "math/bits.overflowError"], apart := false, narrowed := true }
def WideDividesUptoSaid : Prop := wideDividesUptoRow.holds Try.pinned (OpenSpec.upto wideDividesSpec)

/-- 'quarterdaylaw02.WideSmall', WHERE WHAT IT READS IS OF BULK AT MOST 1048576: true; the input reads as it did. -/
def wideSmallUptoRow : OpenClaim := { program := "ytnjjihlknkmllaa", sum := "4138b2005178d146c342cd4ba22c69d9e9040957a45c7ba5339a9d0ce1e68a8b", func := "quarterday/quarterdaylaw02.WideSmall", spec := "wideSmall", inPlace := ["math/bits.Add64"], named := ["math/bits.divideError", "math/bits.overflowError"], apart := false, narrowed := true }
def WideSmallUptoSaid : Prop := wideSmallUptoRow.holds Try.pinned (OpenSpec.upto wideSmallSpec)

end Rows
end Go.Proofs.Ytnjjihlknkmllaa
