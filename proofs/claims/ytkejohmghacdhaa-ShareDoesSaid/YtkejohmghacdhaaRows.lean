/-
  No cell of these rows narrows 'for every input' (looked for: loops, veiled, ifaces, maps, wideKeys, modest, calm, conditions, laid).
  DERIVED. THE GIVEN ROWS OF THIS SEAT. 9 by the template 'for every input the law returns true; each argument reads behind the call as it read before'; 0 by the template 'total and deterministic' (their statements: YtkejohmghacdhaaTotals.lean).
  GIVEN WITH THE SEED: the statements are not yours to turn. If you find one false, say at which input.
  Laid BY PROGRAM, IN A SANDBOX (cutbox-rows.mjs): the forced cells as the released guide's own fill.sh prints them over the translation 49cd867218da4bbc… (all of the seat's roots in one cut). By AI agents, Wed Nov 11 2026. No macro, syntax, notation, axiom, sorry.
-/
import Derived.Test.YtkejohmghacdhaaChecked
import GoSem.Claim
import GoSem.ClaimJoined
import GoSem.ClaimMapViews
import Derived.JoinedTies
import Derived.KernelRfl
namespace Go.Proofs.Ytkejohmghacdhaa
/- THE CELL 'sum', in the pinned program and in every row, IS THE sha256 OF THE DUMP (.gsa) THAT YtkejohmghacdhaaProg.lean LOADS. Nothing in Lean hashes anything: it is a label: what it is worth is what the hold of that sum in a sandbox is worth. -/
noncomputable def Try.pinned : Pinned := { name := "ytkejohmghacdhaa", sum := "49cd867218da4bbc96e4476a00e582b010778fa2c9882c250b766e7174ff0bb2", checked := Try.checked }
namespace Rows
def none {H : Type} : Left H := { results := [], args := [] }

/-- 'quarterdaylaw03.RatioMade': WHATEVER THE INPUT: true; the input reads as it did. -/
def ratioMadeSpec : ChangeSpec := { name := "ratioMade", fn := fun _ => fun
  | [d1, d2] => { results := [.lit (.bool true)], args := [d1, d2] }
  | _ => none }
def ratioMadeRow : OpenClaim := { program := "ytkejohmghacdhaa", sum := "49cd867218da4bbc96e4476a00e582b010778fa2c9882c250b766e7174ff0bb2", func := "quarterday/quarterdaylaw03.RatioMade", spec := "ratioMade", apart := false }
def RatioMadeSaid : Prop := ratioMadeRow.holds Try.pinned (OpenSpec.ofChange ratioMadeSpec)

/-- ITS FALSE NEIGHBOUR: 'it returns false'. Refute it at one input. -/
def ratioMadeWrong : ChangeSpec := { name := "ratioMade", fn := fun _ => fun
  | [d1, d2] => { results := [.lit (.bool false)], args := [d1, d2] }
  | _ => none }
def RatioMadeWrongFalsely : Prop := ratioMadeRow.holds Try.pinned (OpenSpec.ofChange ratioMadeWrong)

/-- 'quarterdaylaw03.RatioTells': WHATEVER THE INPUT: true; the input reads as it did. -/
def ratioTellsSpec : ChangeSpec := { name := "ratioTells", fn := fun _ => fun
  | [d1, d2, d3, d4] => { results := [.lit (.bool true)], args := [d1, d2, d3, d4] }
  | _ => none }
def ratioTellsRow : OpenClaim := { program := "ytkejohmghacdhaa", sum := "49cd867218da4bbc96e4476a00e582b010778fa2c9882c250b766e7174ff0bb2", func := "quarterday/quarterdaylaw03.RatioTells", spec := "ratioTells", apart := false }
def RatioTellsSaid : Prop := ratioTellsRow.holds Try.pinned (OpenSpec.ofChange ratioTellsSpec)

/-- ITS FALSE NEIGHBOUR: 'it returns false'. Refute it at one input. -/
def ratioTellsWrong : ChangeSpec := { name := "ratioTells", fn := fun _ => fun
  | [d1, d2, d3, d4] => { results := [.lit (.bool false)], args := [d1, d2, d3, d4] }
  | _ => none }
def RatioTellsWrongFalsely : Prop := ratioTellsRow.holds Try.pinned (OpenSpec.ofChange ratioTellsWrong)

/-- 'quarterdaylaw03.RatioBeside': WHATEVER THE INPUT: true; the input reads as it did. -/
def ratioBesideSpec : ChangeSpec := { name := "ratioBeside", fn := fun _ => fun
  | [d] => { results := [.lit (.bool true)], args := [d] }
  | _ => none }
def ratioBesideRow : OpenClaim := { program := "ytkejohmghacdhaa", sum := "49cd867218da4bbc96e4476a00e582b010778fa2c9882c250b766e7174ff0bb2", func := "quarterday/quarterdaylaw03.RatioBeside", spec := "ratioBeside", apart := false }
def RatioBesideSaid : Prop := ratioBesideRow.holds Try.pinned (OpenSpec.ofChange ratioBesideSpec)

/-- ITS FALSE NEIGHBOUR: 'it returns false'. Refute it at one input. -/
def ratioBesideWrong : ChangeSpec := { name := "ratioBeside", fn := fun _ => fun
  | [d] => { results := [.lit (.bool false)], args := [d] }
  | _ => none }
def RatioBesideWrongFalsely : Prop := ratioBesideRow.holds Try.pinned (OpenSpec.ofChange ratioBesideWrong)

/-- 'quarterdaylaw04.ShareSum': WHATEVER THE INPUT: true; the input reads as it did. -/
def shareSumSpec : ChangeSpec := { name := "shareSum", fn := fun _ => fun
  | [d1, d2] => { results := [.lit (.bool true)], args := [d1, d2] }
  | _ => none }
def shareSumRow : OpenClaim := { program := "ytkejohmghacdhaa", sum := "49cd867218da4bbc96e4476a00e582b010778fa2c9882c250b766e7174ff0bb2", func := "quarterday/quarterdaylaw04.ShareSum", spec := "shareSum", inPlace := ["math/bits.Add64"], unfollowed := true, recurses := true, named := ["math/bits.divideError", "math/bits.overflowError"], apart := false }
def ShareSumSaid : Prop := shareSumRow.holds Try.pinned (OpenSpec.ofChange shareSumSpec)

/-- ITS FALSE NEIGHBOUR: 'it returns false'. Refute it at one input. -/
def shareSumWrong : ChangeSpec := { name := "shareSum", fn := fun _ => fun
  | [d1, d2] => { results := [.lit (.bool false)], args := [d1, d2] }
  | _ => none }
def ShareSumWrongFalsely : Prop := shareSumRow.holds Try.pinned (OpenSpec.ofChange shareSumWrong)

/-- 'quarterdaylaw04.ShareTies': WHATEVER THE INPUT: true; the input reads as it did. -/
def shareTiesSpec : ChangeSpec := { name := "shareTies", fn := fun _ => fun
  | [d1, d2] => { results := [.lit (.bool true)], args := [d1, d2] }
  | _ => none }
def shareTiesRow : OpenClaim := { program := "ytkejohmghacdhaa", sum := "49cd867218da4bbc96e4476a00e582b010778fa2c9882c250b766e7174ff0bb2", func := "quarterday/quarterdaylaw04.ShareTies", spec := "shareTies", inPlace := ["math/bits.Add64"], unfollowed := true, recurses := true, named := ["math/bits.divideError", "math/bits.overflowError"], apart := false }
def ShareTiesSaid : Prop := shareTiesRow.holds Try.pinned (OpenSpec.ofChange shareTiesSpec)

/-- ITS FALSE NEIGHBOUR: 'it returns false'. Refute it at one input. -/
def shareTiesWrong : ChangeSpec := { name := "shareTies", fn := fun _ => fun
  | [d1, d2] => { results := [.lit (.bool false)], args := [d1, d2] }
  | _ => none }
def ShareTiesWrongFalsely : Prop := shareTiesRow.holds Try.pinned (OpenSpec.ofChange shareTiesWrong)

/-- 'quarterdaylaw04.ShareEven': WHATEVER THE INPUT: true; the input reads as it did. -/
def shareEvenSpec : ChangeSpec := { name := "shareEven", fn := fun _ => fun
  | [d1, d2, d3] => { results := [.lit (.bool true)], args := [d1, d2, d3] }
  | _ => none }
def shareEvenRow : OpenClaim := { program := "ytkejohmghacdhaa", sum := "49cd867218da4bbc96e4476a00e582b010778fa2c9882c250b766e7174ff0bb2", func := "quarterday/quarterdaylaw04.ShareEven", spec := "shareEven", inPlace := ["math/bits.Add64"], unfollowed := true, recurses := true, named := ["math/bits.divideError", "math/bits.overflowError"], apart := false }
def ShareEvenSaid : Prop := shareEvenRow.holds Try.pinned (OpenSpec.ofChange shareEvenSpec)

/-- ITS FALSE NEIGHBOUR: 'it returns false'. Refute it at one input. -/
def shareEvenWrong : ChangeSpec := { name := "shareEven", fn := fun _ => fun
  | [d1, d2, d3] => { results := [.lit (.bool false)], args := [d1, d2, d3] }
  | _ => none }
def ShareEvenWrongFalsely : Prop := shareEvenRow.holds Try.pinned (OpenSpec.ofChange shareEvenWrong)

/-- 'quarterdaylaw04.ShareScale': WHATEVER THE INPUT: true; the input reads as it did. -/
def shareScaleSpec : ChangeSpec := { name := "shareScale", fn := fun _ => fun
  | [d1, d2, d3, d4] => { results := [.lit (.bool true)], args := [d1, d2, d3, d4] }
  | _ => none }
def shareScaleRow : OpenClaim := { program := "ytkejohmghacdhaa", sum := "49cd867218da4bbc96e4476a00e582b010778fa2c9882c250b766e7174ff0bb2", func := "quarterday/quarterdaylaw04.ShareScale", spec := "shareScale", inPlace := ["math/bits.Add64"], unfollowed := true, recurses := true, named := ["math/bits.divideError", "math/bits.overflowError"], apart := false }
def ShareScaleSaid : Prop := shareScaleRow.holds Try.pinned (OpenSpec.ofChange shareScaleSpec)

/-- ITS FALSE NEIGHBOUR: 'it returns false'. Refute it at one input. -/
def shareScaleWrong : ChangeSpec := { name := "shareScale", fn := fun _ => fun
  | [d1, d2, d3, d4] => { results := [.lit (.bool false)], args := [d1, d2, d3, d4] }
  | _ => none }
def ShareScaleWrongFalsely : Prop := shareScaleRow.holds Try.pinned (OpenSpec.ofChange shareScaleWrong)

/-- 'quarterdaylaw04.ShareMore': WHATEVER THE INPUT: true; the input reads as it did. -/
def shareMoreSpec : ChangeSpec := { name := "shareMore", fn := fun _ => fun
  | [d1, d2] => { results := [.lit (.bool true)], args := [d1, d2] }
  | _ => none }
def shareMoreRow : OpenClaim := { program := "ytkejohmghacdhaa", sum := "49cd867218da4bbc96e4476a00e582b010778fa2c9882c250b766e7174ff0bb2", func := "quarterday/quarterdaylaw04.ShareMore", spec := "shareMore", inPlace := ["math/bits.Add64"], unfollowed := true, recurses := true, named := ["math/bits.divideError", "math/bits.overflowError"], apart := false }
def ShareMoreSaid : Prop := shareMoreRow.holds Try.pinned (OpenSpec.ofChange shareMoreSpec)

/-- ITS FALSE NEIGHBOUR: 'it returns false'. Refute it at one input. -/
def shareMoreWrong : ChangeSpec := { name := "shareMore", fn := fun _ => fun
  | [d1, d2] => { results := [.lit (.bool false)], args := [d1, d2] }
  | _ => none }
def ShareMoreWrongFalsely : Prop := shareMoreRow.holds Try.pinned (OpenSpec.ofChange shareMoreWrong)

/-- 'quarterdaylaw04.ShareDoes': WHATEVER THE INPUT: true; the input reads as it did. -/
def shareDoesSpec : ChangeSpec := { name := "shareDoes", fn := fun _ => fun
  | [d1, d2] => { results := [.lit (.bool true)], args := [d1, d2] }
  | _ => none }
def shareDoesRow : OpenClaim := { program := "ytkejohmghacdhaa", sum := "49cd867218da4bbc96e4476a00e582b010778fa2c9882c250b766e7174ff0bb2", func := "quarterday/quarterdaylaw04.ShareDoes", spec := "shareDoes", inPlace := ["math/bits.Add64"], unfollowed := true, recurses := true, named := ["math/bits.divideError", "math/bits.overflowError"], apart := false }
def ShareDoesSaid : Prop := shareDoesRow.holds Try.pinned (OpenSpec.ofChange shareDoesSpec)

/-- ITS FALSE NEIGHBOUR: 'it returns false'. Refute it at one input. -/
def shareDoesWrong : ChangeSpec := { name := "shareDoes", fn := fun _ => fun
  | [d1, d2] => { results := [.lit (.bool false)], args := [d1, d2] }
  | _ => none }
def ShareDoesWrongFalsely : Prop := shareDoesRow.holds Try.pinned (OpenSpec.ofChange shareDoesWrong)

/- THE SECOND FORM. 'bulk': how many values and letters a reading holds, each counted each time it is reached (what is shared counts as often as it is met; a slice's spare places count too). A statement '..UptoSaid' is the law's where the arguments, and the package variables that the reading takes, are together of bulk at most 1048576: NARROWER than '..Said'. Prove '..Said' where nothing that the law and all that it calls make is longer than what came in: it says more and counts as full. Else prove '..UptoSaid'. A law counts once. -/
mutual
def uptoBulk {H : Type} : DataW H → Nat
  | .lit (.string bytes) => bytes.length + 1
  | .lit _ => 1
  | .nil => 1
  | .ptr d => uptoBulk d + 1
  | .slice elems spare => uptoBulkAll elems + uptoBulkAll spare + 1
  | .agg parts => uptoBulkAll parts + 1
  | .iface _ d => uptoBulk d + 1
  | .map entries => uptoBulkEntries entries + 1
  | .held _ => 1
def uptoBulkAll {H : Type} : List (DataW H) → Nat
  | [] => 0
  | d :: r => uptoBulk d + uptoBulkAll r
def uptoBulkEntries {H : Type} : List (Lit × DataW H) → Nat
  | [] => 0
  | x :: r => uptoBulkEntry x + uptoBulkEntries r
def uptoBulkEntry {H : Type} : Lit × DataW H → Nat
  | (.string bytes, d) => bytes.length + uptoBulk d + 1
  | (_, d) => uptoBulk d + 1
 end
def uptoSmall : (H : Type) → List (DataW H) → Bool := fun _ ds => decide (uptoBulkAll ds ≤ 1048576)
def OpenSpec.upto (s : _root_.Go.ChangeSpec) : _root_.Go.OpenSpec := { _root_.Go.OpenSpec.ofChange s with cond := some uptoSmall }

/-- 'quarterdaylaw03.RatioMade', WHERE WHAT IT READS IS OF BULK AT MOST 1048576: true; the input reads as it did. -/
def ratioMadeUptoRow : OpenClaim := { program := "ytkejohmghacdhaa", sum := "49cd867218da4bbc96e4476a00e582b010778fa2c9882c250b766e7174ff0bb2", func := "quarterday/quarterdaylaw03.RatioMade", spec := "ratioMade", apart := false, narrowed := true }
def RatioMadeUptoSaid : Prop := ratioMadeUptoRow.holds Try.pinned (OpenSpec.upto ratioMadeSpec)

/-- 'quarterdaylaw03.RatioTells', WHERE WHAT IT READS IS OF BULK AT MOST 1048576: true; the input reads as it did. -/
def ratioTellsUptoRow : OpenClaim := { program := "ytkejohmghacdhaa", sum := "49cd867218da4bbc96e4476a00e582b010778fa2c9882c250b766e7174ff0bb2", func := "quarterday/quarterdaylaw03.RatioTells", spec := "ratioTells", apart := false, narrowed := true }
def RatioTellsUptoSaid : Prop := ratioTellsUptoRow.holds Try.pinned (OpenSpec.upto ratioTellsSpec)

/-- 'quarterdaylaw03.RatioBeside', WHERE WHAT IT READS IS OF BULK AT MOST 1048576: true; the input reads as it did. -/
def ratioBesideUptoRow : OpenClaim := { program := "ytkejohmghacdhaa", sum := "49cd867218da4bbc96e4476a00e582b010778fa2c9882c250b766e7174ff0bb2", func := "quarterday/quarterdaylaw03.RatioBeside", spec := "ratioBeside", apart := false, narrowed := true }
def RatioBesideUptoSaid : Prop := ratioBesideUptoRow.holds Try.pinned (OpenSpec.upto ratioBesideSpec)

/-- 'quarterdaylaw04.ShareSum', WHERE WHAT IT READS IS OF BULK AT MOST 1048576: true; the input reads as it did. -/
def shareSumUptoRow : OpenClaim := { program := "ytkejohmghacdhaa", sum := "49cd867218da4bbc96e4476a00e582b010778fa2c9882c250b766e7174ff0bb2", func := "quarterday/quarterdaylaw04.ShareSum", spec := "shareSum", inPlace := ["math/bits.Add64"], unfollowed := true, recurses := true, named := ["math/bits.divideError", "math/bits.overflowError"], apart := false, narrowed := true }
def ShareSumUptoSaid : Prop := shareSumUptoRow.holds Try.pinned (OpenSpec.upto shareSumSpec)

/-- 'quarterdaylaw04.ShareTies', WHERE WHAT IT READS IS OF BULK AT MOST 1048576: true; the input reads as it did. -/
def shareTiesUptoRow : OpenClaim := { program := "ytkejohmghacdhaa", sum := "49cd867218da4bbc96e4476a00e582b010778fa2c9882c250b766e7174ff0bb2", func := "quarterday/quarterdaylaw04.ShareTies", spec := "shareTies", inPlace := ["math/bits.Add64"], unfollowed := true, recurses := true, named := ["math/bits.divideError", "math/bits.overflowError"], apart := false, narrowed := true }
def ShareTiesUptoSaid : Prop := shareTiesUptoRow.holds Try.pinned (OpenSpec.upto shareTiesSpec)

/-- 'quarterdaylaw04.ShareEven', WHERE WHAT IT READS IS OF BULK AT MOST 1048576: true; the input reads as it did. -/
def shareEvenUptoRow : OpenClaim := { program := "ytkejohmghacdhaa", sum := "49cd867218da4bbc96e4476a00e582b010778fa2c9882c250b766e7174ff0bb2", func := "quarterday/quarterdaylaw04.ShareEven", spec := "shareEven", inPlace := ["math/bits.Add64"], unfollowed := true, recurses := true, named := ["math/bits.divideError", "math/bits.overflowError"], apart := false, narrowed := true }
def ShareEvenUptoSaid : Prop := shareEvenUptoRow.holds Try.pinned (OpenSpec.upto shareEvenSpec)

/-- 'quarterdaylaw04.ShareScale', WHERE WHAT IT READS IS OF BULK AT MOST 1048576: true; the input reads as it did. -/
def shareScaleUptoRow : OpenClaim := { program := "ytkejohmghacdhaa", sum := "49cd867218da4bbc96e4476a00e582b010778fa2c9882c250b766e7174ff0bb2", func := "quarterday/quarterdaylaw04.ShareScale", spec := "shareScale", inPlace := ["math/bits.Add64"], unfollowed := true, recurses := true, named := ["math/bits.divideError", "math/bits.overflowError"], apart := false, narrowed := true }
def ShareScaleUptoSaid : Prop := shareScaleUptoRow.holds Try.pinned (OpenSpec.upto shareScaleSpec)

/-- 'quarterdaylaw04.ShareMore', WHERE WHAT IT READS IS OF BULK AT MOST 1048576: true; the input reads as it did. -/
def shareMoreUptoRow : OpenClaim := { program := "ytkejohmghacdhaa", sum := "49cd867218da4bbc96e4476a00e582b010778fa2c9882c250b766e7174ff0bb2", func := "quarterday/quarterdaylaw04.ShareMore", spec := "shareMore", inPlace := ["math/bits.Add64"], unfollowed := true, recurses := true, named := ["math/bits.divideError", "math/bits.overflowError"], apart := false, narrowed := true }
def ShareMoreUptoSaid : Prop := shareMoreUptoRow.holds Try.pinned (OpenSpec.upto shareMoreSpec)

/-- 'quarterdaylaw04.ShareDoes', WHERE WHAT IT READS IS OF BULK AT MOST 1048576: true; the input reads as it did. -/
def shareDoesUptoRow : OpenClaim := { program := "ytkejohmghacdhaa", sum := "49cd867218da4bbc96e4476a00e582b010778fa2c9882c250b766e7174ff0bb2", func := "quarterday/quarterdaylaw04.ShareDoes", spec := "shareDoes", inPlace := ["math/bits.Add64"], unfollowed := true, recurses := true, named := ["math/bits.divideError", "math/bits.overflowError"], apart := false, narrowed := true }
def ShareDoesUptoSaid : Prop := shareDoesUptoRow.holds Try.pinned (OpenSpec.upto shareDoesSpec)

end Rows
end Go.Proofs.Ytkejohmghacdhaa
