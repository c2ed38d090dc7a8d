/-
  No cell of these rows narrows 'for every input' (looked for: loops, veiled, ifaces, maps, wideKeys, modest, calm, conditions, laid).
  DERIVED. THE GIVEN ROWS OF THIS SEAT. 14 by the template 'for every input the law returns true; each argument reads behind the call as it read before'; 0 by the template 'total and deterministic' (their statements: YtmkpkghhalpfaaaTotals.lean).
  GIVEN WITH THE SEED: the statements are not yours to turn. If you find one false, say at which input.
  Laid BY PROGRAM, IN A SANDBOX (cutbox-rows.mjs): the forced cells as the released guide's own fill.sh prints them over the translation 36f4efde116f60a3… (all of the seat's roots in one cut). By AI agents, Wed Nov 11 2026. No macro, syntax, notation, axiom, sorry.
-/
import Derived.Test.YtmkpkghhalpfaaaChecked
import GoSem.Claim
import GoSem.ClaimJoined
import GoSem.ClaimMapViews
import Derived.JoinedTies
import Derived.KernelRfl
namespace Go.Proofs.Ytmkpkghhalpfaaa
/- THE CELL 'sum', in the pinned program and in every row, IS THE sha256 OF THE DUMP (.gsa) THAT YtmkpkghhalpfaaaProg.lean LOADS. Nothing in Lean hashes anything: it is a label: what it is worth is what the hold of that sum in a sandbox is worth. -/
noncomputable def Try.pinned : Pinned := { name := "ytmkpkghhalpfaaa", sum := "36f4efde116f60a310b994dcb932359e6a3b2d75ef19cdb390e50d586b50b092", checked := Try.checked }
namespace Rows
def none {H : Type} : Left H := { results := [], args := [] }

/-- 'quarterdaylaw05.CivilTells': WHATEVER THE INPUT: true; the input reads as it did. -/
def civilTellsSpec : ChangeSpec := { name := "civilTells", fn := fun _ => fun
  | [d1, d2, d3] => { results := [.lit (.bool true)], args := [d1, d2, d3] }
  | _ => none }
def civilTellsRow : OpenClaim := { program := "ytmkpkghhalpfaaa", sum := "36f4efde116f60a310b994dcb932359e6a3b2d75ef19cdb390e50d586b50b092", func := "quarterday/quarterdaylaw05.CivilTells", spec := "civilTells", apart := false }
def CivilTellsSaid : Prop := civilTellsRow.holds Try.pinned (OpenSpec.ofChange civilTellsSpec)

/-- ITS FALSE NEIGHBOUR: 'it returns false'. Refute it at one input. -/
def civilTellsWrong : ChangeSpec := { name := "civilTells", fn := fun _ => fun
  | [d1, d2, d3] => { results := [.lit (.bool false)], args := [d1, d2, d3] }
  | _ => none }
def CivilTellsWrongFalsely : Prop := civilTellsRow.holds Try.pinned (OpenSpec.ofChange civilTellsWrong)

/-- 'quarterdaylaw05.CivilYears': WHATEVER THE INPUT: true; the input reads as it did. -/
def civilYearsSpec : ChangeSpec := { name := "civilYears", fn := fun _ => fun
  | [d] => { results := [.lit (.bool true)], args := [d] }
  | _ => none }
def civilYearsRow : OpenClaim := { program := "ytmkpkghhalpfaaa", sum := "36f4efde116f60a310b994dcb932359e6a3b2d75ef19cdb390e50d586b50b092", func := "quarterday/quarterdaylaw05.CivilYears", spec := "civilYears", apart := false }
def CivilYearsSaid : Prop := civilYearsRow.holds Try.pinned (OpenSpec.ofChange civilYearsSpec)

/-- ITS FALSE NEIGHBOUR: 'it returns false'. Refute it at one input. -/
def civilYearsWrong : ChangeSpec := { name := "civilYears", fn := fun _ => fun
  | [d] => { results := [.lit (.bool false)], args := [d] }
  | _ => none }
def CivilYearsWrongFalsely : Prop := civilYearsRow.holds Try.pinned (OpenSpec.ofChange civilYearsWrong)

/-- 'quarterdaylaw05.CivilOrder': WHATEVER THE INPUT: true; the input reads as it did. -/
def civilOrderSpec : ChangeSpec := { name := "civilOrder", fn := fun _ => fun
  | [d1, d2] => { results := [.lit (.bool true)], args := [d1, d2] }
  | _ => none }
def civilOrderRow : OpenClaim := { program := "ytmkpkghhalpfaaa", sum := "36f4efde116f60a310b994dcb932359e6a3b2d75ef19cdb390e50d586b50b092", func := "quarterday/quarterdaylaw05.CivilOrder", spec := "civilOrder", apart := false }
def CivilOrderSaid : Prop := civilOrderRow.holds Try.pinned (OpenSpec.ofChange civilOrderSpec)

/-- ITS FALSE NEIGHBOUR: 'it returns false'. Refute it at one input. -/
def civilOrderWrong : ChangeSpec := { name := "civilOrder", fn := fun _ => fun
  | [d1, d2] => { results := [.lit (.bool false)], args := [d1, d2] }
  | _ => none }
def CivilOrderWrongFalsely : Prop := civilOrderRow.holds Try.pinned (OpenSpec.ofChange civilOrderWrong)

/-- 'quarterdaylaw05.CivilAdds': WHATEVER THE INPUT: true; the input reads as it did. -/
def civilAddsSpec : ChangeSpec := { name := "civilAdds", fn := fun _ => fun
  | [d1, d2, d3] => { results := [.lit (.bool true)], args := [d1, d2, d3] }
  | _ => none }
def civilAddsRow : OpenClaim := { program := "ytmkpkghhalpfaaa", sum := "36f4efde116f60a310b994dcb932359e6a3b2d75ef19cdb390e50d586b50b092", func := "quarterday/quarterdaylaw05.CivilAdds", spec := "civilAdds", apart := false }
def CivilAddsSaid : Prop := civilAddsRow.holds Try.pinned (OpenSpec.ofChange civilAddsSpec)

/-- ITS FALSE NEIGHBOUR: 'it returns false'. Refute it at one input. -/
def civilAddsWrong : ChangeSpec := { name := "civilAdds", fn := fun _ => fun
  | [d1, d2, d3] => { results := [.lit (.bool false)], args := [d1, d2, d3] }
  | _ => none }
def CivilAddsWrongFalsely : Prop := civilAddsRow.holds Try.pinned (OpenSpec.ofChange civilAddsWrong)

/-- 'quarterdaylaw05.CivilBack': WHATEVER THE INPUT: true; the input reads as it did. -/
def civilBackSpec : ChangeSpec := { name := "civilBack", fn := fun _ => fun
  | [d1, d2] => { results := [.lit (.bool true)], args := [d1, d2] }
  | _ => none }
def civilBackRow : OpenClaim := { program := "ytmkpkghhalpfaaa", sum := "36f4efde116f60a310b994dcb932359e6a3b2d75ef19cdb390e50d586b50b092", func := "quarterday/quarterdaylaw05.CivilBack", spec := "civilBack", apart := false }
def CivilBackSaid : Prop := civilBackRow.holds Try.pinned (OpenSpec.ofChange civilBackSpec)

/-- ITS FALSE NEIGHBOUR: 'it returns false'. Refute it at one input. -/
def civilBackWrong : ChangeSpec := { name := "civilBack", fn := fun _ => fun
  | [d1, d2] => { results := [.lit (.bool false)], args := [d1, d2] }
  | _ => none }
def CivilBackWrongFalsely : Prop := civilBackRow.holds Try.pinned (OpenSpec.ofChange civilBackWrong)

/-- 'quarterdaylaw05.CivilDoes': WHATEVER THE INPUT: true; the input reads as it did. -/
def civilDoesSpec : ChangeSpec := { name := "civilDoes", fn := fun _ => fun
  | [d1, d2, d3] => { results := [.lit (.bool true)], args := [d1, d2, d3] }
  | _ => none }
def civilDoesRow : OpenClaim := { program := "ytmkpkghhalpfaaa", sum := "36f4efde116f60a310b994dcb932359e6a3b2d75ef19cdb390e50d586b50b092", func := "quarterday/quarterdaylaw05.CivilDoes", spec := "civilDoes", apart := false }
def CivilDoesSaid : Prop := civilDoesRow.holds Try.pinned (OpenSpec.ofChange civilDoesSpec)

/-- ITS FALSE NEIGHBOUR: 'it returns false'. Refute it at one input. -/
def civilDoesWrong : ChangeSpec := { name := "civilDoes", fn := fun _ => fun
  | [d1, d2, d3] => { results := [.lit (.bool false)], args := [d1, d2, d3] }
  | _ => none }
def CivilDoesWrongFalsely : Prop := civilDoesRow.holds Try.pinned (OpenSpec.ofChange civilDoesWrong)

/-- 'quarterdaylaw05.CivilNext': WHATEVER THE INPUT: true; the input reads as it did. -/
def civilNextSpec : ChangeSpec := { name := "civilNext", fn := fun _ => fun
  | [d] => { results := [.lit (.bool true)], args := [d] }
  | _ => none }
def civilNextRow : OpenClaim := { program := "ytmkpkghhalpfaaa", sum := "36f4efde116f60a310b994dcb932359e6a3b2d75ef19cdb390e50d586b50b092", func := "quarterday/quarterdaylaw05.CivilNext", spec := "civilNext", apart := false }
def CivilNextSaid : Prop := civilNextRow.holds Try.pinned (OpenSpec.ofChange civilNextSpec)

/-- ITS FALSE NEIGHBOUR: 'it returns false'. Refute it at one input. -/
def civilNextWrong : ChangeSpec := { name := "civilNext", fn := fun _ => fun
  | [d] => { results := [.lit (.bool false)], args := [d] }
  | _ => none }
def CivilNextWrongFalsely : Prop := civilNextRow.holds Try.pinned (OpenSpec.ofChange civilNextWrong)

/-- 'quarterdaylaw06.WeekDoes': WHATEVER THE INPUT: true; the input reads as it did. -/
def weekDoesSpec : ChangeSpec := { name := "weekDoes", fn := fun _ => fun
  | [d1, d2, d3] => { results := [.lit (.bool true)], args := [d1, d2, d3] }
  | _ => none }
def weekDoesRow : OpenClaim := { program := "ytmkpkghhalpfaaa", sum := "36f4efde116f60a310b994dcb932359e6a3b2d75ef19cdb390e50d586b50b092", func := "quarterday/quarterdaylaw06.WeekDoes", spec := "weekDoes", apart := false }
def WeekDoesSaid : Prop := weekDoesRow.holds Try.pinned (OpenSpec.ofChange weekDoesSpec)

/-- ITS FALSE NEIGHBOUR: 'it returns false'. Refute it at one input. -/
def weekDoesWrong : ChangeSpec := { name := "weekDoes", fn := fun _ => fun
  | [d1, d2, d3] => { results := [.lit (.bool false)], args := [d1, d2, d3] }
  | _ => none }
def WeekDoesWrongFalsely : Prop := weekDoesRow.holds Try.pinned (OpenSpec.ofChange weekDoesWrong)

/-- 'quarterdaylaw06.WeekBack': WHATEVER THE INPUT: true; the input reads as it did. -/
def weekBackSpec : ChangeSpec := { name := "weekBack", fn := fun _ => fun
  | [d1, d2] => { results := [.lit (.bool true)], args := [d1, d2] }
  | _ => none }
def weekBackRow : OpenClaim := { program := "ytmkpkghhalpfaaa", sum := "36f4efde116f60a310b994dcb932359e6a3b2d75ef19cdb390e50d586b50b092", func := "quarterday/quarterdaylaw06.WeekBack", spec := "weekBack", apart := false }
def WeekBackSaid : Prop := weekBackRow.holds Try.pinned (OpenSpec.ofChange weekBackSpec)

/-- ITS FALSE NEIGHBOUR: 'it returns false'. Refute it at one input. -/
def weekBackWrong : ChangeSpec := { name := "weekBack", fn := fun _ => fun
  | [d1, d2] => { results := [.lit (.bool false)], args := [d1, d2] }
  | _ => none }
def WeekBackWrongFalsely : Prop := weekBackRow.holds Try.pinned (OpenSpec.ofChange weekBackWrong)

/-- 'quarterdaylaw06.WeekNext': WHATEVER THE INPUT: true; the input reads as it did. -/
def weekNextSpec : ChangeSpec := { name := "weekNext", fn := fun _ => fun
  | [d] => { results := [.lit (.bool true)], args := [d] }
  | _ => none }
def weekNextRow : OpenClaim := { program := "ytmkpkghhalpfaaa", sum := "36f4efde116f60a310b994dcb932359e6a3b2d75ef19cdb390e50d586b50b092", func := "quarterday/quarterdaylaw06.WeekNext", spec := "weekNext", apart := false }
def WeekNextSaid : Prop := weekNextRow.holds Try.pinned (OpenSpec.ofChange weekNextSpec)

/-- ITS FALSE NEIGHBOUR: 'it returns false'. Refute it at one input. -/
def weekNextWrong : ChangeSpec := { name := "weekNext", fn := fun _ => fun
  | [d] => { results := [.lit (.bool false)], args := [d] }
  | _ => none }
def WeekNextWrongFalsely : Prop := weekNextRow.holds Try.pinned (OpenSpec.ofChange weekNextWrong)

/-- 'quarterdaylaw06.WeekFirst': WHATEVER THE INPUT: true; the input reads as it did. -/
def weekFirstSpec : ChangeSpec := { name := "weekFirst", fn := fun _ => fun
  | [d] => { results := [.lit (.bool true)], args := [d] }
  | _ => none }
def weekFirstRow : OpenClaim := { program := "ytmkpkghhalpfaaa", sum := "36f4efde116f60a310b994dcb932359e6a3b2d75ef19cdb390e50d586b50b092", func := "quarterday/quarterdaylaw06.WeekFirst", spec := "weekFirst", apart := false }
def WeekFirstSaid : Prop := weekFirstRow.holds Try.pinned (OpenSpec.ofChange weekFirstSpec)

/-- ITS FALSE NEIGHBOUR: 'it returns false'. Refute it at one input. -/
def weekFirstWrong : ChangeSpec := { name := "weekFirst", fn := fun _ => fun
  | [d] => { results := [.lit (.bool false)], args := [d] }
  | _ => none }
def WeekFirstWrongFalsely : Prop := weekFirstRow.holds Try.pinned (OpenSpec.ofChange weekFirstWrong)

/-- 'quarterdaylaw06.WeekEnds': WHATEVER THE INPUT: true; the input reads as it did. -/
def weekEndsSpec : ChangeSpec := { name := "weekEnds", fn := fun _ => fun
  | [d1, d2, d3] => { results := [.lit (.bool true)], args := [d1, d2, d3] }
  | _ => none }
def weekEndsRow : OpenClaim := { program := "ytmkpkghhalpfaaa", sum := "36f4efde116f60a310b994dcb932359e6a3b2d75ef19cdb390e50d586b50b092", func := "quarterday/quarterdaylaw06.WeekEnds", spec := "weekEnds", apart := false }
def WeekEndsSaid : Prop := weekEndsRow.holds Try.pinned (OpenSpec.ofChange weekEndsSpec)

/-- ITS FALSE NEIGHBOUR: 'it returns false'. Refute it at one input. -/
def weekEndsWrong : ChangeSpec := { name := "weekEnds", fn := fun _ => fun
  | [d1, d2, d3] => { results := [.lit (.bool false)], args := [d1, d2, d3] }
  | _ => none }
def WeekEndsWrongFalsely : Prop := weekEndsRow.holds Try.pinned (OpenSpec.ofChange weekEndsWrong)

/-- 'quarterdaylaw06.WeekLast': WHATEVER THE INPUT: true; the input reads as it did. -/
def weekLastSpec : ChangeSpec := { name := "weekLast", fn := fun _ => fun
  | [d1, d2, d3] => { results := [.lit (.bool true)], args := [d1, d2, d3] }
  | _ => none }
def weekLastRow : OpenClaim := { program := "ytmkpkghhalpfaaa", sum := "36f4efde116f60a310b994dcb932359e6a3b2d75ef19cdb390e50d586b50b092", func := "quarterday/quarterdaylaw06.WeekLast", spec := "weekLast", apart := false }
def WeekLastSaid : Prop := weekLastRow.holds Try.pinned (OpenSpec.ofChange weekLastSpec)

/-- ITS FALSE NEIGHBOUR: 'it returns false'. Refute it at one input. -/
def weekLastWrong : ChangeSpec := { name := "weekLast", fn := fun _ => fun
  | [d1, d2, d3] => { results := [.lit (.bool false)], args := [d1, d2, d3] }
  | _ => none }
def WeekLastWrongFalsely : Prop := weekLastRow.holds Try.pinned (OpenSpec.ofChange weekLastWrong)

/-- 'quarterdaylaw06.WeekYears': WHATEVER THE INPUT: true; the input reads as it did. -/
def weekYearsSpec : ChangeSpec := { name := "weekYears", fn := fun _ => fun
  | [d1, d2, d3] => { results := [.lit (.bool true)], args := [d1, d2, d3] }
  | _ => none }
def weekYearsRow : OpenClaim := { program := "ytmkpkghhalpfaaa", sum := "36f4efde116f60a310b994dcb932359e6a3b2d75ef19cdb390e50d586b50b092", func := "quarterday/quarterdaylaw06.WeekYears", spec := "weekYears", apart := false }
def WeekYearsSaid : Prop := weekYearsRow.holds Try.pinned (OpenSpec.ofChange weekYearsSpec)

/-- ITS FALSE NEIGHBOUR: 'it returns false'. Refute it at one input. -/
def weekYearsWrong : ChangeSpec := { name := "weekYears", fn := fun _ => fun
  | [d1, d2, d3] => { results := [.lit (.bool false)], args := [d1, d2, d3] }
  | _ => none }
def WeekYearsWrongFalsely : Prop := weekYearsRow.holds Try.pinned (OpenSpec.ofChange weekYearsWrong)

/- THE SECOND FORM. 'bulk': how many values and letters a reading holds, each counted each time it is reached (what is shared counts as often as it is met; a slice's spare places count too). A statement '..UptoSaid' is the law's where the arguments, and the package variables that the reading takes, are together of bulk at most 1048576: NARROWER than '..Said'. Prove '..Said' where nothing that the law and all that it calls make is longer than what came in: it says more and counts as full. Else prove '..UptoSaid'. A law counts once. -/
mutual
def uptoBulk {H : Type} : DataW H → Nat
  | .lit (.string bytes) => bytes.length + 1
  | .lit _ => 1
  | .nil => 1
  | .ptr d => uptoBulk d + 1
  | .slice elems spare => uptoBulkAll elems + uptoBulkAll spare + 1
  | .agg parts => uptoBulkAll parts + 1
  | .iface _ d => uptoBulk d + 1
  | .map entries => uptoBulkEntries entries + 1
  | .held _ => 1
def uptoBulkAll {H : Type} : List (DataW H) → Nat
  | [] => 0
  | d :: r => uptoBulk d + uptoBulkAll r
def uptoBulkEntries {H : Type} : List (Lit × DataW H) → Nat
  | [] => 0
  | x :: r => uptoBulkEntry x + uptoBulkEntries r
def uptoBulkEntry {H : Type} : Lit × DataW H → Nat
  | (.string bytes, d) => bytes.length + uptoBulk d + 1
  | (_, d) => uptoBulk d + 1
 end
def uptoSmall : (H : Type) → List (DataW H) → Bool := fun _ ds => decide (uptoBulkAll ds ≤ 1048576)
def OpenSpec.upto (s : _root_.Go.ChangeSpec) : _root_.Go.OpenSpec := { _root_.Go.OpenSpec.ofChange s with cond := some uptoSmall }

/-- 'quarterdaylaw05.CivilTells', WHERE WHAT IT READS IS OF BULK AT MOST 1048576: true; the input reads as it did. -/
def civilTellsUptoRow : OpenClaim := { program := "ytmkpkghhalpfaaa", sum := "36f4efde116f60a310b994dcb932359e6a3b2d75ef19cdb390e50d586b50b092", func := "quarterday/quarterdaylaw05.CivilTells", spec := "civilTells", apart := false, narrowed := true }
def CivilTellsUptoSaid : Prop := civilTellsUptoRow.holds Try.pinned (OpenSpec.upto civilTellsSpec)

/-- 'quarterdaylaw05.CivilYears', WHERE WHAT IT READS IS OF BULK AT MOST 1048576: true; the input reads as it did. -/
def civilYearsUptoRow : OpenClaim := { program := "ytmkpkghhalpfaaa", sum := "36f4efde116f60a310b994dcb932359e6a3b2d75ef19cdb390e50d586b50b092", func := "quarterday/quarterdaylaw05.CivilYears", spec := "civilYears", apart := false, narrowed := true }
def CivilYearsUptoSaid : Prop := civilYearsUptoRow.holds Try.pinned (OpenSpec.upto civilYearsSpec)

/-- 'quarterdaylaw05.CivilOrder', WHERE WHAT IT READS IS OF BULK AT MOST 1048576: true; the input reads as it did. -/
def civilOrderUptoRow : OpenClaim := { program := "ytmkpkghhalpfaaa", sum := "36f4efde116f60a310b994dcb932359e6a3b2d75ef19cdb390e50d586b50b092", func := "quarterday/quarterdaylaw05.CivilOrder", spec := "civilOrder", apart := false, narrowed := true }
def CivilOrderUptoSaid : Prop := civilOrderUptoRow.holds Try.pinned (OpenSpec.upto civilOrderSpec)

/-- 'quarterdaylaw05.CivilAdds', WHERE WHAT IT READS IS OF BULK AT MOST 1048576: true; the input reads as it did. -/
def civilAddsUptoRow : OpenClaim := { program := "ytmkpkghhalpfaaa", sum := "36f4efde116f60a310b994dcb932359e6a3b2d75ef19cdb390e50d586b50b092", func := "quarterday/quarterdaylaw05.CivilAdds", spec := "civilAdds", apart := false, narrowed := true }
def CivilAddsUptoSaid : Prop := civilAddsUptoRow.holds Try.pinned (OpenSpec.upto civilAddsSpec)

/-- 'quarterdaylaw05.CivilBack', WHERE WHAT IT READS IS OF BULK AT MOST 1048576: true; the input reads as it did. -/
def civilBackUptoRow : OpenClaim := { program := "ytmkpkghhalpfaaa", sum := "36f4efde116f60a310b994dcb932359e6a3b2d75ef19cdb390e50d586b50b092", func := "quarterday/quarterdaylaw05.CivilBack", spec := "civilBack", apart := false, narrowed := true }
def CivilBackUptoSaid : Prop := civilBackUptoRow.holds Try.pinned (OpenSpec.upto civilBackSpec)

/-- 'quarterdaylaw05.CivilDoes', WHERE WHAT IT READS IS OF BULK AT MOST 1048576: true; the input reads as it did. -/
def civilDoesUptoRow : OpenClaim := { program := "ytmkpkghhalpfaaa", sum := "36f4efde116f60a310b994dcb932359e6a3b2d75ef19cdb390e50d586b50b092", func := "quarterday/quarterdaylaw05.CivilDoes", spec := "civilDoes", apart := false, narrowed := true }
def CivilDoesUptoSaid : Prop := civilDoesUptoRow.holds Try.pinned (OpenSpec.upto civilDoesSpec)

/-- 'quarterdaylaw05.CivilNext', WHERE WHAT IT READS IS OF BULK AT MOST 1048576: true; the input reads as it did. -/
def civilNextUptoRow : OpenClaim := { program := "ytmkpkghhalpfaaa", sum := "36f4efde116f60a310b994dcb932359e6a3b2d75ef19cdb390e50d586b50b092", func := "quarterday/quarterdaylaw05.CivilNext", spec := "civilNext", apart := false, narrowed := true }
def CivilNextUptoSaid : Prop := civilNextUptoRow.holds Try.pinned (OpenSpec.upto civilNextSpec)

/-- 'quarterdaylaw06.WeekDoes', WHERE WHAT IT READS IS OF BULK AT MOST 1048576: true; the input reads as it did. -/
def weekDoesUptoRow : OpenClaim := { program := "ytmkpkghhalpfaaa", sum := "36f4efde116f60a310b994dcb932359e6a3b2d75ef19cdb390e50d586b50b092", func := "quarterday/quarterdaylaw06.WeekDoes", spec := "weekDoes", apart := false, narrowed := true }
def WeekDoesUptoSaid : Prop := weekDoesUptoRow.holds Try.pinned (OpenSpec.upto weekDoesSpec)

/-- 'quarterdaylaw06.WeekBack', WHERE WHAT IT READS IS OF BULK AT MOST 1048576: true; the input reads as it did. -/
def weekBackUptoRow : OpenClaim := { program := "ytmkpkghhalpfaaa", sum := "36f4efde116f60a310b994dcb932359e6a3b2d75ef19cdb390e50d586b50b092", func := "quarterday/quarterdaylaw06.WeekBack", spec := "weekBack", apart := false, narrowed := true }
def WeekBackUptoSaid : Prop := weekBackUptoRow.holds Try.pinned (OpenSpec.upto weekBackSpec)

/-- 'quarterdaylaw06.WeekNext', WHERE WHAT IT READS IS OF BULK AT MOST 1048576: true; the input reads as it did. -/
def weekNextUptoRow : OpenClaim := { program := "ytmkpkghhalpfaaa", sum := "36f4efde116f60a310b994dcb932359e6a3b2d75ef19cdb390e50d586b50b092", func := "quarterday/quarterdaylaw06.WeekNext", spec := "weekNext", apart := false, narrowed := true }
def WeekNextUptoSaid : Prop := weekNextUptoRow.holds Try.pinned (OpenSpec.upto weekNextSpec)

/-- 'quarterdaylaw06.WeekFirst', WHERE WHAT IT READS IS OF BULK AT MOST 1048576: true; the input reads as it did. -/
def weekFirstUptoRow : OpenClaim := { program := "ytmkpkghhalpfaaa", sum := "36f4efde116f60a310b994dcb932359e6a3b2d75ef19cdb390e50d586b50b092", func := "quarterday/quarterdaylaw06.WeekFirst", spec := "weekFirst", apart := false, narrowed := true }
def WeekFirstUptoSaid : Prop := weekFirstUptoRow.holds Try.pinned (OpenSpec.upto weekFirstSpec)

/-- 'quarterdaylaw06.WeekEnds', WHERE WHAT IT READS IS OF BULK AT MOST 1048576: true; the input reads as it did. -/
def weekEndsUptoRow : OpenClaim := { program := "ytmkpkghhalpfaaa", sum := "36f4efde116f60a310b994dcb932359e6a3b2d75ef19cdb390e50d586b50b092", func := "quarterday/quarterdaylaw06.WeekEnds", spec := "weekEnds", apart := false, narrowed := true }
def WeekEndsUptoSaid : Prop := weekEndsUptoRow.holds Try.pinned (OpenSpec.upto weekEndsSpec)

/-- 'quarterdaylaw06.WeekLast', WHERE WHAT IT READS IS OF BULK AT MOST 1048576: true; the input reads as it did. -/
def weekLastUptoRow : OpenClaim := { program := "ytmkpkghhalpfaaa", sum := "36f4efde116f60a310b994dcb932359e6a3b2d75ef19cdb390e50d586b50b092", func := "quarterday/quarterdaylaw06.WeekLast", spec := "weekLast", apart := false, narrowed := true }
def WeekLastUptoSaid : Prop := weekLastUptoRow.holds Try.pinned (OpenSpec.upto weekLastSpec)

/-- 'quarterdaylaw06.WeekYears', WHERE WHAT IT READS IS OF BULK AT MOST 1048576: true; the input reads as it did. -/
def weekYearsUptoRow : OpenClaim := { program := "ytmkpkghhalpfaaa", sum := "36f4efde116f60a310b994dcb932359e6a3b2d75ef19cdb390e50d586b50b092", func := "quarterday/quarterdaylaw06.WeekYears", spec := "weekYears", apart := false, narrowed := true }
def WeekYearsUptoSaid : Prop := weekYearsUptoRow.holds Try.pinned (OpenSpec.upto weekYearsSpec)

end Rows
end Go.Proofs.Ytmkpkghhalpfaaa
