/- Contracts: math/bits.TrailingZeros64, whole.Gcd. -/
import Derived.Test.YtkejohmghacdhaaWhole
import Derived.Test.YtkejohmghacdhaaMathQ
import Derived.Shelf.Spec.TrailingZeros
namespace Go.Proofs.Ytkejohmghacdhaa
set_option linter.unusedVariables false
set_option linter.unusedSimpArgs false
open Go.RowKit
/-- The library's table lies in its variable. -/
def Tab (w : World) : Prop := ∀ j, j < 64 → w.cell? ⟨0, j, none⟩ = some (.int .u8 (Lib.deBruijn64tab.getD j 0))
theorem Tab.go {w w' : World} (h : Tab w) (hb : Below w.heap.size w w') : Tab w' := fun j hj => by
  have := h j hj
  exact (hb.cell (p := ⟨0, j, none⟩) (World.block_lt_of_cell? w _ this)).trans this
/-- what divides both -/
def gI (a b : Int) : Int := (Nat.gcd a.natAbs b.natAbs : Int)
theorem or_zero_left (y : Nat) (h : y < 18446744073709551616) : bits BinOp.or IntKind.u64 0 (y : Int) = (y : Int) := by
  have := bits_or_u64_nat 0 y (by omega) h
  simpa using this
end Go.Proofs.Ytkejohmghacdhaa
