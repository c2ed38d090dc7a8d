/- Small lemmas: worlds that have grown; what a call returns. -/
import Derived.Test.YtnjjihlknkmllaaRows
import Derived.WalkKit
import Derived.WalkSpells
import Derived.WalkLawsBesides
import Derived.BigQuiet
import Derived.Lib.QuietBelow
import Derived.Lib.Hide
namespace Go.Proofs.Ytnjjihlknkmllaa
open Go.RowKit
set_option linter.unusedVariables false
theorem bl_alloc {w0 w : World} (h : Below w0.heap.size w0 w) (o : Obj) : Below w0.heap.size w0 (w.alloc o) := h.alloc h.size o
theorem bl_drew {w0 w : World} (h : Below w0.heap.size w0 w) : Below w0.heap.size w0 w.drew := h.drew
theorem bl_drewN {w0 w : World} (h : Below w0.heap.size w0 w) (n : Nat) : Below w0.heap.size w0 (w.drewN n) := ⟨h.os, h.tape, h.output, h.size, h.block⟩
theorem bl_call {w0 w w1 : World} (h : Below w0.heap.size w0 w) (h1 : Below w.heap.size w w1) : Below w0.heap.size w0 w1 := h.trans (h1.mono h.size)
theorem bl_setCell {w0 w : World} (h : Below w0.heap.size w0 w) {p : Addr} (u : Value) (hp : w0.heap.size ≤ p.block) : Below w0.heap.size w0 (w.setCell p u) := h.setCell hp u
theorem ret_ii {a b c d : Int} (h1 : a = c) (h2 : b = d) : Ending.returned (.tuple #[.int .i64 a, .int .i64 b]) = .returned (.tuple #[.int .i64 c, .int .i64 d]) := by rw [h1, h2]
theorem ret_uu {a b c d : Int} (h1 : a = c) (h2 : b = d) : Ending.returned (.tuple #[.int .u64 a, .int .u64 b]) = .returned (.tuple #[.int .u64 c, .int .u64 d]) := by rw [h1, h2]
theorem ret_iii {a b c d x y : Int} (h1 : a = c) (h2 : b = d) (h3 : x = y) : Ending.returned (.tuple #[.int .i64 a, .int .i64 b, .int .i64 x]) = .returned (.tuple #[.int .i64 c, .int .i64 d, .int .i64 y]) := by rw [h1, h2, h3]
theorem ret_u {a c : Int} (h1 : a = c) : Ending.returned (.int .u64 a) = .returned (.int .u64 c) := by rw [h1]
theorem ret_i {a c : Int} (h1 : a = c) : Ending.returned (.int .i64 a) = .returned (.int .i64 c) := by rw [h1]
theorem ret_b {a c : Bool} (h1 : a = c) : Ending.returned (.bool a) = .returned (.bool c) := by rw [h1]
theorem bcell {W w1 : World} (hb : Below W.heap.size W w1) : (∀ b o, b < W.heap.size → w1.cell? ⟨b, o, none⟩ = W.cell? ⟨b, o, none⟩) ∧ (∀ b o, b < W.heap.size → w1.frozen? ⟨b, o, none⟩ = W.frozen? ⟨b, o, none⟩) :=
  ⟨fun b o h => hb.cell (p := ⟨b, o, none⟩) h, fun b o h => hb.frozen (p := ⟨b, o, none⟩) h⟩
end Go.Proofs.Ytnjjihlknkmllaa
