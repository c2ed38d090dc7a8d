/- Small lemmas: worlds that have grown; what a call returns. -/
import Derived.Test.YtkejohmghacdhaaDoorRows
import Derived.WalkKit
import Derived.WalkSpells
import Derived.WalkLawsBesides
import Derived.BigQuiet
import Derived.Lib.QuietBelow
import Derived.Lib.Hide
namespace Go.Proofs.YtkejohmghacdhaaDoor
set_option linter.unusedVariables false
set_option linter.unusedSimpArgs false
open Go.RowKit
theorem bl_alloc {w0 w : World} (h : Below w0.heap.size w0 w) (o : Obj) : Below w0.heap.size w0 (w.alloc o) := h.alloc h.size o
theorem bl_drew {w0 w : World} (h : Below w0.heap.size w0 w) : Below w0.heap.size w0 w.drew := h.drew
theorem bl_drewN {w0 w : World} (h : Below w0.heap.size w0 w) (n : Nat) : Below w0.heap.size w0 (w.drewN n) := ⟨h.os, h.tape, h.output, h.size, h.block⟩
theorem bl_call {w0 w w1 : World} (h : Below w0.heap.size w0 w) (h1 : Below w.heap.size w w1) : Below w0.heap.size w0 w1 := h.trans (h1.mono h.size)
theorem bl_setCell {w0 w : World} (h : Below w0.heap.size w0 w) {p : Addr} (u : Value) (hp : w0.heap.size ≤ p.block) : Below w0.heap.size w0 (w.setCell p u) := h.setCell hp u
theorem ret_ii {a b c d : Int} (h1 : a = c) (h2 : b = d) : Ending.returned (.tuple #[.int .i64 a, .int .i64 b]) = .returned (.tuple #[.int .i64 c, .int .i64 d]) := by rw [h1, h2]
theorem ret_uu {a b c d : Int} (h1 : a = c) (h2 : b = d) : Ending.returned (.tuple #[.int .u64 a, .int .u64 b]) = .returned (.tuple #[.int .u64 c, .int .u64 d]) := by rw [h1, h2]
theorem ret_iii {a b c d x y : Int} (h1 : a = c) (h2 : b = d) (h3 : x = y) : Ending.returned (.tuple #[.int .i64 a, .int .i64 b, .int .i64 x]) = .returned (.tuple #[.int .i64 c, .int .i64 d, .int .i64 y]) := by rw [h1, h2, h3]
theorem ret_u {a c : Int} (h1 : a = c) : Ending.returned (.int .u64 a) = .returned (.int .u64 c) := by rw [h1]
theorem ret_i {a c : Int} (h1 : a = c) : Ending.returned (.int .i64 a) = .returned (.int .i64 c) := by rw [h1]
theorem ret_b {a c : Bool} (h1 : a = c) : Ending.returned (.bool a) = .returned (.bool c) := by rw [h1]
theorem bcell {W w1 : World} (hb : Below W.heap.size W w1) : (∀ b o, b < W.heap.size → w1.cell? ⟨b, o, none⟩ = W.cell? ⟨b, o, none⟩) ∧ (∀ b o, b < W.heap.size → w1.frozen? ⟨b, o, none⟩ = W.frozen? ⟨b, o, none⟩) :=
  ⟨fun b o h => hb.cell (p := ⟨b, o, none⟩) h, fun b o h => hb.frozen (p := ⟨b, o, none⟩) h⟩
theorem wpQuiet_mono {P : Program} {ops : Array Oper} {C : World → Prop} {Q Q' : Act → Prop} (hq : ∀ a, Q a → Q' a) : ∀ (l : List Oper) (a : Act), wpQuiet P ops C Q l a → wpQuiet P ops C Q' l a
  | [], a, h => hq a h
  | o :: rest, a, h => by
    have h' : if Region.wanted o (yielded ops a.tmps) = true then o.quiet P a C (wpQuiet P ops C Q rest) else wpQuiet P ops C Q rest (a.put o.dst undef) := h
    show if Region.wanted o (yielded ops a.tmps) = true then o.quiet P a C (wpQuiet P ops C Q' rest) else wpQuiet P ops C Q' rest (a.put o.dst undef)
    split
    · rename_i hw
      rw [if_pos hw] at h'
      exact Oper.quiet_mono (fun a => wpQuiet_mono hq rest a) h'
    · rename_i hw
      rw [if_neg hw] at h'
      exact wpQuiet_mono hq rest _ h'
/-- A region that draws its order, whose operations read, and whose callees leave what was there as it was: walked once. 'F': what is known of the world. -/
theorem region_qb {P : Program} {id : Nat} {Q : Exit → Act → World → Prop} {a : Act} {w : World} {l : List Oper} (F : World → Prop) (hF : F w) (hm : P.follows .mixedOrders = true) (hB : Region.lexB .any l.toArray = true)
    (h : ∀ W, F W → wpQuiet P l.toArray (fun w' => ∃ p : Regrown, w' = Go.Sort.grow (redrawn W p.d) p.os) (fun a' => ∀ w', Below W.heap.size W w' → Q .normal a' w') l a) : (Code.region id l.toArray true).wp P Q a w :=
  wp_region_quiet_below hm hB (wpQuiet_mono (fun a' h2 w' ⟨p, hp⟩ => h2 w' (by rw [hp]; exact below_regrown w p.d p.os)) l a (h w hF))
theorem Calls.regrown_same {P : Program} {f : FuncId} {args : Array Value} {w : World} {d : Nat} {os : Array Obj} {v : Value}
    (h : Calls P f args (Go.Sort.grow (redrawn w d) os) fun e w' => e = .returned v ∧ Go.Sort.grow (redrawn w d) os = w') : Calls P f args (Go.Sort.grow (redrawn w d) os) fun e w'' => e = .returned v ∧ ∃ p : Regrown, w'' = Go.Sort.grow (redrawn w p.d) p.os :=
  h.mono fun _ _ ⟨he, hb⟩ => ⟨he, ⟨d, os⟩, hb.symm⟩
theorem rcell {w : World} {a : Addr} {v : Value} (h : w.cell? a = some v) : ∀ (d : Nat) (os : Array Obj), (Go.Sort.grow (redrawn w d) os).cell? a = some v := fun d os => cell_regrown h d os
theorem bsize {W w1 : World} (hb : Below W.heap.size W w1) : ∀ k, k < W.heap.size → k < w1.heap.size := fun k hk => Nat.lt_of_lt_of_le hk hb.size
/-- A block of the call's own stays as it is behind a call. -/
theorem own_stays {W w1 : World} (hb : Below W.heap.size W w1) {b : Nat} (h : b < W.heap.size) : (∀ o, w1.cell? ⟨b, o, none⟩ = W.cell? ⟨b, o, none⟩) ∧ (∀ o, w1.frozen? ⟨b, o, none⟩ = W.frozen? ⟨b, o, none⟩) ∧ b < w1.heap.size :=
  ⟨fun o => hb.cell (p := ⟨b, o, none⟩) h, fun o => hb.frozen (p := ⟨b, o, none⟩) h, Nat.lt_of_lt_of_le h hb.size⟩
end Go.Proofs.YtkejohmghacdhaaDoor
