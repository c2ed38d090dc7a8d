/- Rows of numbers that a call has made and writes. -/
import Derived.Test.YtkejohmghacdhaaSl
import Derived.OwnWalk
import Derived.Laws.OwnMore
namespace Go.Proofs.Ytkejohmghacdhaa
set_option linter.unusedVariables false
set_option linter.unusedSimpArgs false
open Go.RowKit
/-- Block b's first n cells hold f, and may be written. -/
def RowF (w : World) (b n : Nat) (f : Nat → Int) : Prop := ∀ j, j < n → w.cell? ⟨b, j, none⟩ = some (.int .i64 (f j)) ∧ w.frozen? ⟨b, j, none⟩ = false
theorem RowF.go {w w' : World} {b n : Nat} {f : Nat → Int} (h : RowF w b n f) (hb : Below w.heap.size w w') : RowF w' b n f := fun j hj => by
  obtain ⟨h1, h2⟩ := h j hj
  have hl := World.block_lt_of_cell? w ⟨b, j, none⟩ h1
  exact ⟨(hb.cell (p := ⟨b, j, none⟩) hl).trans h1, (hb.frozen (p := ⟨b, j, none⟩) hl).trans h2⟩
theorem RowF.lt {w : World} {b n : Nat} {f : Nat → Int} (h : RowF w b n f) (hn : 0 < n) : b < w.heap.size := World.block_lt_of_cell? w ⟨b, 0, none⟩ (h 0 hn).1
theorem RowF.set {w : World} {b n : Nat} {f : Nat → Int} (h : RowF w b n f) (k : Nat) (hk : k < n) (v : Int) : RowF (w.setCell ⟨b, k, none⟩ (.int .i64 v)) b n (fun j => if j = k then v else f j) := fun j hj => by
  obtain ⟨h1, h2⟩ := h j hj
  refine ⟨?_, by rw [World.frozen?_setCell]; exact h2⟩
  by_cases e : j = k
  · subst e; simp only [if_true]; exact World.cell?_setCell_same w _ _ h1
  · simp only [e, if_false]; rw [World.cell?_setCell_other w _ _ _ (fun h => e (by cases h; rfl))]; exact h1
theorem RowF.other {w : World} {b n : Nat} {f : Nat → Int} (h : RowF w b n f) {p : Addr} (hp : p.block ≠ b) (v : Value) : RowF (w.setCell p v) b n f := fun j hj => by
  obtain ⟨h1, h2⟩ := h j hj
  exact ⟨by rw [World.cell?_setCell_other w _ _ _ (fun h => hp (by rw [h]))]; exact h1, by rw [World.frozen?_setCell]; exact h2⟩
theorem RowF.congr {w : World} {b n : Nat} {f g : Nat → Int} (h : RowF w b n f) (e : ∀ j, j < n → g j = f j) : RowF w b n g := fun j hj => by rw [e j hj]; exact h j hj
theorem RowF.sl {w : World} {b : Nat} {xs : List Int} (h : RowF w b xs.length (fun j => xs.getD j 0)) : SlI .i64 w (some ⟨b, 0, none⟩) xs :=
  .inr ⟨b, 0, rfl, fun j hj => by rw [Nat.zero_add]; exact (h j hj).1⟩
/-- A new row of zeros. -/
theorem row_made (w : World) (n : Nat) (t : TypeId) : RowF (w.alloc (.cells (Array.replicate n (.int .i64 0)) t)) w.heap.size n (fun _ => 0) := fun j hj => by
  refine ⟨?_, by simp⟩
  rw [World.cell?_alloc_new]; simp [hj]
theorem made_row (n : Nat) : madeCells #[.int .i64 0] n = Array.replicate n (.int .i64 0) := by
  apply Array.ext_getElem?
  intro j
  by_cases hj : j < n
  · simp [madeCells, hj, Nat.mod_one]
  · simp [madeCells, hj]
theorem made_pair (n : Nat) : madeCells #[.int .i64 0, .int .i64 0] n = Array.replicate n (.int .i64 0) := by
  apply Array.ext_getElem?
  intro j
  by_cases hj : j < n
  · have : j % 2 = 0 ∨ j % 2 = 1 := by omega
    rcases this with h | h <;> simp [madeCells, hj, h]
  · simp [madeCells, hj]
end Go.Proofs.Ytkejohmghacdhaa
