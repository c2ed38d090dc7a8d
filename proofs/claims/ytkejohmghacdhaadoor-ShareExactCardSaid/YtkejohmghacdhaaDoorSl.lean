/- Slices of numbers that are read. -/
import Derived.Test.YtkejohmghacdhaaDoorKit
namespace Go.Proofs.YtkejohmghacdhaaDoor
set_option linter.unusedVariables false
set_option linter.unusedSimpArgs false
open Go.RowKit
/-- The slice at a holds the numbers xs. -/
def SlI (k : IntKind) (w : World) (a : Option Addr) (xs : List Int) : Prop := xs = [] ∨ ∃ b off, a = some ⟨b, off, none⟩ ∧ ∀ j, j < xs.length → w.cell? ⟨b, off + j, none⟩ = some (.int k (xs.getD j 0))
theorem SlI.go {k : IntKind} {w w' : World} {a : Option Addr} {xs : List Int} (h : SlI k w a xs) (hb : Below w.heap.size w w') : SlI k w' a xs := by
  rcases h with h | ⟨b, off, rfl, h⟩
  · exact .inl h
  · refine .inr ⟨b, off, rfl, fun j hj => ?_⟩
    have := h j hj
    exact (hb.cell (p := ⟨b, off + j, none⟩) (World.block_lt_of_cell? w _ this)).trans this
theorem SlI.go0 {k : IntKind} {w0 w w' : World} {a : Option Addr} {xs : List Int} (h : SlI k w0 a xs) (hb : Below w0.heap.size w0 w) : SlI k w a xs := h.go hb
theorem SlI.nil {k : IntKind} {w : World} {a : Option Addr} : SlI k w a [] := .inl rfl
theorem SlI.at {k : IntKind} {w : World} {a : Option Addr} {xs : List Int} (h : SlI k w a xs) (j : Nat) (hj : j < xs.length) : ∃ b off, a = some ⟨b, off, none⟩ ∧ b < w.heap.size ∧ ∀ j, j < xs.length → w.cell? ⟨b, off + j, none⟩ = some (.int k (xs.getD j 0)) := by
  rcases h with rfl | ⟨b, off, rfl, h⟩
  · simp at hj
  · exact ⟨b, off, rfl, World.block_lt_of_cell? w ⟨b, off + j, none⟩ (h j hj), h⟩
/-- its first n numbers -/
theorem SlI.take {k : IntKind} {w : World} {a : Option Addr} {xs : List Int} (h : SlI k w a xs) (n : Nat) : SlI k w a (xs.take n) := by
  rcases h with rfl | ⟨b, off, rfl, h⟩
  · exact .inl (by simp)
  · refine .inr ⟨b, off, rfl, fun j hj => ?_⟩
    have hj1 : j < xs.length := by simp at hj; omega
    have hj2 : j < n := by simp at hj; omega
    rw [h j hj1]
    simp [List.getD, List.getElem?_take, hj2]
/-- those behind its first n -/
theorem SlI.drop {k : IntKind} {w : World} {b off : Nat} {xs : List Int} (h : ∀ j, j < xs.length → w.cell? ⟨b, off + j, none⟩ = some (.int k (xs.getD j 0))) (n : Nat) : SlI k w (some ⟨b, off + n, none⟩) (xs.drop n) := by
  refine .inr ⟨b, off + n, rfl, fun j hj => ?_⟩
  have := h (n + j) (by simp at hj; omega)
  rw [show off + n + j = off + (n + j) by omega, this]
  simp [List.getD, List.getElem?_drop]
end Go.Proofs.YtkejohmghacdhaaDoor
