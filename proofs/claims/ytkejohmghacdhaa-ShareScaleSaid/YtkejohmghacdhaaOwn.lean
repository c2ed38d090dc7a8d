/- Slices of numbers that the call itself makes; parts of a slice. -/
import Derived.Test.YtkejohmghacdhaaSl
import Derived.OwnWalk
import Derived.Laws.OwnMore
namespace Go.Proofs.Ytkejohmghacdhaa
set_option linter.unusedVariables false
set_option linter.unusedSimpArgs false
open Go.RowKit
theorem info_i64 : (Try.prog.info? 2).map (fun i => (i.zero, i.size, i.bytes)) = some (some (.int .i64 0), 1, 8) := by kernel_rfl
/-- v is the call's own slice of the numbers xs. -/
def OwnI (w : World) (base : Nat) (v : Value) (xs : List Int) : Prop := w.ownsRow base 2 1 v xs.length (xs.map (Value.int .i64))
theorem OwnI.shape {w : World} {base : Nat} {v : Value} {xs : List Int} (h : OwnI w base v xs) : ∃ a cap, v = .slice a xs.length cap ∧ SlI .i64 w a xs ∧ xs.length ≤ cap ∧ cap ≤ maxLen ∧ ∀ ad, a = some ad → base ≤ ad.block := by
  obtain ⟨h1, ⟨rfl, h2⟩ | ⟨g, cap, cur, rfl, hg, hh, hc, hm, hs, ht⟩⟩ := h
  · have : xs = [] := by simpa using h2
    subst this
    exact ⟨none, 0, rfl, .nil, by simp, by unfold maxLen; omega, fun ad h => by cases h⟩
  · refine ⟨some ⟨g, 0, none⟩, cap, rfl, .inr ⟨g, 0, rfl, fun j hj => ?_⟩, hc, hm, fun ad h => by obtain rfl := Option.some.inj h; exact hg⟩
    have e : w.cell? ⟨g, j, none⟩ = cur[j]? := by unfold World.cell?; simp [hh]
    rw [Nat.zero_add, e]
    have e2 : (cur.toList.take (xs.length * 1))[j]? = (xs.map (Value.int .i64))[j]? := by rw [ht]
    rw [List.getElem?_take, if_pos (by omega)] at e2
    rw [← Array.getElem?_toList, e2]
    simp [List.getD, hj]
theorem OwnI.go {w w' : World} {base : Nat} {v : Value} {xs : List Int} (h : OwnI w base v xs) (hb : Below w.heap.size w w') : OwnI w' base v xs := by
  obtain ⟨h1, h2 | ⟨g, cap, cur, hv, hg, hh, hc⟩⟩ := h
  · exact ⟨h1, .inl h2⟩
  · refine ⟨h1, .inr ⟨g, cap, cur, hv, hg, ?_, hc⟩⟩
    have hl : g < w.heap.size := by
      rcases Nat.lt_or_ge g w.heap.size with h | h
      · exact h
      · rw [Array.getElem?_eq_none h] at hh; cases hh
    rw [hb.block g hl]; exact hh
theorem OwnI.below {w0 w w' : World} {base : Nat} {v : Value} {xs : List Int} (h : OwnI w base v xs) (hb : Below w0.heap.size w0 w) (hbase : w0.heap.size ≤ base) (hg : w.grownBy w' v.ownBlock) : Below w0.heap.size w0 w' :=
  hb.grown hg hb.size (fun j hj => by have := (World.ownsRow.lt (h := h) j hj).1; omega)
theorem OwnI.at {w : World} {base : Nat} {v : Value} {xs : List Int} (h : OwnI w base v xs) (ys : List Int) (h1 : ys = xs) : OwnI w base v ys := h1 ▸ h
theorem own_nil (w : World) (base : Nat) : OwnI w base (.slice none 0 0) [] := World.ownsRow_nil _ _ _ _
/-- the first K of a slice -/
theorem slice_head {t e : TypeId} (ht : Try.prog.underlying t = some (.slice e)) (he : Try.prog.elem t = e) (hs : ∀ w, (sizeOf e).run Try.prog w = .ok 1 w) (a : Option Addr) (n cap K : Nat) (h : K ≤ cap) :
    ∃ a1, (∀ w, (Instr.slice t (.slice a n cap) none (some (.int .i64 (K : Int))) none).run Try.prog w = .ok (.slice a1 K cap) w) ∧ (∀ k w xs, SlI k w a xs → SlI k w a1 (xs.take K)) := by
  refine ⟨if cap = 0 then a else a.map (·.add 0), fun w => ?_, fun k w xs hx => ?_⟩
  · rw [run_slice_h w t a n cap (by rw [he]; exact ht) .i64 K (by omega) (by omega), he, hs]
    simp [Result.andThen, sliced]
  · have g := hx.take K
    split
    · exact g
    · rcases g with g | ⟨b, off, rfl, g⟩
      · exact .inl g
      · exact .inr ⟨b, off, by simp [Addr.add], g⟩
/-- those behind the first K -/
theorem slice_tail {t e : TypeId} (ht : Try.prog.underlying t = some (.slice e)) (he : Try.prog.elem t = e) (hs : ∀ w, (sizeOf e).run Try.prog w = .ok 1 w) (a : Option Addr) (n cap K : Nat) (h : K ≤ n) (hc : n ≤ cap) :
    ∃ a1, (∀ w, (Instr.slice t (.slice a n cap) (some (.int .i64 (K : Int))) none none).run Try.prog w = .ok (.slice a1 (n - K) (cap - K)) w) ∧ (∀ k w xs, xs.length = n → SlI k w a xs → SlI k w a1 (xs.drop K)) := by
  refine ⟨if cap = K then a else a.map (·.add K), fun w => ?_, fun k w xs hl hx => ?_⟩
  · rw [run_slice_l w t a n cap (by rw [he]; exact ht) .i64 K (by omega) (by omega), he, hs]
    simp [Result.andThen, sliced]
  · split
    · exact .inl (by simp; omega)
    · rcases hx with rfl | ⟨b, off, rfl, g⟩
      · exact .inl (by simp)
      · have := SlI.drop g K
        show SlI k w (some ((⟨b, off, none⟩ : Addr).add K)) _
        rw [Go.WideShapes.add_plain]; exact this
end Go.Proofs.Ytkejohmghacdhaa
