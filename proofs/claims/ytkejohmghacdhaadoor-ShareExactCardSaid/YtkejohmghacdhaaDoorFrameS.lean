/- A slice of numbers among the arguments. -/
import Derived.Test.YtkejohmghacdhaaDoorFrame
import Derived.Test.YtkejohmghacdhaaDoorSl
import Derived.Test.YtkejohmghacdhaaDoorMathA
namespace Go.Proofs.YtkejohmghacdhaaDoor
set_option linter.unusedVariables false
set_option linter.unusedSimpArgs false
open Go.ChangeShapes Go.WideShapes Go.ChangeAt Go.RowKit
theorem open_sl {H : Type} {enc : TypeId × Value → H} {P : Program} {W : World} {r : Reach} {base b0 : Nat} {spare : Nat → Bool} {held : Bool} {t e : TypeId} {k : IntKind} {v : Value} {d : DataW H} {p : List MemPlace}
    (ht : P.underlying t = some (.slice e)) (he : P.underlying e = some (.int k)) (hc : P.cellsOf e = 1) (hval : Value.okWide P W r b0 t v) (hd : DataW.Trod enc P W base spare held t v d p) :
    ∃ (a : Option Addr) (xs : List Int) (cap : Nat), v = .slice a xs.length cap ∧ xs.length ≤ cap ∧ cap ≤ maxLen ∧ (∀ n ∈ xs, (Lit.int k n).wf = true) ∧ SlI k W a xs := by
  obtain ⟨a0, len, cap, rfl⟩ := okWide_slice ht hval
  obtain ⟨fuel, hf⟩ := hd
  rcases open_ints ht he hc hf with ⟨hcs, hx⟩ | ⟨a, len', cap', zs, hcs, _, hl, hm, hz, hx, hcell, hwz⟩
  · simp [Value.cells] at hcs
    obtain ⟨rfl, rfl, rfl⟩ := hcs
    exact ⟨none, [], 0, rfl, by simp, by unfold maxLen; omega, by simp, .nil⟩
  · simp [Value.cells] at hcs
    obtain ⟨rfl, rfl, rfl⟩ := hcs
    have hzl : len ≤ zs.length := by rw [hz]; split <;> omega
    have e1 : (zs.take len).length = len := by simp; omega
    refine ⟨some a, zs.take len, cap, by rw [e1], by rw [e1]; exact hl, hm, fun n hn => hwz n (List.mem_of_mem_take hn), ?_⟩
    by_cases h0 : 0 < zs.length
    · obtain ⟨b, off, rfl, h⟩ := ints_at hcell h0
      exact SlI.take (.inr ⟨b, off, rfl, h⟩) len
    · have : zs = [] := by simpa using h0
      subst this
      exact .inl (by simp)
/-- .. and a slice that is nil has no room. -/
theorem open_sln {H : Type} {enc : TypeId × Value → H} {P : Program} {W : World} {r : Reach} {base b0 : Nat} {spare : Nat → Bool} {held : Bool} {t e : TypeId} {k : IntKind} {v : Value} {d : DataW H} {p : List MemPlace}
    (ht : P.underlying t = some (.slice e)) (he : P.underlying e = some (.int k)) (hc : P.cellsOf e = 1) (hval : Value.okWide P W r b0 t v) (hd : DataW.Trod enc P W base spare held t v d p) :
    ∃ (a : Option Addr) (xs : List Int) (cap : Nat), v = .slice a xs.length cap ∧ xs.length ≤ cap ∧ cap ≤ maxLen ∧ (∀ n ∈ xs, (Lit.int k n).wf = true) ∧ SlI k W a xs ∧ (a = none → cap = 0) := by
  obtain ⟨a0, len, cap, rfl⟩ := okWide_slice ht hval
  obtain ⟨fuel, hf⟩ := hd
  rcases open_ints ht he hc hf with ⟨hcs, hx⟩ | ⟨a, len', cap', zs, hcs, _, hl, hm, hz, hx, hcell, hwz⟩
  · simp [Value.cells] at hcs
    obtain ⟨rfl, rfl, rfl⟩ := hcs
    exact ⟨none, [], 0, rfl, by simp, by unfold maxLen; omega, by simp, .nil, fun _ => rfl⟩
  · simp [Value.cells] at hcs
    obtain ⟨rfl, rfl, rfl⟩ := hcs
    have hzl : len ≤ zs.length := by rw [hz]; split <;> omega
    have e1 : (zs.take len).length = len := by simp; omega
    refine ⟨some a, zs.take len, cap, by rw [e1], by rw [e1]; exact hl, hm, fun n hn => hwz n (List.mem_of_mem_take hn), ?_, fun h => by cases h⟩
    by_cases h0 : 0 < zs.length
    · obtain ⟨b, off, rfl, h⟩ := ints_at hcell h0
      exact SlI.take (.inr ⟨b, off, rfl, h⟩) len
    · have : zs = [] := by simpa using h0
      subst this
      exact .inl (by simp)
theorem In8_of_wf {n : Int} (h : (Lit.int .u8 n).wf = true) : 0 ≤ n ∧ n ≤ 255 := by
  simp [Lit.wf, IntKind.min, IntKind.max, IntKind.signed, IntKind.bits] at h; omega
theorem In32_of_wf {n : Int} (h : (Lit.int .i32 n).wf = true) : -2147483648 ≤ n ∧ n ≤ 2147483647 := by
  simp [Lit.wf, IntKind.min, IntKind.max, IntKind.signed, IntKind.bits] at h; omega
theorem In32_all {xs : List Int} (h : ∀ n ∈ xs, (Lit.int .i32 n).wf = true) : ∀ j, j < xs.length → -2147483648 ≤ xs.getD j 0 ∧ xs.getD j 0 ≤ 2147483647 := fun j hj => by
  have : xs.getD j 0 = xs[j] := by simp [List.getD, hj]
  rw [this]
  exact In32_of_wf (h _ (List.getElem_mem hj))
theorem In16_of_wf {n : Int} (h : (Lit.int .u16 n).wf = true) : 0 ≤ n ∧ n ≤ 65535 := by
  simp [Lit.wf, IntKind.min, IntKind.max, IntKind.signed, IntKind.bits] at h; omega
theorem In_all {xs : List Int} (h : ∀ n ∈ xs, (Lit.int .i64 n).wf = true) : ∀ j, j < xs.length → In (xs.getD j 0) := fun j hj => by
  have : xs.getD j 0 = xs[j] := by simp [List.getD, hj]
  rw [this]
  exact In_of_wf (h _ (List.getElem_mem hj))
end Go.Proofs.YtkejohmghacdhaaDoor
