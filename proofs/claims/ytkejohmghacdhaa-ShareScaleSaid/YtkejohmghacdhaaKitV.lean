/- A region that draws its order whose operations on memory (and calls) wait one for the other: walked in one order, like a sequence. 'heavy': those operations' numbers; all others only reckon. -/
import Derived.Test.YtkejohmghacdhaaKit
import Derived.StillTail
namespace Go.Proofs.Ytkejohmghacdhaa
set_option linter.unusedVariables false
set_option linter.unusedSimpArgs false
open Go.RowKit
/-- An operation that only reckons: v, in whatever world. -/
def pUpon (w : World) (v : Value) : Result Next → Prop
  | .ok (.value u) w' => w' = w ∧ u = v
  | _ => False
def pAt (P : Program) (o : Oper) (a : Act) (v : Value) : Prop := ∀ w, pUpon w v ((execOp a.eval o).run P w)
def pOper (P : Program) (o : Oper) (a : Act) (w : World) (next : Act → World → Prop) : Prop := ∃ v, pAt P o a v ∧ next (a.put o.dst v) w
/-- Only the way through. -/
def onlyN (K : Act → World → Prop) : Exit → Act → World → Prop
  | .normal, a, w => K a w
  | _, _, _ => False
theorem not_letsOut (K : Act → World → Prop) : ¬ LetsOut (onlyN K) := fun ⟨_, _, h⟩ => h
def wpM (P : Program) (ops : Array Oper) (hv : List Nat) (L : Act → World → Prop) : List Nat → Act → World → Prop
  | [], a, w => L a w
  | i :: s, a, w => ∃ o, ops[i]? = some o ∧ if hv.contains i = true then wpList P ops (onlyN (wpM P ops hv L s)) [o] a w
      else if Region.wanted o (yielded ops a.tmps) = true then pOper P o a w (wpM P ops hv L s) else wpM P ops hv L s (a.put o.dst undef) w
section
variable {P : Program} {ops : Array Oper} {hv : List Nat} {L : Act → World → Prop} {s : List Nat} {i : Nat} {o : Oper} {a : Act} {w : World} {md : Region.Mode}
theorem wpM_nil (h : L a w) : wpM P ops hv L [] a w := h
theorem wpM_p (h0 : ops[i]? = some o) (h1 : hv.contains i = false)
    (h : ∀ K : Act → World → Prop, (∀ a w, wpM P ops hv L s a w → K a w) → if Region.wanted o (yielded ops a.tmps) = true then pOper P o a w K else K (a.put o.dst undef) w) : wpM P ops hv L (i :: s) a w :=
  ⟨o, h0, by rw [h1]; exact h _ (fun _ _ h => h)⟩
theorem wpM_h (h0 : ops[i]? = some o) (h1 : hv.contains i = true)
    (h : ∀ K : Act → World → Prop, (∀ a w, wpM P ops hv L s a w → K a w) → wpList P ops (onlyN K) [o] a w) : wpM P ops hv L (i :: s) a w :=
  ⟨o, h0, by rw [if_pos h1]; exact h _ (fun _ _ h => h)⟩
theorem wp_only {K K' : Act → World → Prop} {L : Act → World → Prop} {Q : Exit → Act → World → Prop} (hK : ∀ a w, K a w → K' a w) (h : o.wp P a w K (onlyN L)) : o.wp P a w K' Q := by
  unfold Oper.wp at *
  generalize (execOp a.eval o).run P w = r at *
  cases r with
  | ok n w' =>
    cases n <;> simp only [Oper.upon] at h ⊢
    case value => exact hK _ _ h
    case skip => exact hK _ _ h
    case defer => exact hK _ _ h
    case enter f args =>
      exact Calls.mono h (fun e w'' he => by
        cases e with
        | returned v => exact hK _ _ he
        | panicked c => exact he.elim
        | outgrown => exact (not_letsOut _ he).elim)
    case row r args => exact Rows.mono h (fun _ _ he => hK _ _ he)
  | halt x w' =>
    cases x <;> simp only [Oper.upon] at h ⊢
    case panic => exact h.elim
theorem wpOp_only {K K' : Act → World → Prop} {L : Act → World → Prop} {Q : Exit → Act → World → Prop} (hK : ∀ a w, K a w → K' a w) (h : wpOp P ops (onlyN L) i K a w) : wpOp P ops Q i K' a w := by
  unfold wpOp at *
  split
  · rename_i h0; simp only [h0] at h; exact hK _ _ h
  · rename_i o h0
    simp only [h0] at h
    split
    · rename_i hw
      simp only [hw, if_true] at h
      rcases h with h | ⟨_, h⟩
      · exact .inl (wp_only hK h)
      · exact (not_letsOut _ h).elim
    · rename_i hw; simp only [hw] at h; exact hK _ _ h
theorem wpAny_only {Q : Exit → Act → World → Prop} (hL : ∀ a w, L a w → Q .normal a w) : ∀ (f : Nat) (t : Array Bool) (a : Act) (w : World), wpAny P md ops (onlyN L) f t a w → wpAny P md ops Q f t a w := by
  intro f
  induction f with
  | zero => intro t a w h; exact ⟨h.1, hL _ _ h.2⟩
  | succ f ih => intro t a w h; exact ⟨fun h0 => hL _ _ (h.1 h0), fun i hi => wpOp_only (fun a w => ih _ a w) (h.2 i hi)⟩
/-- The order serves: what reckons comes up while it is ready and apart from the rest, what turns memory only where nothing else is ready. -/
def schedB (md : Region.Mode) (ops : Array Oper) (hv : List Nat) : List Nat → Array Bool → Bool
  | [], t => (Region.ready md ops t).isEmpty
  | i :: s, t => (if hv.contains i = true then Region.ready md ops t == [i] else (Region.ready md ops t).contains i && Region.free md ops t i) && schedB md ops hv s (t.setIfInBounds i true)
theorem any_of_M (hsel : Region.noSelect ops = true) : ∀ (s : List Nat) (t : Array Bool) (a : Act) (w : World), schedB md ops hv s t = true → wpM P ops hv L s a w → wpAny P md ops (onlyN L) s.length t a w := by
  intro s
  induction s with
  | nil => intro t a w hB h; exact ⟨by simpa [schedB] using hB, h⟩
  | cons i s ih =>
    intro t a w hB h
    obtain ⟨o, h0, h⟩ := h
    simp only [schedB, Bool.and_eq_true] at hB
    obtain ⟨hB1, hB2⟩ := hB
    by_cases hh : hv.contains i = true
    · rw [if_pos hh] at hB1 h
      have hr : Region.ready md ops t = [i] := by simpa using hB1
      refine ⟨fun h1 => (by rw [hr] at h1; cases h1), fun j hj => ?_⟩
      rw [hr] at hj
      obtain rfl : j = i := by simpa using hj
      unfold wpOp
      simp only [h0]
      unfold wpList at h
      split
      · rename_i hw
        simp only [hw, if_true] at h
        rcases h with h | ⟨_, h⟩
        · exact .inl (wp_only (fun a w h => ih _ a w hB2 h) h)
        · exact (not_letsOut _ h).elim
      · rename_i hw
        simp only [hw] at h
        exact ih _ _ _ hB2 h
    · rw [if_neg hh] at hB1 h
      simp only [Bool.and_eq_true] at hB1
      have key : ∃ v, Yields P ops o v a ∧ wpM P ops hv L s (a.put o.dst v) w := by
        by_cases hw : Region.wanted o (yielded ops a.tmps) = true
        · rw [if_pos hw] at h
          obtain ⟨v, hv', hn⟩ := h
          refine ⟨v, .inl ⟨hw, fun w => ?_⟩, hn⟩
          have := hv' w
          generalize (execOp a.eval o).run P w = r at *
          cases r with
          | ok n w' =>
            cases n <;> simp only [pUpon] at this
            case value u => obtain ⟨rfl, rfl⟩ := this; rfl
          | halt x w' => simp only [pUpon] at this
        · rw [if_neg hw] at h
          exact ⟨undef, .inr ⟨by simpa using hw, rfl⟩, h⟩
      obtain ⟨v, hy, hn⟩ := key
      exact wpAny_first h0 (Region.noSelect_spec hsel) (fun c a w h => h) s.length t a w (Region.free_spec h0 hB1.2) (by simpa using hB1.1) hy (ih _ _ _ hB2 hn)
end
theorem wpList_unguard {P : Program} {ops : Array Oper} {Q : Exit → Act → World → Prop} {o : Oper} {a : Act} {w : World} (hw : Region.wanted o (yielded ops a.tmps) = true) (h : wpList P ops Q [{ o with guard := none }] a w) : wpList P ops Q [o] a w := by
  obtain ⟨dst, op, type, pos, after, guard⟩ := o
  unfold wpList at *
  rw [if_pos hw]
  rwa [if_pos (show Region.wanted ⟨dst, op, type, pos, after, none⟩ (yielded ops a.tmps) = true from rfl)] at h
/-- The region, in the order s. -/
theorem region_m {P : Program} {id : Nat} {Q : Exit → Act → World → Prop} {a : Act} {w : World} {l : List Oper} (hv s : List Nat) (hm : P.follows .mixedOrders = true)
    (hB : (Region.noSelect l.toArray && schedB .any l.toArray hv s (Array.replicate l.toArray.size false) && s.length == l.toArray.size) = true)
    (h : wpM P l.toArray hv (fun a' w' => Q .normal a' w') s a w.drew) : (Code.region id l.toArray true).wp P Q a w := by
  simp only [Bool.and_eq_true, beq_iff_eq] at hB
  refine wp_region_any hm ?_
  have := any_of_M hB.1.1 s _ a _ hB.1.2 h
  rw [hB.2] at this
  exact wpAny_only (fun _ _ h => h) _ _ _ _ this
end Go.Proofs.Ytkejohmghacdhaa
attribute [go_sem] Go.Proofs.Ytkejohmghacdhaa.pOper Go.Proofs.Ytkejohmghacdhaa.pAt Go.Proofs.Ytkejohmghacdhaa.pUpon
