/- Contract of the package stamp: the example's text read. -/
import Derived.Test.YteppoghpfcmhhaaYearE
import Derived.Lib.OthersKept
import Derived.Laws.OwnMore
namespace Go.Proofs.Yteppoghpfcmhhaa
set_option linter.unusedVariables false
set_option linter.unusedSimpArgs false
open Go.RowKit
/-- the numbers read of 2024-02-03 up to a sign, and whether one is open -/
def exL : Nat → List Int
  | 0 => []
  | 1 => [2]
  | 2 => [20]
  | 3 => [202]
  | 4 => [2024]
  | 5 => [2024]
  | 6 => [2024, 0]
  | 7 => [2024, 2]
  | 8 => [2024, 2]
  | 9 => [2024, 2, 0]
  | _ => [2024, 2, 3]
def exO : Nat → Bool
  | 0 => false
  | 5 => false
  | 8 => false
  | _ => true
theorem info_int : (Try.prog.info? 3).map (fun i => (i.zero, i.size, i.bytes)) = some (some (.int .i64 0), 1, 8) := by kernel_rfl
theorem own_iter {w : World} {B e size n : Nat} {v : Value} {xs : List Value} {k : Nat} {s : ByteArray} {pos : Nat} (h : w.ownsRow B e size v n xs) (hk : w.heap[k]? = some (.stringIter s pos)) (pos' : Nat) : (w.iterAt k s pos').ownsRow B e size v n xs := by
  refine ⟨h.1, ?_⟩
  rcases h.2 with h0 | ⟨g, cap, cur, hv, hb, hg, rest⟩
  · exact .inl h0
  · refine .inr ⟨g, cap, cur, hv, hb, ?_, rest⟩
    rw [Lib.iterAt_other _ _ _ _ _ (fun e => by subst e; rw [hk] at hg; cases hg)]
    exact hg
theorem own_shape {w : World} {B e n : Nat} {v : Value} {xs : List Value} (h : w.ownsRow B e 1 v n xs) (hn : n ≠ 0) : ∃ g cap : Nat, v = .slice (some ⟨g, 0, none⟩) n cap ∧ B ≤ g ∧ ∃ cur, w.heap[g]? = some (.cells cur e (0, 0)) := by
  rcases h.2 with ⟨_, h0⟩ | ⟨g, cap, cur, hv, hb, hg, _⟩
  · exact absurd h0 hn
  · exact ⟨g, cap, hv, hb, cur, hg⟩
theorem step_store {w w1 : World} {e g n cap k p : Nat} {xs : List Value} {s : ByteArray} (h : w1.ownsRow w.heap.size e 1 (.slice (some ⟨g, 0, none⟩) n cap) n xs) (hn : n ≠ 0) (hit : w1.heap[k]? = some (.stringIter s p)) (hb : Below w.heap.size w w1) (j : Nat) (u : Value) :
    (w1.setCell ⟨g, j, none⟩ u).ownsRow w.heap.size e 1 (.slice (some ⟨g, 0, none⟩) n cap) n (xs.set j u) ∧ (w1.setCell ⟨g, j, none⟩ u).heap[k]? = some (.stringIter s p) ∧ Below w.heap.size w (w1.setCell ⟨g, j, none⟩ u) := by
  obtain ⟨g', cap', hv, hg, cur, hc⟩ := own_shape h hn
  simp only [Value.slice.injEq, Option.some.injEq, Addr.mk.injEq, and_true, true_and] at hv
  obtain ⟨rfl, rfl⟩ := hv
  obtain ⟨a, b⟩ := h.stored j u
  refine ⟨a, ?_, bl_setCell hb u hg⟩
  rw [b.block k (Array.getElem?_eq_some_iff.1 hit).1 (fun e2 => by injection e2 with e2; subst e2; rw [hit] at hc; cases hc)]
  exact hit
theorem own_noiter {w : World} {B e size n : Nat} {v : Value} {xs : List Value} {k : Nat} {s : ByteArray} {pos : Nat} (h : w.ownsRow B e size v n xs) (hk : w.heap[k]? = some (.stringIter s pos)) : some k ≠ v.ownBlock := by
  rcases h.2 with ⟨rfl, _⟩ | ⟨g, cap, cur, rfl, hb, hg, rest⟩
  · simp [Value.ownBlock]
  · intro e
    simp only [Value.ownBlock, Option.some.injEq] at e
    subst e
    rw [hk] at hg
    cases hg
theorem own_base {w : World} {B e size n : Nat} {v : Value} {xs : List Value} (h : w.ownsRow B e size v n xs) : ∀ k, v.ownBlock = some k → B ≤ k := by
  rcases h.2 with ⟨rfl, _⟩ | ⟨g, cap, cur, rfl, hb, hg, rest⟩
  · intro k hk; simp [Value.ownBlock] at hk
  · intro k hk; simp only [Value.ownBlock, Option.some.injEq] at hk; omega
theorem step_grow {w w1 w2 : World} {e n : Nat} {v : Value} {xs : List Value} {k p : Nat} {s : ByteArray} {o : Obj} (h : w1.ownsRow w.heap.size e 1 v n xs) (hit : w1.heap[k]? = some (.stringIter s p)) (hb : Below w.heap.size w w1) (hg : (w1.alloc o).grownBy w2 v.ownBlock) :
    w2.heap[k]? = some (.stringIter s p) ∧ Below w.heap.size w w2 := by
  have hk := (Array.getElem?_eq_some_iff.1 hit).1
  refine ⟨?_, (bl_alloc hb o).grown hg (by have := hb.size; simp; omega) (own_base h)⟩
  rw [hg.block k (by simp; omega) (own_noiter h hit)]
  exact (heap_alloc_old w1 o hk).trans hit
theorem iterPos_is {w : World} {k p : Nat} {s : ByteArray} (h : w.heap[k]? = some (.stringIter s p)) : w.iterPos k = p := by unfold World.iterPos; rw [h]
theorem step_iter {w w1 : World} {k p : Nat} {s : ByteArray} (hit : w1.heap[k]? = some (.stringIter s p)) (hk : w.heap.size ≤ k) (hb : Below w.heap.size w w1) (q : Nat) : (w1.iterAt k s q).heap[k]? = some (.stringIter s q) ∧ Below w.heap.size w (w1.iterAt k s q) :=
  ⟨Lib.iterAt_heap _ _ _ _ _ hit, Lib.below_iterAt hb hk s q⟩
set_option maxRecDepth 100000 in
set_option maxHeartbeats 4000000 in
theorem numbers_ex (w : World) :
    Calls Try.prog 76 #[.string ⟨#[50, 48, 50, 52, 45, 48, 50, 45, 48, 51]⟩, .string ⟨#[35, 35, 35, 35, 45, 35, 35, 45, 35, 35]⟩] w fun e w' => ∃ g cap : Nat, e = .returned (.tuple #[.slice (some ⟨g, 0, none⟩) 3 cap, .bool true]) ∧ w'.ownsRow w.heap.size 3 1 (.slice (some ⟨g, 0, none⟩) 3 cap) 3 [.int .i64 2024, .int .i64 2, .int .i64 3] ∧ Below w.heap.size w w' := by
  obtain ⟨i0, hi, hz0, hz1, hz2⟩ := info_parts info_int
  go_enter Try.func76, Try.ntmps76
  go_wp2
  go_loopw [4, 6] (fun v o wr => ∃ p : Nat, p ≤ 10 ∧ o = .bool (exO p) ∧ wr.ownsRow w.heap.size 3 1 v (exL p).length ((exL p).map (Value.int .i64)) ∧ wr.heap[w.heap.size]? = some (.stringIter ⟨#[35, 35, 35, 35, 45, 35, 35, 45, 35, 35]⟩ p) ∧ Below w.heap.size w wr) (fun _ _ wr => 10 - wr.iterPos w.heap.size)
  case atStart =>
    refine ⟨0, by omega, rfl, World.ownsRow_nil _ _ _ _, ?_, ?_⟩
    · simp [World.iter_heap]
    · exact bl_alloc (Below.refl _ _) (.stringIter _ 0)
  case round =>
    obtain ⟨p, hp, rfl, hown, hit, hbr⟩ := hrel
    have hlt : w.heap.size < wr.heap.size := (Array.getElem?_eq_some_iff.1 hit).1
    have hp' : p = 0 ∨ p = 1 ∨ p = 2 ∨ p = 3 ∨ p = 4 ∨ p = 5 ∨ p = 6 ∨ p = 7 ∨ p = 8 ∨ p = 9 ∨ p = 10 := by omega
    rcases hp' with rfl | rfl | rfl | rfl | rfl | rfl | rfl | rfl | rfl | rfl | rfl
    · have hnx : ∀ ty, (Instr.next (.pointer (some ⟨w.heap.size, 0, none⟩)) true ty).run Try.prog wr = .ok (.tuple #[.bool true, .int .i64 0, .int .i32 35]) (wr.iterAt w.heap.size ⟨#[35, 35, 35, 35, 45, 35, 35, 45, 35, 35]⟩ 1) := fun ty => Lib.run_next_ascii_at wr _ _ _ ty hit (by decide) (by decide)
      have hO : exO 0 = false := rfl
      have hch : ((({ data := #[50, 48, 50, 52, 45, 48, 50, 45, 48, 51] } : ByteArray)[0]'(by decide)).toNat : Int) = 50 := rfl
      have hown : wr.ownsRow w.heap.size 3 1 _ 0 [] := hown
      have H1 := own_iter hown hit 1
      obtain ⟨hit1, hb1⟩ := step_iter hit (Nat.le_refl _) hbr 1
      go_wp2_with (at_builtin; refine wpList_append_own _ rfl _ _ 75 rfl w.heap.size 3 i0 (.int .i64 0) 1 8 Try.underlying75 hi hz0 hz1 hz2 rfl (by decide) _ _ _ rfl (H1.alloc _) _ 1 1 [.int .i64 0] rfl rfl ?c1_0 ?c2_0 ?c3_0 ?c4_0 ?c5_0 ?_)
      case c1_0 =>
        intro j u hj
        match j, hj with
        | 0, hj => simp at hj; subst hj; simp [Addr.add]
      case c2_0 => intro u hu; simp at hu; subst hu; rfl
      case c3_0 => unfold maxLen; simp [exL]
      case c4_0 => simp [exL]
      case c5_0 => have := hb1.size; simp; omega
      intro v' w1 hown' hgrow _
      have hown' : w1.ownsRow w.heap.size 3 1 v' 1 [.int .i64 0] := hown'
      obtain ⟨g, cap, rfl, hg, cur, hcur⟩ := own_shape hown' (by decide)
      have c0 : w1.cell? ⟨g, 0, none⟩ = some (.int .i64 0) := (hown'.cellAt 0 (by decide)).trans rfl
      have f0 := hown'.frozenAt 0
      obtain ⟨hit2, hb2⟩ := step_grow H1 hit1 hb1 hgrow
      have PI := Lib.hid (iterPos_is hit)
      have HO := Lib.hid hown'
      have SS := Lib.hid (step_store HO.out (by decide) hit2 hb2 0 (.int .i64 2))
      have PO := Lib.hid (iterPos_is SS.out.2.1)
      clear hown' hgrow hown hit hbr hit1 hb1 hit2 hb2 hcur H1
      go_wp2
      go_roundw
      case rel => exact ⟨1, by omega, rfl, SS.out.1, SS.out.2.1, SS.out.2.2⟩
      case measure => rw [PI.out, PO.out]; decide
    · have hnx : ∀ ty, (Instr.next (.pointer (some ⟨w.heap.size, 0, none⟩)) true ty).run Try.prog wr = .ok (.tuple #[.bool true, .int .i64 1, .int .i32 35]) (wr.iterAt w.heap.size ⟨#[35, 35, 35, 35, 45, 35, 35, 45, 35, 35]⟩ 2) := fun ty => Lib.run_next_ascii_at wr _ _ _ ty hit (by decide) (by decide)
      have hO : exO 1 = true := rfl
      have hch : ((({ data := #[50, 48, 50, 52, 45, 48, 50, 45, 48, 51] } : ByteArray)[1]'(by decide)).toNat : Int) = 48 := rfl
      have hown : wr.ownsRow w.heap.size 3 1 _ 1 [.int .i64 2] := hown
      obtain ⟨g, cap, rfl, hg, cur, hcur⟩ := own_shape hown (by decide)
      have H1 := own_iter hown hit 2
      obtain ⟨hit1, hb1⟩ := step_iter hit (Nat.le_refl _) hbr 2
      have c0 : (wr.iterAt w.heap.size ⟨#[35, 35, 35, 35, 45, 35, 35, 45, 35, 35]⟩ 2).cell? ⟨g, 0, none⟩ = some (.int .i64 2) := (H1.cellAt 0 (by decide)).trans rfl
      have f0 := H1.frozenAt 0
      have PI := Lib.hid (iterPos_is hit)
      have SS := Lib.hid (step_store H1 (by decide) hit1 hb1 0 (.int .i64 20))
      have PO := Lib.hid (iterPos_is SS.out.2.1)
      clear hown hit hbr hit1 hb1 hcur H1
      go_wp2
      go_roundw
      case rel => exact ⟨2, by omega, rfl, SS.out.1, SS.out.2.1, SS.out.2.2⟩
      case measure => rw [PI.out, PO.out]; decide
    · have hnx : ∀ ty, (Instr.next (.pointer (some ⟨w.heap.size, 0, none⟩)) true ty).run Try.prog wr = .ok (.tuple #[.bool true, .int .i64 2, .int .i32 35]) (wr.iterAt w.heap.size ⟨#[35, 35, 35, 35, 45, 35, 35, 45, 35, 35]⟩ 3) := fun ty => Lib.run_next_ascii_at wr _ _ _ ty hit (by decide) (by decide)
      have hO : exO 2 = true := rfl
      have hch : ((({ data := #[50, 48, 50, 52, 45, 48, 50, 45, 48, 51] } : ByteArray)[2]'(by decide)).toNat : Int) = 50 := rfl
      have hown : wr.ownsRow w.heap.size 3 1 _ 1 [.int .i64 20] := hown
      obtain ⟨g, cap, rfl, hg, cur, hcur⟩ := own_shape hown (by decide)
      have H1 := own_iter hown hit 3
      obtain ⟨hit1, hb1⟩ := step_iter hit (Nat.le_refl _) hbr 3
      have c0 : (wr.iterAt w.heap.size ⟨#[35, 35, 35, 35, 45, 35, 35, 45, 35, 35]⟩ 3).cell? ⟨g, 0, none⟩ = some (.int .i64 20) := (H1.cellAt 0 (by decide)).trans rfl
      have f0 := H1.frozenAt 0
      have PI := Lib.hid (iterPos_is hit)
      have SS := Lib.hid (step_store H1 (by decide) hit1 hb1 0 (.int .i64 202))
      have PO := Lib.hid (iterPos_is SS.out.2.1)
      clear hown hit hbr hit1 hb1 hcur H1
      go_wp2
      go_roundw
      case rel => exact ⟨3, by omega, rfl, SS.out.1, SS.out.2.1, SS.out.2.2⟩
      case measure => rw [PI.out, PO.out]; decide
    · have hnx : ∀ ty, (Instr.next (.pointer (some ⟨w.heap.size, 0, none⟩)) true ty).run Try.prog wr = .ok (.tuple #[.bool true, .int .i64 3, .int .i32 35]) (wr.iterAt w.heap.size ⟨#[35, 35, 35, 35, 45, 35, 35, 45, 35, 35]⟩ 4) := fun ty => Lib.run_next_ascii_at wr _ _ _ ty hit (by decide) (by decide)
      have hO : exO 3 = true := rfl
      have hch : ((({ data := #[50, 48, 50, 52, 45, 48, 50, 45, 48, 51] } : ByteArray)[3]'(by decide)).toNat : Int) = 52 := rfl
      have hown : wr.ownsRow w.heap.size 3 1 _ 1 [.int .i64 202] := hown
      obtain ⟨g, cap, rfl, hg, cur, hcur⟩ := own_shape hown (by decide)
      have H1 := own_iter hown hit 4
      obtain ⟨hit1, hb1⟩ := step_iter hit (Nat.le_refl _) hbr 4
      have c0 : (wr.iterAt w.heap.size ⟨#[35, 35, 35, 35, 45, 35, 35, 45, 35, 35]⟩ 4).cell? ⟨g, 0, none⟩ = some (.int .i64 202) := (H1.cellAt 0 (by decide)).trans rfl
      have f0 := H1.frozenAt 0
      have PI := Lib.hid (iterPos_is hit)
      have SS := Lib.hid (step_store H1 (by decide) hit1 hb1 0 (.int .i64 2024))
      have PO := Lib.hid (iterPos_is SS.out.2.1)
      clear hown hit hbr hit1 hb1 hcur H1
      go_wp2
      go_roundw
      case rel => exact ⟨4, by omega, rfl, SS.out.1, SS.out.2.1, SS.out.2.2⟩
      case measure => rw [PI.out, PO.out]; decide
    · have hnx : ∀ ty, (Instr.next (.pointer (some ⟨w.heap.size, 0, none⟩)) true ty).run Try.prog wr = .ok (.tuple #[.bool true, .int .i64 4, .int .i32 45]) (wr.iterAt w.heap.size ⟨#[35, 35, 35, 35, 45, 35, 35, 45, 35, 35]⟩ 5) := fun ty => Lib.run_next_ascii_at wr _ _ _ ty hit (by decide) (by decide)
      have hO : exO 4 = true := rfl
      have hch : ((({ data := #[50, 48, 50, 52, 45, 48, 50, 45, 48, 51] } : ByteArray)[4]'(by decide)).toNat : Int) = 45 := rfl
      have H1 := Lib.hid (own_iter hown hit 5)
      have II := Lib.hid (step_iter hit (Nat.le_refl _) hbr 5)
      have PI := Lib.hid (iterPos_is hit)
      have PO := Lib.hid (iterPos_is II.out.1)
      clear hown hit hbr
      go_wp2
      go_roundw
      case rel => exact ⟨5, by omega, rfl, H1.out, II.out.1, II.out.2⟩
      case measure => rw [PI.out, PO.out]; decide
    · have hnx : ∀ ty, (Instr.next (.pointer (some ⟨w.heap.size, 0, none⟩)) true ty).run Try.prog wr = .ok (.tuple #[.bool true, .int .i64 5, .int .i32 35]) (wr.iterAt w.heap.size ⟨#[35, 35, 35, 35, 45, 35, 35, 45, 35, 35]⟩ 6) := fun ty => Lib.run_next_ascii_at wr _ _ _ ty hit (by decide) (by decide)
      have hO : exO 5 = false := rfl
      have hch : ((({ data := #[50, 48, 50, 52, 45, 48, 50, 45, 48, 51] } : ByteArray)[5]'(by decide)).toNat : Int) = 48 := rfl
      have hown : wr.ownsRow w.heap.size 3 1 _ 1 [.int .i64 2024] := hown
      have H1 := own_iter hown hit 6
      obtain ⟨hit1, hb1⟩ := step_iter hit (Nat.le_refl _) hbr 6
      go_wp2_with (at_builtin; refine wpList_append_own _ rfl _ _ 75 rfl w.heap.size 3 i0 (.int .i64 0) 1 8 Try.underlying75 hi hz0 hz1 hz2 rfl (by decide) _ _ _ rfl (H1.alloc _) _ 1 1 [.int .i64 0] rfl rfl ?c1_5 ?c2_5 ?c3_5 ?c4_5 ?c5_5 ?_)
      case c1_5 =>
        intro j u hj
        match j, hj with
        | 0, hj => simp at hj; subst hj; simp [Addr.add]
      case c2_5 => intro u hu; simp at hu; subst hu; rfl
      case c3_5 => unfold maxLen; simp [exL]
      case c4_5 => simp [exL]
      case c5_5 => have := hb1.size; simp; omega
      intro v' w1 hown' hgrow _
      have hown' : w1.ownsRow w.heap.size 3 1 v' 2 [.int .i64 2024, .int .i64 0] := hown'
      obtain ⟨g, cap, rfl, hg, cur, hcur⟩ := own_shape hown' (by decide)
      have c0 : w1.cell? ⟨g, 1, none⟩ = some (.int .i64 0) := (hown'.cellAt 1 (by decide)).trans rfl
      have f0 := hown'.frozenAt 1
      obtain ⟨hit2, hb2⟩ := step_grow H1 hit1 hb1 hgrow
      have PI := Lib.hid (iterPos_is hit)
      have HO := Lib.hid hown'
      have SS := Lib.hid (step_store HO.out (by decide) hit2 hb2 1 (.int .i64 0))
      have PO := Lib.hid (iterPos_is SS.out.2.1)
      clear hown' hgrow hown hit hbr hit1 hb1 hit2 hb2 hcur H1
      go_wp2
      go_roundw
      case rel => exact ⟨6, by omega, rfl, SS.out.1, SS.out.2.1, SS.out.2.2⟩
      case measure => rw [PI.out, PO.out]; decide
    · have hnx : ∀ ty, (Instr.next (.pointer (some ⟨w.heap.size, 0, none⟩)) true ty).run Try.prog wr = .ok (.tuple #[.bool true, .int .i64 6, .int .i32 35]) (wr.iterAt w.heap.size ⟨#[35, 35, 35, 35, 45, 35, 35, 45, 35, 35]⟩ 7) := fun ty => Lib.run_next_ascii_at wr _ _ _ ty hit (by decide) (by decide)
      have hO : exO 6 = true := rfl
      have hch : ((({ data := #[50, 48, 50, 52, 45, 48, 50, 45, 48, 51] } : ByteArray)[6]'(by decide)).toNat : Int) = 50 := rfl
      have hown : wr.ownsRow w.heap.size 3 1 _ 2 [.int .i64 2024, .int .i64 0] := hown
      obtain ⟨g, cap, rfl, hg, cur, hcur⟩ := own_shape hown (by decide)
      have H1 := own_iter hown hit 7
      obtain ⟨hit1, hb1⟩ := step_iter hit (Nat.le_refl _) hbr 7
      have c0 : (wr.iterAt w.heap.size ⟨#[35, 35, 35, 35, 45, 35, 35, 45, 35, 35]⟩ 7).cell? ⟨g, 1, none⟩ = some (.int .i64 0) := (H1.cellAt 1 (by decide)).trans rfl
      have f0 := H1.frozenAt 1
      have PI := Lib.hid (iterPos_is hit)
      have SS := Lib.hid (step_store H1 (by decide) hit1 hb1 1 (.int .i64 2))
      have PO := Lib.hid (iterPos_is SS.out.2.1)
      clear hown hit hbr hit1 hb1 hcur H1
      go_wp2
      go_roundw
      case rel => exact ⟨7, by omega, rfl, SS.out.1, SS.out.2.1, SS.out.2.2⟩
      case measure => rw [PI.out, PO.out]; decide
    · have hnx : ∀ ty, (Instr.next (.pointer (some ⟨w.heap.size, 0, none⟩)) true ty).run Try.prog wr = .ok (.tuple #[.bool true, .int .i64 7, .int .i32 45]) (wr.iterAt w.heap.size ⟨#[35, 35, 35, 35, 45, 35, 35, 45, 35, 35]⟩ 8) := fun ty => Lib.run_next_ascii_at wr _ _ _ ty hit (by decide) (by decide)
      have hO : exO 7 = true := rfl
      have hch : ((({ data := #[50, 48, 50, 52, 45, 48, 50, 45, 48, 51] } : ByteArray)[7]'(by decide)).toNat : Int) = 45 := rfl
      have H1 := Lib.hid (own_iter hown hit 8)
      have II := Lib.hid (step_iter hit (Nat.le_refl _) hbr 8)
      have PI := Lib.hid (iterPos_is hit)
      have PO := Lib.hid (iterPos_is II.out.1)
      clear hown hit hbr
      go_wp2
      go_roundw
      case rel => exact ⟨8, by omega, rfl, H1.out, II.out.1, II.out.2⟩
      case measure => rw [PI.out, PO.out]; decide
    · have hnx : ∀ ty, (Instr.next (.pointer (some ⟨w.heap.size, 0, none⟩)) true ty).run Try.prog wr = .ok (.tuple #[.bool true, .int .i64 8, .int .i32 35]) (wr.iterAt w.heap.size ⟨#[35, 35, 35, 35, 45, 35, 35, 45, 35, 35]⟩ 9) := fun ty => Lib.run_next_ascii_at wr _ _ _ ty hit (by decide) (by decide)
      have hO : exO 8 = false := rfl
      have hch : ((({ data := #[50, 48, 50, 52, 45, 48, 50, 45, 48, 51] } : ByteArray)[8]'(by decide)).toNat : Int) = 48 := rfl
      have hown : wr.ownsRow w.heap.size 3 1 _ 2 [.int .i64 2024, .int .i64 2] := hown
      have H1 := own_iter hown hit 9
      obtain ⟨hit1, hb1⟩ := step_iter hit (Nat.le_refl _) hbr 9
      go_wp2_with (at_builtin; refine wpList_append_own _ rfl _ _ 75 rfl w.heap.size 3 i0 (.int .i64 0) 1 8 Try.underlying75 hi hz0 hz1 hz2 rfl (by decide) _ _ _ rfl (H1.alloc _) _ 1 1 [.int .i64 0] rfl rfl ?c1_8 ?c2_8 ?c3_8 ?c4_8 ?c5_8 ?_)
      case c1_8 =>
        intro j u hj
        match j, hj with
        | 0, hj => simp at hj; subst hj; simp [Addr.add]
      case c2_8 => intro u hu; simp at hu; subst hu; rfl
      case c3_8 => unfold maxLen; simp [exL]
      case c4_8 => simp [exL]
      case c5_8 => have := hb1.size; simp; omega
      intro v' w1 hown' hgrow _
      have hown' : w1.ownsRow w.heap.size 3 1 v' 3 [.int .i64 2024, .int .i64 2, .int .i64 0] := hown'
      obtain ⟨g, cap, rfl, hg, cur, hcur⟩ := own_shape hown' (by decide)
      have c0 : w1.cell? ⟨g, 2, none⟩ = some (.int .i64 0) := (hown'.cellAt 2 (by decide)).trans rfl
      have f0 := hown'.frozenAt 2
      obtain ⟨hit2, hb2⟩ := step_grow H1 hit1 hb1 hgrow
      have PI := Lib.hid (iterPos_is hit)
      have HO := Lib.hid hown'
      have SS := Lib.hid (step_store HO.out (by decide) hit2 hb2 2 (.int .i64 0))
      have PO := Lib.hid (iterPos_is SS.out.2.1)
      clear hown' hgrow hown hit hbr hit1 hb1 hit2 hb2 hcur H1
      go_wp2
      go_roundw
      case rel => exact ⟨9, by omega, rfl, SS.out.1, SS.out.2.1, SS.out.2.2⟩
      case measure => rw [PI.out, PO.out]; decide
    · have hnx : ∀ ty, (Instr.next (.pointer (some ⟨w.heap.size, 0, none⟩)) true ty).run Try.prog wr = .ok (.tuple #[.bool true, .int .i64 9, .int .i32 35]) (wr.iterAt w.heap.size ⟨#[35, 35, 35, 35, 45, 35, 35, 45, 35, 35]⟩ 10) := fun ty => Lib.run_next_ascii_at wr _ _ _ ty hit (by decide) (by decide)
      have hO : exO 9 = true := rfl
      have hch : ((({ data := #[50, 48, 50, 52, 45, 48, 50, 45, 48, 51] } : ByteArray)[9]'(by decide)).toNat : Int) = 51 := rfl
      have hown : wr.ownsRow w.heap.size 3 1 _ 3 [.int .i64 2024, .int .i64 2, .int .i64 0] := hown
      obtain ⟨g, cap, rfl, hg, cur, hcur⟩ := own_shape hown (by decide)
      have H1 := own_iter hown hit 10
      obtain ⟨hit1, hb1⟩ := step_iter hit (Nat.le_refl _) hbr 10
      have c0 : (wr.iterAt w.heap.size ⟨#[35, 35, 35, 35, 45, 35, 35, 45, 35, 35]⟩ 10).cell? ⟨g, 2, none⟩ = some (.int .i64 0) := (H1.cellAt 2 (by decide)).trans rfl
      have f0 := H1.frozenAt 2
      have PI := Lib.hid (iterPos_is hit)
      have SS := Lib.hid (step_store H1 (by decide) hit1 hb1 2 (.int .i64 3))
      have PO := Lib.hid (iterPos_is SS.out.2.1)
      clear hown hit hbr hit1 hb1 hcur H1
      go_wp2
      go_roundw
      case rel => exact ⟨10, by omega, rfl, SS.out.1, SS.out.2.1, SS.out.2.2⟩
      case measure => rw [PI.out, PO.out]; decide
    · have hnx : ∀ ty, (Instr.next (.pointer (some ⟨w.heap.size, 0, none⟩)) true ty).run Try.prog wr = .ok (.tuple #[.bool false]) wr := fun ty => Lib.run_next_end_at wr _ _ _ ty hit (by decide)
      have hown : wr.ownsRow w.heap.size 3 1 _ 3 [.int .i64 2024, .int .i64 2, .int .i64 3] := hown
      obtain ⟨g, cap, rfl, hg, cur, hcur⟩ := own_shape hown (by decide)
      have H1 := Lib.hid hown
      have H2 := Lib.hid hbr
      clear hown hit hbr hcur
      go_wp2
      go_ret2
      exact ⟨g, cap, rfl, H1.out, H2.out⟩
end Go.Proofs.Yteppoghpfcmhhaa
