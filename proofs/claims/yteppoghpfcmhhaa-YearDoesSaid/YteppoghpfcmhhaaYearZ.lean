import Derived.Test.YteppoghpfcmhhaaYearD
import Derived.Lib.OthersKept
import Derived.Laws.OwnMore
import Derived.Test.YteppoghpfcmhhaaAncR
import Derived.Test.YteppoghpfcmhhaaAncLive
namespace Go.Proofs.Yteppoghpfcmhhaa
set_option linter.unusedVariables false
set_option linter.unusedSimpArgs false
/- Contracts of the package year: Served. -/
open Go.RowKit
noncomputable def svE (c : CalI) (day : Int) : Int := if calB c = true then (if foE c day = 0 then (if boA c ≤ day ∧ day ≤ boB c then 0 else 11) else foE c day) else 1
noncomputable def svY (c : CalI) (day : Int) : Int := if svE c day = 0 then foY c day else 0
theorem sv_ways (c : CalI) (day : Int) : (calB c = true ∧ foE c day = 0 ∧ boA c ≤ day ∧ day ≤ boB c ∧ svE c day = 0 ∧ svY c day = foY c day) ∨ (calB c = true ∧ foE c day = 0 ∧ (day < boA c ∨ (boA c ≤ day ∧ boB c < day)) ∧ svE c day = 11 ∧ svY c day = 0) ∨
    (calB c = true ∧ foE c day ≠ 0 ∧ foY c day = 0 ∧ svE c day = foE c day ∧ svY c day = 0) ∨ (calB c = false ∧ svE c day = 1 ∧ svY c day = 0) := by
  rcases Bool.eq_false_or_eq_true (calB c) with h | h
  · by_cases f : foE c day = 0
    · by_cases b : boA c ≤ day ∧ day ≤ boB c
      · have s : svE c day = 0 := by unfold svE; rw [if_pos h, if_pos f, if_pos b]
        exact .inl ⟨h, f, b.1, b.2, s, by unfold svY; rw [if_pos s]⟩
      · have s : svE c day = 11 := by unfold svE; rw [if_pos h, if_pos f, if_neg b]
        exact .inr (.inl ⟨h, f, by omega, s, by unfold svY; rw [if_neg (by omega)]⟩)
    · have s : svE c day = foE c day := by unfold svE; rw [if_pos h, if_neg f]
      exact .inr (.inr (.inl ⟨h, f, by unfold foY; rw [if_neg f], s, by unfold svY; rw [if_neg (by omega)]⟩))
  · have s : svE c day = 1 := by unfold svE; rw [if_neg (by simp [h])]
    exact .inr (.inr (.inr ⟨h, s, by unfold svY; rw [if_neg (by omega)]⟩))
set_option maxHeartbeats 2000000 in
theorem served_any (c : CalI) (day : Int) (w : World) (hs : c.name.size ≤ maxLen) :
    Calls Try.prog 34 #[calA c, .int .i64 day] w fun e w' => e = .returned (.tuple #[.int .i64 (svY c day), .int .i64 (svE c day)]) ∧ Below w.heap.size w w' := by
  have B := bounds_any c
  have F := Lib.hid (fun w => yof_any c day w hs)
  rcases sv_ways c day with ⟨h, f, b1, b2, e1, e2⟩ | ⟨h, f, b, e1, e2⟩ | ⟨h, f, f2, e1, e2⟩ | ⟨h, e1, e2⟩
  · rw [h] at B
    have B := Lib.hid (fun w => B w hs)
    have F' := F.out
    rw [f] at F'
    have F := Lib.hid F'
    have E1 := Lib.hid e1
    have E2 := Lib.hid e2
    clear e1 e2 h f F'
    generalize boA c = P at *
    generalize boB c = R at *
    go_enter Try.func34, Try.ntmps34
    go_wp2_with fail
    refine (B.out _).mono ?_
    rintro e w1 ⟨rfl, hb1⟩
    obtain ⟨hc1, hf1, hz1⟩ := own_stays hb1 (b := w.heap.size) (by simp)
    go_wp2_with fail
    refine (F.out _).mono ?_
    rintro e w2 ⟨rfl, hb2⟩
    obtain ⟨hc2, hf2, hz2⟩ := own_stays hb2 (b := w1.heap.size) (by simp)
    go_wp2
    go_ret2
    exact ⟨ret_ii E2.out.symm E1.out.symm, (by repeat (with_reducible (first | exact Below.refl _ _ | assumption | refine bl_alloc ?_ _ | refine bl_drewN ?_ _ | refine bl_drew ?_ | refine bl_call ?_ (by assumption) | (refine bl_setCell ?_ _ (Nat.le_refl _)) | (refine bl_setCell ?_ _ (by simp)))))⟩
  · rw [h] at B
    have B := Lib.hid (fun w => B w hs)
    have F' := F.out
    rw [f] at F'
    have F := Lib.hid F'
    have E1 := Lib.hid e1
    have E2 := Lib.hid e2
    clear e1 e2 h f F'
    generalize boA c = P at *
    generalize boB c = R at *
    rcases b with b | ⟨b, b'⟩
    all_goals
      go_enter Try.func34, Try.ntmps34
      go_wp2_with fail
      refine (B.out _).mono ?_
      rintro e w1 ⟨rfl, hb1⟩
      obtain ⟨hc1, hf1, hz1⟩ := own_stays hb1 (b := w.heap.size) (by simp)
      go_wp2_with fail
      refine (F.out _).mono ?_
      rintro e w2 ⟨rfl, hb2⟩
      obtain ⟨hc2, hf2, hz2⟩ := own_stays hb2 (b := w1.heap.size) (by simp)
      go_wp2
      go_ret2
      exact ⟨ret_ii E2.out.symm E1.out.symm, (by repeat (with_reducible (first | exact Below.refl _ _ | assumption | refine bl_alloc ?_ _ | refine bl_drewN ?_ _ | refine bl_drew ?_ | refine bl_call ?_ (by assumption) | (refine bl_setCell ?_ _ (Nat.le_refl _)) | (refine bl_setCell ?_ _ (by simp)))))⟩
  · rw [h] at B
    have B := Lib.hid (fun w => B w hs)
    have F' := F.out
    rw [f2] at F'
    have F := Lib.hid F'
    have E1 := Lib.hid e1
    have E2 := Lib.hid e2
    have f3 : (foE c day == 0) = false := by simpa using f
    clear e1 e2 h f f2 F'
    generalize boA c = P at *
    generalize boB c = R at *
    generalize foE c day = t at *
    go_enter Try.func34, Try.ntmps34
    go_wp2_with fail
    refine (B.out _).mono ?_
    rintro e w1 ⟨rfl, hb1⟩
    obtain ⟨hc1, hf1, hz1⟩ := own_stays hb1 (b := w.heap.size) (by simp)
    go_wp2_with fail
    refine (F.out _).mono ?_
    rintro e w2 ⟨rfl, hb2⟩
    obtain ⟨hc2, hf2, hz2⟩ := own_stays hb2 (b := w1.heap.size) (by simp)
    go_wp2
    go_ret2
    exact ⟨ret_ii E2.out.symm E1.out.symm, (by repeat (with_reducible (first | exact Below.refl _ _ | assumption | refine bl_alloc ?_ _ | refine bl_drewN ?_ _ | refine bl_drew ?_ | refine bl_call ?_ (by assumption) | (refine bl_setCell ?_ _ (Nat.le_refl _)) | (refine bl_setCell ?_ _ (by simp)))))⟩
  · rw [h] at B
    have B := Lib.hid (fun w => B w hs)
    have E1 := Lib.hid e1
    have E2 := Lib.hid e2
    clear e1 e2 h
    generalize boA c = P at *
    generalize boB c = R at *
    go_enter Try.func34, Try.ntmps34
    go_wp2_with fail
    refine (B.out _).mono ?_
    rintro e w1 ⟨rfl, hb1⟩
    go_wp2
    go_ret2
    exact ⟨ret_ii E2.out.symm E1.out.symm, (by repeat (with_reducible (first | exact Below.refl _ _ | assumption | refine bl_alloc ?_ _ | refine bl_drewN ?_ _ | refine bl_drew ?_ | refine bl_call ?_ (by assumption) | (refine bl_setCell ?_ _ (Nat.le_refl _)) | (refine bl_setCell ?_ _ (by simp)))))⟩
/- Contract of the package stamp: the example's text read. -/
open Go.RowKit
/-- the numbers read of 2024-02-03 up to a sign, and whether one is open -/
def exL : Nat → List Int
  | 0 => []
  | 1 => [2]
  | 2 => [20]
  | 3 => [202]
  | 4 => [2024]
  | 5 => [2024]
  | 6 => [2024, 0]
  | 7 => [2024, 2]
  | 8 => [2024, 2]
  | 9 => [2024, 2, 0]
  | _ => [2024, 2, 3]
def exO : Nat → Bool
  | 0 => false
  | 5 => false
  | 8 => false
  | _ => true
theorem info_int : (Try.prog.info? 3).map (fun i => (i.zero, i.size, i.bytes)) = some (some (.int .i64 0), 1, 8) := by kernel_rfl
theorem own_iter {w : World} {B e size n : Nat} {v : Value} {xs : List Value} {k : Nat} {s : ByteArray} {pos : Nat} (h : w.ownsRow B e size v n xs) (hk : w.heap[k]? = some (.stringIter s pos)) (pos' : Nat) : (w.iterAt k s pos').ownsRow B e size v n xs := by
  refine ⟨h.1, ?_⟩
  rcases h.2 with h0 | ⟨g, cap, cur, hv, hb, hg, rest⟩
  · exact .inl h0
  · refine .inr ⟨g, cap, cur, hv, hb, ?_, rest⟩
    rw [Lib.iterAt_other _ _ _ _ _ (fun e => by subst e; rw [hk] at hg; cases hg)]
    exact hg
theorem own_shape {w : World} {B e n : Nat} {v : Value} {xs : List Value} (h : w.ownsRow B e 1 v n xs) (hn : n ≠ 0) : ∃ g cap : Nat, v = .slice (some ⟨g, 0, none⟩) n cap ∧ B ≤ g ∧ ∃ cur, w.heap[g]? = some (.cells cur e (0, 0)) := by
  rcases h.2 with ⟨_, h0⟩ | ⟨g, cap, cur, hv, hb, hg, _⟩
  · exact absurd h0 hn
  · exact ⟨g, cap, hv, hb, cur, hg⟩
theorem step_store {w w1 : World} {e g n cap k p : Nat} {xs : List Value} {s : ByteArray} (h : w1.ownsRow w.heap.size e 1 (.slice (some ⟨g, 0, none⟩) n cap) n xs) (hn : n ≠ 0) (hit : w1.heap[k]? = some (.stringIter s p)) (hb : Below w.heap.size w w1) (j : Nat) (u : Value) :
    (w1.setCell ⟨g, j, none⟩ u).ownsRow w.heap.size e 1 (.slice (some ⟨g, 0, none⟩) n cap) n (xs.set j u) ∧ (w1.setCell ⟨g, j, none⟩ u).heap[k]? = some (.stringIter s p) ∧ Below w.heap.size w (w1.setCell ⟨g, j, none⟩ u) := by
  obtain ⟨g', cap', hv, hg, cur, hc⟩ := own_shape h hn
  simp only [Value.slice.injEq, Option.some.injEq, Addr.mk.injEq, and_true, true_and] at hv
  obtain ⟨rfl, rfl⟩ := hv
  obtain ⟨a, b⟩ := h.stored j u
  refine ⟨a, ?_, bl_setCell hb u hg⟩
  rw [b.block k (Array.getElem?_eq_some_iff.1 hit).1 (fun e2 => by injection e2 with e2; subst e2; rw [hit] at hc; cases hc)]
  exact hit
theorem own_noiter {w : World} {B e size n : Nat} {v : Value} {xs : List Value} {k : Nat} {s : ByteArray} {pos : Nat} (h : w.ownsRow B e size v n xs) (hk : w.heap[k]? = some (.stringIter s pos)) : some k ≠ v.ownBlock := by
  rcases h.2 with ⟨rfl, _⟩ | ⟨g, cap, cur, rfl, hb, hg, rest⟩
  · simp [Value.ownBlock]
  · intro e
    simp only [Value.ownBlock, Option.some.injEq] at e
    subst e
    rw [hk] at hg
    cases hg
theorem own_base {w : World} {B e size n : Nat} {v : Value} {xs : List Value} (h : w.ownsRow B e size v n xs) : ∀ k, v.ownBlock = some k → B ≤ k := by
  rcases h.2 with ⟨rfl, _⟩ | ⟨g, cap, cur, rfl, hb, hg, rest⟩
  · intro k hk; simp [Value.ownBlock] at hk
  · intro k hk; simp only [Value.ownBlock, Option.some.injEq] at hk; omega
theorem step_grow {w w1 w2 : World} {e n : Nat} {v : Value} {xs : List Value} {k p : Nat} {s : ByteArray} {o : Obj} (h : w1.ownsRow w.heap.size e 1 v n xs) (hit : w1.heap[k]? = some (.stringIter s p)) (hb : Below w.heap.size w w1) (hg : (w1.alloc o).grownBy w2 v.ownBlock) :
    w2.heap[k]? = some (.stringIter s p) ∧ Below w.heap.size w w2 := by
  have hk := (Array.getElem?_eq_some_iff.1 hit).1
  refine ⟨?_, (bl_alloc hb o).grown hg (by have := hb.size; simp; omega) (own_base h)⟩
  rw [hg.block k (by simp; omega) (own_noiter h hit)]
  exact (heap_alloc_old w1 o hk).trans hit
theorem iterPos_is {w : World} {k p : Nat} {s : ByteArray} (h : w.heap[k]? = some (.stringIter s p)) : w.iterPos k = p := by unfold World.iterPos; rw [h]
theorem step_iter {w w1 : World} {k p : Nat} {s : ByteArray} (hit : w1.heap[k]? = some (.stringIter s p)) (hk : w.heap.size ≤ k) (hb : Below w.heap.size w w1) (q : Nat) : (w1.iterAt k s q).heap[k]? = some (.stringIter s q) ∧ Below w.heap.size w (w1.iterAt k s q) :=
  ⟨Lib.iterAt_heap _ _ _ _ _ hit, Lib.below_iterAt hb hk s q⟩
set_option maxRecDepth 100000 in
set_option maxHeartbeats 4000000 in
theorem numbers_ex (w : World) :
    Calls Try.prog 76 #[.string ⟨#[50, 48, 50, 52, 45, 48, 50, 45, 48, 51]⟩, .string ⟨#[35, 35, 35, 35, 45, 35, 35, 45, 35, 35]⟩] w fun e w' => ∃ g cap : Nat, e = .returned (.tuple #[.slice (some ⟨g, 0, none⟩) 3 cap, .bool true]) ∧ w'.ownsRow w.heap.size 3 1 (.slice (some ⟨g, 0, none⟩) 3 cap) 3 [.int .i64 2024, .int .i64 2, .int .i64 3] ∧ Below w.heap.size w w' := by
  obtain ⟨i0, hi, hz0, hz1, hz2⟩ := info_parts info_int
  go_enter Try.func76, Try.ntmps76
  go_wp2
  go_loopw [4, 6] (fun v o wr => ∃ p : Nat, p ≤ 10 ∧ o = .bool (exO p) ∧ wr.ownsRow w.heap.size 3 1 v (exL p).length ((exL p).map (Value.int .i64)) ∧ wr.heap[w.heap.size]? = some (.stringIter ⟨#[35, 35, 35, 35, 45, 35, 35, 45, 35, 35]⟩ p) ∧ Below w.heap.size w wr) (fun _ _ wr => 10 - wr.iterPos w.heap.size)
  case atStart =>
    refine ⟨0, by omega, rfl, World.ownsRow_nil _ _ _ _, ?_, ?_⟩
    · simp [World.iter_heap]
    · exact bl_alloc (Below.refl _ _) (.stringIter _ 0)
  case round =>
    obtain ⟨p, hp, rfl, hown, hit, hbr⟩ := hrel
    have hlt : w.heap.size < wr.heap.size := (Array.getElem?_eq_some_iff.1 hit).1
    have hp' : p = 0 ∨ p = 1 ∨ p = 2 ∨ p = 3 ∨ p = 4 ∨ p = 5 ∨ p = 6 ∨ p = 7 ∨ p = 8 ∨ p = 9 ∨ p = 10 := by omega
    rcases hp' with rfl | rfl | rfl | rfl | rfl | rfl | rfl | rfl | rfl | rfl | rfl
    · have hnx : ∀ ty, (Instr.next (.pointer (some ⟨w.heap.size, 0, none⟩)) true ty).run Try.prog wr = .ok (.tuple #[.bool true, .int .i64 0, .int .i32 35]) (wr.iterAt w.heap.size ⟨#[35, 35, 35, 35, 45, 35, 35, 45, 35, 35]⟩ 1) := fun ty => Lib.run_next_ascii_at wr _ _ _ ty hit (by decide) (by decide)
      have hO : exO 0 = false := rfl
      have hch : ((({ data := #[50, 48, 50, 52, 45, 48, 50, 45, 48, 51] } : ByteArray)[0]'(by decide)).toNat : Int) = 50 := rfl
      have hown : wr.ownsRow w.heap.size 3 1 _ 0 [] := hown
      have H1 := own_iter hown hit 1
      obtain ⟨hit1, hb1⟩ := step_iter hit (Nat.le_refl _) hbr 1
      go_wp2_with (at_builtin; refine wpList_append_own _ rfl _ _ 75 rfl w.heap.size 3 i0 (.int .i64 0) 1 8 Try.underlying75 hi hz0 hz1 hz2 rfl (by decide) _ _ _ rfl (H1.alloc _) _ 1 1 [.int .i64 0] rfl rfl ?c1_0 ?c2_0 ?c3_0 ?c4_0 ?c5_0 ?_)
      case c1_0 =>
        intro j u hj
        match j, hj with
        | 0, hj => simp at hj; subst hj; simp [Addr.add]
      case c2_0 => intro u hu; simp at hu; subst hu; rfl
      case c3_0 => unfold maxLen; simp [exL]
      case c4_0 => simp [exL]
      case c5_0 => have := hb1.size; simp; omega
      intro v' w1 hown' hgrow _
      have hown' : w1.ownsRow w.heap.size 3 1 v' 1 [.int .i64 0] := hown'
      obtain ⟨g, cap, rfl, hg, cur, hcur⟩ := own_shape hown' (by decide)
      have c0 : w1.cell? ⟨g, 0, none⟩ = some (.int .i64 0) := (hown'.cellAt 0 (by decide)).trans rfl
      have f0 := hown'.frozenAt 0
      obtain ⟨hit2, hb2⟩ := step_grow H1 hit1 hb1 hgrow
      have PI := Lib.hid (iterPos_is hit)
      have HO := Lib.hid hown'
      have SS := Lib.hid (step_store HO.out (by decide) hit2 hb2 0 (.int .i64 2))
      have PO := Lib.hid (iterPos_is SS.out.2.1)
      clear hown' hgrow hown hit hbr hit1 hb1 hit2 hb2 hcur H1
      go_wp2
      go_roundw
      case rel => exact ⟨1, by omega, rfl, SS.out.1, SS.out.2.1, SS.out.2.2⟩
      case measure => rw [PI.out, PO.out]; decide
    · have hnx : ∀ ty, (Instr.next (.pointer (some ⟨w.heap.size, 0, none⟩)) true ty).run Try.prog wr = .ok (.tuple #[.bool true, .int .i64 1, .int .i32 35]) (wr.iterAt w.heap.size ⟨#[35, 35, 35, 35, 45, 35, 35, 45, 35, 35]⟩ 2) := fun ty => Lib.run_next_ascii_at wr _ _ _ ty hit (by decide) (by decide)
      have hO : exO 1 = true := rfl
      have hch : ((({ data := #[50, 48, 50, 52, 45, 48, 50, 45, 48, 51] } : ByteArray)[1]'(by decide)).toNat : Int) = 48 := rfl
      have hown : wr.ownsRow w.heap.size 3 1 _ 1 [.int .i64 2] := hown
      obtain ⟨g, cap, rfl, hg, cur, hcur⟩ := own_shape hown (by decide)
      have H1 := own_iter hown hit 2
      obtain ⟨hit1, hb1⟩ := step_iter hit (Nat.le_refl _) hbr 2
      have c0 : (wr.iterAt w.heap.size ⟨#[35, 35, 35, 35, 45, 35, 35, 45, 35, 35]⟩ 2).cell? ⟨g, 0, none⟩ = some (.int .i64 2) := (H1.cellAt 0 (by decide)).trans rfl
      have f0 := H1.frozenAt 0
      have PI := Lib.hid (iterPos_is hit)
      have SS := Lib.hid (step_store H1 (by decide) hit1 hb1 0 (.int .i64 20))
      have PO := Lib.hid (iterPos_is SS.out.2.1)
      clear hown hit hbr hit1 hb1 hcur H1
      go_wp2
      go_roundw
      case rel => exact ⟨2, by omega, rfl, SS.out.1, SS.out.2.1, SS.out.2.2⟩
      case measure => rw [PI.out, PO.out]; decide
    · have hnx : ∀ ty, (Instr.next (.pointer (some ⟨w.heap.size, 0, none⟩)) true ty).run Try.prog wr = .ok (.tuple #[.bool true, .int .i64 2, .int .i32 35]) (wr.iterAt w.heap.size ⟨#[35, 35, 35, 35, 45, 35, 35, 45, 35, 35]⟩ 3) := fun ty => Lib.run_next_ascii_at wr _ _ _ ty hit (by decide) (by decide)
      have hO : exO 2 = true := rfl
      have hch : ((({ data := #[50, 48, 50, 52, 45, 48, 50, 45, 48, 51] } : ByteArray)[2]'(by decide)).toNat : Int) = 50 := rfl
      have hown : wr.ownsRow w.heap.size 3 1 _ 1 [.int .i64 20] := hown
      obtain ⟨g, cap, rfl, hg, cur, hcur⟩ := own_shape hown (by decide)
      have H1 := own_iter hown hit 3
      obtain ⟨hit1, hb1⟩ := step_iter hit (Nat.le_refl _) hbr 3
      have c0 : (wr.iterAt w.heap.size ⟨#[35, 35, 35, 35, 45, 35, 35, 45, 35, 35]⟩ 3).cell? ⟨g, 0, none⟩ = some (.int .i64 20) := (H1.cellAt 0 (by decide)).trans rfl
      have f0 := H1.frozenAt 0
      have PI := Lib.hid (iterPos_is hit)
      have SS := Lib.hid (step_store H1 (by decide) hit1 hb1 0 (.int .i64 202))
      have PO := Lib.hid (iterPos_is SS.out.2.1)
      clear hown hit hbr hit1 hb1 hcur H1
      go_wp2
      go_roundw
      case rel => exact ⟨3, by omega, rfl, SS.out.1, SS.out.2.1, SS.out.2.2⟩
      case measure => rw [PI.out, PO.out]; decide
    · have hnx : ∀ ty, (Instr.next (.pointer (some ⟨w.heap.size, 0, none⟩)) true ty).run Try.prog wr = .ok (.tuple #[.bool true, .int .i64 3, .int .i32 35]) (wr.iterAt w.heap.size ⟨#[35, 35, 35, 35, 45, 35, 35, 45, 35, 35]⟩ 4) := fun ty => Lib.run_next_ascii_at wr _ _ _ ty hit (by decide) (by decide)
      have hO : exO 3 = true := rfl
      have hch : ((({ data := #[50, 48, 50, 52, 45, 48, 50, 45, 48, 51] } : ByteArray)[3]'(by decide)).toNat : Int) = 52 := rfl
      have hown : wr.ownsRow w.heap.size 3 1 _ 1 [.int .i64 202] := hown
      obtain ⟨g, cap, rfl, hg, cur, hcur⟩ := own_shape hown (by decide)
      have H1 := own_iter hown hit 4
      obtain ⟨hit1, hb1⟩ := step_iter hit (Nat.le_refl _) hbr 4
      have c0 : (wr.iterAt w.heap.size ⟨#[35, 35, 35, 35, 45, 35, 35, 45, 35, 35]⟩ 4).cell? ⟨g, 0, none⟩ = some (.int .i64 202) := (H1.cellAt 0 (by decide)).trans rfl
      have f0 := H1.frozenAt 0
      have PI := Lib.hid (iterPos_is hit)
      have SS := Lib.hid (step_store H1 (by decide) hit1 hb1 0 (.int .i64 2024))
      have PO := Lib.hid (iterPos_is SS.out.2.1)
      clear hown hit hbr hit1 hb1 hcur H1
      go_wp2
      go_roundw
      case rel => exact ⟨4, by omega, rfl, SS.out.1, SS.out.2.1, SS.out.2.2⟩
      case measure => rw [PI.out, PO.out]; decide
    · have hnx : ∀ ty, (Instr.next (.pointer (some ⟨w.heap.size, 0, none⟩)) true ty).run Try.prog wr = .ok (.tuple #[.bool true, .int .i64 4, .int .i32 45]) (wr.iterAt w.heap.size ⟨#[35, 35, 35, 35, 45, 35, 35, 45, 35, 35]⟩ 5) := fun ty => Lib.run_next_ascii_at wr _ _ _ ty hit (by decide) (by decide)
      have hO : exO 4 = true := rfl
      have hch : ((({ data := #[50, 48, 50, 52, 45, 48, 50, 45, 48, 51] } : ByteArray)[4]'(by decide)).toNat : Int) = 45 := rfl
      have H1 := Lib.hid (own_iter hown hit 5)
      have II := Lib.hid (step_iter hit (Nat.le_refl _) hbr 5)
      have PI := Lib.hid (iterPos_is hit)
      have PO := Lib.hid (iterPos_is II.out.1)
      clear hown hit hbr
      go_wp2
      go_roundw
      case rel => exact ⟨5, by omega, rfl, H1.out, II.out.1, II.out.2⟩
      case measure => rw [PI.out, PO.out]; decide
    · have hnx : ∀ ty, (Instr.next (.pointer (some ⟨w.heap.size, 0, none⟩)) true ty).run Try.prog wr = .ok (.tuple #[.bool true, .int .i64 5, .int .i32 35]) (wr.iterAt w.heap.size ⟨#[35, 35, 35, 35, 45, 35, 35, 45, 35, 35]⟩ 6) := fun ty => Lib.run_next_ascii_at wr _ _ _ ty hit (by decide) (by decide)
      have hO : exO 5 = false := rfl
      have hch : ((({ data := #[50, 48, 50, 52, 45, 48, 50, 45, 48, 51] } : ByteArray)[5]'(by decide)).toNat : Int) = 48 := rfl
      have hown : wr.ownsRow w.heap.size 3 1 _ 1 [.int .i64 2024] := hown
      have H1 := own_iter hown hit 6
      obtain ⟨hit1, hb1⟩ := step_iter hit (Nat.le_refl _) hbr 6
      go_wp2_with (at_builtin; refine wpList_append_own _ rfl _ _ 75 rfl w.heap.size 3 i0 (.int .i64 0) 1 8 Try.underlying75 hi hz0 hz1 hz2 rfl (by decide) _ _ _ rfl (H1.alloc _) _ 1 1 [.int .i64 0] rfl rfl ?c1_5 ?c2_5 ?c3_5 ?c4_5 ?c5_5 ?_)
      case c1_5 =>
        intro j u hj
        match j, hj with
        | 0, hj => simp at hj; subst hj; simp [Addr.add]
      case c2_5 => intro u hu; simp at hu; subst hu; rfl
      case c3_5 => unfold maxLen; simp [exL]
      case c4_5 => simp [exL]
      case c5_5 => have := hb1.size; simp; omega
      intro v' w1 hown' hgrow _
      have hown' : w1.ownsRow w.heap.size 3 1 v' 2 [.int .i64 2024, .int .i64 0] := hown'
      obtain ⟨g, cap, rfl, hg, cur, hcur⟩ := own_shape hown' (by decide)
      have c0 : w1.cell? ⟨g, 1, none⟩ = some (.int .i64 0) := (hown'.cellAt 1 (by decide)).trans rfl
      have f0 := hown'.frozenAt 1
      obtain ⟨hit2, hb2⟩ := step_grow H1 hit1 hb1 hgrow
      have PI := Lib.hid (iterPos_is hit)
      have HO := Lib.hid hown'
      have SS := Lib.hid (step_store HO.out (by decide) hit2 hb2 1 (.int .i64 0))
      have PO := Lib.hid (iterPos_is SS.out.2.1)
      clear hown' hgrow hown hit hbr hit1 hb1 hit2 hb2 hcur H1
      go_wp2
      go_roundw
      case rel => exact ⟨6, by omega, rfl, SS.out.1, SS.out.2.1, SS.out.2.2⟩
      case measure => rw [PI.out, PO.out]; decide
    · have hnx : ∀ ty, (Instr.next (.pointer (some ⟨w.heap.size, 0, none⟩)) true ty).run Try.prog wr = .ok (.tuple #[.bool true, .int .i64 6, .int .i32 35]) (wr.iterAt w.heap.size ⟨#[35, 35, 35, 35, 45, 35, 35, 45, 35, 35]⟩ 7) := fun ty => Lib.run_next_ascii_at wr _ _ _ ty hit (by decide) (by decide)
      have hO : exO 6 = true := rfl
      have hch : ((({ data := #[50, 48, 50, 52, 45, 48, 50, 45, 48, 51] } : ByteArray)[6]'(by decide)).toNat : Int) = 50 := rfl
      have hown : wr.ownsRow w.heap.size 3 1 _ 2 [.int .i64 2024, .int .i64 0] := hown
      obtain ⟨g, cap, rfl, hg, cur, hcur⟩ := own_shape hown (by decide)
      have H1 := own_iter hown hit 7
      obtain ⟨hit1, hb1⟩ := step_iter hit (Nat.le_refl _) hbr 7
      have c0 : (wr.iterAt w.heap.size ⟨#[35, 35, 35, 35, 45, 35, 35, 45, 35, 35]⟩ 7).cell? ⟨g, 1, none⟩ = some (.int .i64 0) := (H1.cellAt 1 (by decide)).trans rfl
      have f0 := H1.frozenAt 1
      have PI := Lib.hid (iterPos_is hit)
      have SS := Lib.hid (step_store H1 (by decide) hit1 hb1 1 (.int .i64 2))
      have PO := Lib.hid (iterPos_is SS.out.2.1)
      clear hown hit hbr hit1 hb1 hcur H1
      go_wp2
      go_roundw
      case rel => exact ⟨7, by omega, rfl, SS.out.1, SS.out.2.1, SS.out.2.2⟩
      case measure => rw [PI.out, PO.out]; decide
    · have hnx : ∀ ty, (Instr.next (.pointer (some ⟨w.heap.size, 0, none⟩)) true ty).run Try.prog wr = .ok (.tuple #[.bool true, .int .i64 7, .int .i32 45]) (wr.iterAt w.heap.size ⟨#[35, 35, 35, 35, 45, 35, 35, 45, 35, 35]⟩ 8) := fun ty => Lib.run_next_ascii_at wr _ _ _ ty hit (by decide) (by decide)
      have hO : exO 7 = true := rfl
      have hch : ((({ data := #[50, 48, 50, 52, 45, 48, 50, 45, 48, 51] } : ByteArray)[7]'(by decide)).toNat : Int) = 45 := rfl
      have H1 := Lib.hid (own_iter hown hit 8)
      have II := Lib.hid (step_iter hit (Nat.le_refl _) hbr 8)
      have PI := Lib.hid (iterPos_is hit)
      have PO := Lib.hid (iterPos_is II.out.1)
      clear hown hit hbr
      go_wp2
      go_roundw
      case rel => exact ⟨8, by omega, rfl, H1.out, II.out.1, II.out.2⟩
      case measure => rw [PI.out, PO.out]; decide
    · have hnx : ∀ ty, (Instr.next (.pointer (some ⟨w.heap.size, 0, none⟩)) true ty).run Try.prog wr = .ok (.tuple #[.bool true, .int .i64 8, .int .i32 35]) (wr.iterAt w.heap.size ⟨#[35, 35, 35, 35, 45, 35, 35, 45, 35, 35]⟩ 9) := fun ty => Lib.run_next_ascii_at wr _ _ _ ty hit (by decide) (by decide)
      have hO : exO 8 = false := rfl
      have hch : ((({ data := #[50, 48, 50, 52, 45, 48, 50, 45, 48, 51] } : ByteArray)[8]'(by decide)).toNat : Int) = 48 := rfl
      have hown : wr.ownsRow w.heap.size 3 1 _ 2 [.int .i64 2024, .int .i64 2] := hown
      have H1 := own_iter hown hit 9
      obtain ⟨hit1, hb1⟩ := step_iter hit (Nat.le_refl _) hbr 9
      go_wp2_with (at_builtin; refine wpList_append_own _ rfl _ _ 75 rfl w.heap.size 3 i0 (.int .i64 0) 1 8 Try.underlying75 hi hz0 hz1 hz2 rfl (by decide) _ _ _ rfl (H1.alloc _) _ 1 1 [.int .i64 0] rfl rfl ?c1_8 ?c2_8 ?c3_8 ?c4_8 ?c5_8 ?_)
      case c1_8 =>
        intro j u hj
        match j, hj with
        | 0, hj => simp at hj; subst hj; simp [Addr.add]
      case c2_8 => intro u hu; simp at hu; subst hu; rfl
      case c3_8 => unfold maxLen; simp [exL]
      case c4_8 => simp [exL]
      case c5_8 => have := hb1.size; simp; omega
      intro v' w1 hown' hgrow _
      have hown' : w1.ownsRow w.heap.size 3 1 v' 3 [.int .i64 2024, .int .i64 2, .int .i64 0] := hown'
      obtain ⟨g, cap, rfl, hg, cur, hcur⟩ := own_shape hown' (by decide)
      have c0 : w1.cell? ⟨g, 2, none⟩ = some (.int .i64 0) := (hown'.cellAt 2 (by decide)).trans rfl
      have f0 := hown'.frozenAt 2
      obtain ⟨hit2, hb2⟩ := step_grow H1 hit1 hb1 hgrow
      have PI := Lib.hid (iterPos_is hit)
      have HO := Lib.hid hown'
      have SS := Lib.hid (step_store HO.out (by decide) hit2 hb2 2 (.int .i64 0))
      have PO := Lib.hid (iterPos_is SS.out.2.1)
      clear hown' hgrow hown hit hbr hit1 hb1 hit2 hb2 hcur H1
      go_wp2
      go_roundw
      case rel => exact ⟨9, by omega, rfl, SS.out.1, SS.out.2.1, SS.out.2.2⟩
      case measure => rw [PI.out, PO.out]; decide
    · have hnx : ∀ ty, (Instr.next (.pointer (some ⟨w.heap.size, 0, none⟩)) true ty).run Try.prog wr = .ok (.tuple #[.bool true, .int .i64 9, .int .i32 35]) (wr.iterAt w.heap.size ⟨#[35, 35, 35, 35, 45, 35, 35, 45, 35, 35]⟩ 10) := fun ty => Lib.run_next_ascii_at wr _ _ _ ty hit (by decide) (by decide)
      have hO : exO 9 = true := rfl
      have hch : ((({ data := #[50, 48, 50, 52, 45, 48, 50, 45, 48, 51] } : ByteArray)[9]'(by decide)).toNat : Int) = 51 := rfl
      have hown : wr.ownsRow w.heap.size 3 1 _ 3 [.int .i64 2024, .int .i64 2, .int .i64 0] := hown
      obtain ⟨g, cap, rfl, hg, cur, hcur⟩ := own_shape hown (by decide)
      have H1 := own_iter hown hit 10
      obtain ⟨hit1, hb1⟩ := step_iter hit (Nat.le_refl _) hbr 10
      have c0 : (wr.iterAt w.heap.size ⟨#[35, 35, 35, 35, 45, 35, 35, 45, 35, 35]⟩ 10).cell? ⟨g, 2, none⟩ = some (.int .i64 0) := (H1.cellAt 2 (by decide)).trans rfl
      have f0 := H1.frozenAt 2
      have PI := Lib.hid (iterPos_is hit)
      have SS := Lib.hid (step_store H1 (by decide) hit1 hb1 2 (.int .i64 3))
      have PO := Lib.hid (iterPos_is SS.out.2.1)
      clear hown hit hbr hit1 hb1 hcur H1
      go_wp2
      go_roundw
      case rel => exact ⟨10, by omega, rfl, SS.out.1, SS.out.2.1, SS.out.2.2⟩
      case measure => rw [PI.out, PO.out]; decide
    · have hnx : ∀ ty, (Instr.next (.pointer (some ⟨w.heap.size, 0, none⟩)) true ty).run Try.prog wr = .ok (.tuple #[.bool false]) wr := fun ty => Lib.run_next_end_at wr _ _ _ ty hit (by decide)
      have hown : wr.ownsRow w.heap.size 3 1 _ 3 [.int .i64 2024, .int .i64 2, .int .i64 3] := hown
      obtain ⟨g, cap, rfl, hg, cur, hcur⟩ := own_shape hown (by decide)
      have H1 := Lib.hid hown
      have H2 := Lib.hid hbr
      clear hown hit hbr hcur
      go_wp2
      go_ret2
      exact ⟨g, cap, rfl, H1.out, H2.out⟩
/- What the statements on years ask, in plain numbers. -/
open Go Go.RowKit
theorem fo_none {c : CalI} (h : calB c = true) {day : Int} (hno : ∀ z, fyOk c day z = false) : (foE c day = 11 ∨ foE c day = 4) ∧ foY c day = 0 ∧ foN c day = 0 := by
  rcases fo_ways c day with ⟨_, _, z, hz, _⟩ | ⟨_, _, _, e1, e2, e3⟩ | ⟨_, _, e1, e2, e3⟩ | ⟨h', _⟩
  · rw [hno z] at hz; cases hz
  · exact ⟨.inl e1, e2, e3⟩
  · exact ⟨.inr e1, e2, e3⟩
  · rw [h] at h'; cases h'
theorem isB_end {c : CalI} (h : calB c = true) {y : Int} (h1 : 1600 ≤ y) (h2 : y ≤ 9997) : isB (endN c y) = true := (end_facts c h y h1 h2).1
/-- the day behind a told year's end -/
theorem behind {c : CalI} (h : calB c = true) {y : Int} (h1 : 1600 ≤ y) (h2 : y ≤ 9997) : (y < 9997 ∧ foE c (endN c y + 1) = 0 ∧ foY c (endN c y + 1) = y + 1 ∧ foN c (endN c y + 1) = 1) ∨ (y = 9997 ∧ (foE c (endN c y + 1) = 11 ∨ foE c (endN c y + 1) = 4) ∧ foY c (endN c y + 1) = 0 ∧ foN c (endN c y + 1) = 0) := by
  by_cases hy : y < 9997
  · have m := end_lt c h y (y + 1) h1 (by omega) (by omega)
    have i1 := (isB_iff _).1 (isB_end h h1 h2)
    have i2 := (isB_iff _).1 (isB_end h (y := y + 1) (by omega) (by omega))
    have i : isB (endN c y + 1) = true := (isB_iff _).2 (by generalize endN c y = P at *; generalize endN c (y + 1) = R at *; omega)
    have k : fyOk c (endN c y + 1) (y + 1) = true := by
      rw [fyOk_iff, show y + 1 - 1 = y by omega]
      generalize endN c y = P at *
      generalize endN c (y + 1) = R at *
      omega
    obtain ⟨e1, e2, e3⟩ := fo_yes h i k
    refine .inl ⟨hy, e1, e2, ?_⟩
    rw [e3, show y + 1 - 1 = y by omega]
    generalize endN c y = P at *
    omega
  · obtain rfl : y = 9997 := by omega
    refine .inr ⟨rfl, fo_none h fun z => ?_⟩
    rcases Bool.eq_false_or_eq_true (fyOk c (endN c 9997 + 1) z) with k | k
    · obtain ⟨a1, a2, a3, a4⟩ := (fyOk_iff _ _ _).1 k
      have m := end_mono c h z 9997 (by omega) (by omega) a2
      generalize endN c z = P at *
      generalize endN c 9997 = R at *
      omega
    · exact k
/-- a told year's end, and its first day -/
theorem at_end {c : CalI} (h : calB c = true) {y : Int} (h1 : 1601 ≤ y) (h2 : y ≤ 9997) : foE c (endN c y) = 0 ∧ foY c (endN c y) = y := by
  have m := end_lt c h (y - 1) y (by omega) (by omega) (by omega)
  obtain ⟨e1, e2, _⟩ := fo_yes h (isB_end h (by omega) h2) (show fyOk c (endN c y) y = true from (fyOk_iff _ _ _).2 ⟨h1, h2, m, Int.le_refl _⟩)
  exact ⟨e1, e2⟩
theorem at_low {c : CalI} (h : calB c = true) : (foE c (endN c 1600) = 11 ∨ foE c (endN c 1600) = 4) ∧ foY c (endN c 1600) = 0 := by
  have n := fo_none h (day := endN c 1600) fun z => by
    rcases Bool.eq_false_or_eq_true (fyOk c (endN c 1600) z) with k | k
    · obtain ⟨a1, a2, a3, a4⟩ := (fyOk_iff _ _ _).1 k
      have m := end_mono c h 1600 (z - 1) (by omega) (by omega) (by omega)
      generalize endN c (z - 1) = P at *
      generalize endN c 1600 = R at *
      omega
    · exact k
  exact ⟨n.1, n.2.1⟩
/-- years cover what lies between -/
theorem cover {c : CalI} (h : calB c = true) (lo : Int) (h1 : 1601 ≤ lo) : ∀ k : Nat, lo + k ≤ 9997 → ∀ day, endN c (lo - 1) < day → day ≤ endN c (lo + k) → ∃ z, lo ≤ z ∧ z ≤ lo + k ∧ fyOk c day z = true := by
  intro k
  induction k with
  | zero => intro hk day a b; exact ⟨lo, by omega, by omega, (fyOk_iff _ _ _).2 ⟨h1, by omega, a, by simpa using b⟩⟩
  | succ k ih =>
    intro hk day a b
    by_cases hd : day ≤ endN c (lo + k)
    · obtain ⟨z, z1, z2, z3⟩ := ih (by omega) day a hd
      exact ⟨z, z1, by omega, z3⟩
    · refine ⟨lo + (k + 1 : Nat), by omega, by omega, (fyOk_iff _ _ _).2 ⟨by omega, hk, ?_, b⟩⟩
      rw [show lo + ((k + 1 : Nat) : Int) - 1 = lo + k by omega]; omega
/-- what is served -/
theorem served_in {c : CalI} (h : calB c = true) {day z : Int} (hz : fyOk c day z = true) : (c.first ≤ z ↔ boA c ≤ day) ∧ (z ≤ c.last ↔ day ≤ boB c) := by
  obtain ⟨s1, s2, s3, _⟩ := serve_bd h
  obtain ⟨a1, a2, a3, a4⟩ := (fyOk_iff _ _ _).1 hz
  rw [show boA c = endN c (c.first - 1) + 1 from if_pos h, show boB c = endN c c.last from if_pos h]
  constructor
  · constructor
    · intro hh
      have m := end_mono c h (c.first - 1) (z - 1) (by omega) (by omega) (by omega)
      generalize endN c (z - 1) = P at *
      generalize endN c (c.first - 1) = R at *
      omega
    · intro hh
      refine Classical.byContradiction fun hn => ?_
      have m := end_mono c h z (c.first - 1) (by omega) (by omega) (by omega)
      generalize endN c z = P at *
      generalize endN c (c.first - 1) = R at *
      omega
  · constructor
    · intro hh
      have m := end_mono c h z c.last (by omega) (by omega) hh
      generalize endN c z = P at *
      generalize endN c c.last = R at *
      omega
    · intro hh
      refine Classical.byContradiction fun hn => ?_
      have m := end_mono c h c.last (z - 1) (by omega) (by omega) (by omega)
      generalize endN c (z - 1) = P at *
      generalize endN c c.last = R at *
      omega
theorem served_no {c : CalI} (h : calB c = true) {day : Int} (hno : ∀ z, fyOk c day z = false) : ¬ (boA c ≤ day ∧ day ≤ boB c) := by
  intro ⟨b1, b2⟩
  obtain ⟨s1, s2, s3, _⟩ := serve_bd h
  rw [show boA c = endN c (c.first - 1) + 1 from if_pos h] at b1
  rw [show boB c = endN c c.last from if_pos h] at b2
  obtain ⟨z, _, _, k⟩ := cover h c.first (by omega) (c.last - c.first).toNat (by omega) day (by omega) (by rw [show c.first + ((c.last - c.first).toNat : Int) = c.last by omega]; exact b2)
  rw [hno z] at k; cases k
theorem bo_bd {c : CalI} (h : calB c = true) : 0 ≤ boA c ∧ boA c ≤ 3068037 ∧ 0 ≤ boB c ∧ boB c < 3068037 ∧ 364 * (c.last - c.first + 1) ≤ boB c - boA c + 1 ∧ boB c - boA c + 1 ≤ 371 * (c.last - c.first + 1) := by
  obtain ⟨s1, s2, s3, _⟩ := serve_bd h
  have i1 := (isB_iff _).1 (isB_end h (y := c.first - 1) (by omega) (by omega))
  have i2 := (isB_iff _).1 (isB_end h (y := c.last) (by omega) (by omega))
  have m := end_mono c h (c.first - 1) c.last (by omega) (by omega) (by omega)
  rw [show boA c = endN c (c.first - 1) + 1 from if_pos h, show boB c = endN c c.last from if_pos h]
  generalize endN c (c.first - 1) = P at *
  generalize endN c c.last = R at *
  omega
theorem fo_date {c : CalI} (h : calB c = true) {day : Int} : (foE c day = 4 ∧ (day < 0 ∨ (0 ≤ day ∧ 3068037 ≤ day))) ∨ (foE c day ≠ 4 ∧ 0 ≤ day ∧ day < 3068037) := by
  rcases fo_ways c day with ⟨_, i, z, hz, e1, _⟩ | ⟨_, i, _, e1, e2, e3⟩ | ⟨_, i, e1, e2, e3⟩ | ⟨h', _⟩
  · have := (isB_iff _).1 i; exact .inr ⟨by omega, this.1, this.2⟩
  · have := (isB_iff _).1 i; exact .inr ⟨by omega, this.1, this.2⟩
  · have := mt (isB_iff day).2 (by simp [i]); exact .inl ⟨e1, by omega⟩
  · rw [h] at h'; cases h'
/- Contracts of the reference's chapter 14: Of. -/
open Go.RowKit
/-- the date's block: its year -/
def DAt (w : World) (b : Nat) (y : Int) : Prop := b < w.heap.size ∧ w.cell? ⟨b, 0, none⟩ = some (.int .i64 y)
theorem DAt.go {w w' : World} {b : Nat} {y : Int} (h : DAt w b y) (hb : Below w.heap.size w w') : DAt w' b y :=
  ⟨Nat.lt_of_lt_of_le h.1 hb.size, (hb.cell (p := ⟨b, 0, none⟩) h.1).trans h.2⟩
theorem rend_told (c : CalI) (y : Int) (w : World) (hs : c.name.size ≤ maxLen) (h : calB c = true) (h1 : 1600 ≤ y) (h2 : y ≤ 9997) :
    Calls Try.prog 17 #[calA c, .int .i64 y] w fun e w' => e = .returned (.tuple #[.int .i64 (endN c y), .int .i64 0]) ∧ Below w.heap.size w w' := by
  have E := rend_any c y w hs
  rwa [show endV c y = endN c y from if_pos (tell_yes h h1 h2), tell_yes h h1 h2] at E
theorem rstart_told (c : CalI) (y : Int) (w : World) (hs : c.name.size ≤ maxLen) (h : calB c = true) (h1 : 1601 ≤ y) (h2 : y ≤ 9997) :
    Calls Try.prog 19 #[calA c, .int .i64 y] w fun e w' => e = .returned (.tuple #[.int .i64 (endN c (y - 1) + 1), .int .i64 0]) ∧ Below w.heap.size w w' := by
  have E := rstart_any c y w hs
  rwa [show startV c y = endN c (y - 1) + 1 from if_pos (tell_yes h h1 h2), tell_yes h h1 h2] at E
set_option maxRecDepth 100000 in
set_option maxHeartbeats 4000000 in
theorem rfof_yes (c : CalI) (day Z : Int) (w : World) (hs : c.name.size ≤ maxLen) (h : calB c = true) (hd : isB day = true) (hZ : fyOk c day Z = true) :
    Calls Try.prog 36 #[calA c, .int .i64 day] w fun e w' => e = .returned (.tuple #[.int .i64 Z, .int .i64 0]) ∧ Below w.heap.size w w' := by
  have C := r11check_any c
  rw [h] at C
  have C := Lib.hid (fun w => C w hs)
  have O := fun w => rof_any day w
  rw [dateE_true hd] at O
  have O := Lib.hid O
  obtain ⟨sh0, sh1⟩ := shift_bd h
  obtain ⟨d0, d1⟩ := (isB_iff _).1 hd
  have yb : 1600 ≤ ofY day ∧ ofY day ≤ 9999 := by
    have v := (validB_iff _ _ _).1 (of_ok day hd).1
    omega
  obtain ⟨yb1, yb2⟩ := yb
  obtain ⟨n1, n2⟩ := fy_near h hd hZ
  have YES := Lib.hid ((fyOk_iff _ _ _).1 hZ)
  have NO := Lib.hid (show ∀ z, z ≠ Z → fyOk c day z = false from fun z hz => by
    rcases Bool.eq_false_or_eq_true (fyOk c day z) with k | k
    · exact absurd (fy_uniq h k hZ) hz
    · exact k)
  clear hZ hd
  generalize ofY day = Y at *
  generalize ofM day = M at *
  generalize ofD day = D at *
  go_enter Try.func36, Try.ntmps36
  go_wp2_with fail
  refine (C.out _).mono ?_
  rintro e w1 ⟨rfl, hb1⟩
  obtain ⟨hc1, hf1, hz1⟩ := own_stays hb1 (b := w.heap.size) (by simp)
  go_wp2_with fail
  refine (O.out _).mono ?_
  rintro e w2 ⟨rfl, hb2⟩
  obtain ⟨hc2, hf2, hz2⟩ := own_stays hb2 (b := w.heap.size) hz1
  go_wp2
  go_loopw [9] (fun i wr => ∃ z : Int, Y - 2 ≤ z ∧ z ≤ Z ∧ i = .int .i64 z ∧ Below w.heap.size w wr ∧ CalAt wr w.heap.size c ∧ DAt wr w2.heap.size Y) (fun i _ => (Z + 1 - intOf i).toNat)
  case atStart =>
    refine ⟨Y - 2, by omega, by omega, by first | rfl | go_num, (by repeat (with_reducible (first | exact Below.refl _ _ | assumption | refine bl_alloc ?_ _ | refine bl_drewN ?_ _ | refine bl_drew ?_ | refine bl_call ?_ (by assumption) | (refine bl_setCell ?_ _ (Nat.le_refl _)) | (refine bl_setCell ?_ _ (by simp))))), ?_, by simp [DAt]⟩
    have c0 : CalAt (w.alloc (Obj.cells #[.string c.name, .int .i64 c.kind, .int .i64 c.day, .int .i64 c.month, .int .i64 c.shift, .int .i64 c.shape, .int .i64 c.p0, .int .i64 c.p1, .int .i64 c.p2, .int .i64 c.cycle, .int .i64 c.extra, .int .i64 c.first, .int .i64 c.last, .int .i64 c.policy] 24)) w.heap.size c := by simp [CalAt]
    exact c0.go (bl_alloc (bl_call hb1 hb2) _)
  case round =>
    obtain ⟨z, z1, z2, rfl, hbr, hcal, hdat⟩ := hrel
    have HC := Lib.hid hcal
    have HD := Lib.hid hdat
    obtain ⟨l, h0, h1, h2, h3, h4, h5, h6, h7, h8, h9, h10, h11, h12, h13⟩ := hcal
    obtain ⟨ld, g0⟩ := hdat
    clear hc1 hf1 hz1 hc2 hf2 hz2 hb1 hb2 C O
    by_cases hz : z < Z
    · have zz : z ≤ Y + 2 := by omega
      by_cases t : tellE c z 1601 = 0
      · obtain ⟨_, t1, t2⟩ := tell_zero t
        have S := Lib.hid (fun w => rstart_told c z w hs h t1 t2)
        have E := Lib.hid (fun w => rend_told c z w hs h (by omega) t2)
        obtain ⟨e1, e2⟩ := end_bd h (y := z) (by omega) t2
        obtain ⟨e3, e4⟩ := end_bd h (y := z - 1) (by omega) (by omega)
        have no := fyOk_no (NO.out z (by omega)) t1 t2
        clear t
        generalize endN c z = P at *
        generalize endN c (z - 1) = R at *
        rcases no with no | ⟨no, no'⟩
        all_goals
          go_wp2_with fail
          refine (S.out _).mono ?_
          rintro e w3 ⟨rfl, hb3⟩
          obtain ⟨hc3, hf3, hz3⟩ := own_stays hb3 (b := w.heap.size) l
          go_wp2_with fail
          refine (E.out _).mono ?_
          rintro e w4 ⟨rfl, hb4⟩
          have HW := HC.out.go (bl_call hb3 hb4)
          have HX := HD.out.go (bl_call hb3 hb4)
          clear hc3 hf3 hz3 l h0 h1 h2 h3 h4 h5 h6 h7 h8 h9 h10 h11 h12 h13 ld g0
          go_wp2
          go_roundw
          case rel => exact ⟨z + 1, by omega, by omega, by go_num, (by repeat (with_reducible (first | exact Below.refl _ _ | assumption | refine bl_alloc ?_ _ | refine bl_drewN ?_ _ | refine bl_drew ?_ | refine bl_call ?_ (by assumption) | (refine bl_setCell ?_ _ (Nat.le_refl _)) | (refine bl_setCell ?_ _ (by simp))))), HW, HX⟩
          case measure => simp [intOf]; omega
      · obtain ⟨t1, _⟩ := tell_not t
        have S := rstart_any c z
        rw [show startV c z = 0 from if_neg t] at S
        have S := Lib.hid (fun w => S w hs)
        have E := Lib.hid (fun w => rend_any c z w hs)
        clear t
        generalize tellE c z 1601 = t at *
        generalize tellE c z 1600 = t' at *
        generalize endV c z = P at *
        go_wp2_with fail
        refine (S.out _).mono ?_
        rintro e w3 ⟨rfl, hb3⟩
        obtain ⟨hc3, hf3, hz3⟩ := own_stays hb3 (b := w.heap.size) l
        go_wp2_with fail
        refine (E.out _).mono ?_
        rintro e w4 ⟨rfl, hb4⟩
        have HW := HC.out.go (bl_call hb3 hb4)
        have HX := HD.out.go (bl_call hb3 hb4)
        clear hc3 hf3 hz3 l h0 h1 h2 h3 h4 h5 h6 h7 h8 h9 h10 h11 h12 h13 ld g0
        go_wp2
        go_roundw
        case rel => exact ⟨z + 1, by omega, by omega, by go_num, (by repeat (with_reducible (first | exact Below.refl _ _ | assumption | refine bl_alloc ?_ _ | refine bl_drewN ?_ _ | refine bl_drew ?_ | refine bl_call ?_ (by assumption) | (refine bl_setCell ?_ _ (Nat.le_refl _)) | (refine bl_setCell ?_ _ (by simp))))), HW, HX⟩
        case measure => simp [intOf]; omega
    · obtain rfl : z = Z := by omega
      obtain ⟨t1, t2, t3, t4⟩ := YES.out
      have zz : z ≤ Y + 2 := by omega
      have S := Lib.hid (fun w => rstart_told c z w hs h t1 t2)
      have E := Lib.hid (fun w => rend_told c z w hs h (by omega) t2)
      obtain ⟨e1, e2⟩ := end_bd h (y := z) (by omega) t2
      obtain ⟨e3, e4⟩ := end_bd h (y := z - 1) (by omega) (by omega)
      generalize endN c z = P at *
      generalize endN c (z - 1) = R at *
      have t3' : R + 1 ≤ day := by omega
      go_wp2_with fail
      refine (S.out _).mono ?_
      rintro e w3 ⟨rfl, hb3⟩
      obtain ⟨hc3, hf3, hz3⟩ := own_stays hb3 (b := w.heap.size) l
      go_wp2_with fail
      refine (E.out _).mono ?_
      rintro e w4 ⟨rfl, hb4⟩
      go_wp2
      go_ret2
      exact ⟨rfl, (by repeat (with_reducible (first | exact Below.refl _ _ | assumption | refine bl_alloc ?_ _ | refine bl_drewN ?_ _ | refine bl_drew ?_ | refine bl_call ?_ (by assumption) | (refine bl_setCell ?_ _ (Nat.le_refl _)) | (refine bl_setCell ?_ _ (by simp)))))⟩
/- Contracts of the reference's chapter 14: Of. -/
open Go.RowKit
set_option maxRecDepth 100000 in
set_option maxHeartbeats 4000000 in
theorem rfof_no (c : CalI) (day : Int) (w : World) (hs : c.name.size ≤ maxLen) (h : calB c = true) (hd : isB day = true) (hno : ∀ z, fyOk c day z = false) :
    Calls Try.prog 36 #[calA c, .int .i64 day] w fun e w' => e = .returned (.tuple #[.int .i64 0, .int .i64 11]) ∧ Below w.heap.size w w' := by
  have C := r11check_any c
  rw [h] at C
  have C := Lib.hid (fun w => C w hs)
  have O := fun w => rof_any day w
  rw [dateE_true hd] at O
  have O := Lib.hid O
  obtain ⟨sh0, sh1⟩ := shift_bd h
  obtain ⟨d0, d1⟩ := (isB_iff _).1 hd
  have yb : 1600 ≤ ofY day ∧ ofY day ≤ 9999 := by
    have v := (validB_iff _ _ _).1 (of_ok day hd).1
    omega
  obtain ⟨yb1, yb2⟩ := yb
  have NO := Lib.hid hno
  clear hno hd
  generalize ofY day = Y at *
  generalize ofM day = M at *
  generalize ofD day = D at *
  go_enter Try.func36, Try.ntmps36
  go_wp2_with fail
  refine (C.out _).mono ?_
  rintro e w1 ⟨rfl, hb1⟩
  obtain ⟨hc1, hf1, hz1⟩ := own_stays hb1 (b := w.heap.size) (by simp)
  go_wp2_with fail
  refine (O.out _).mono ?_
  rintro e w2 ⟨rfl, hb2⟩
  obtain ⟨hc2, hf2, hz2⟩ := own_stays hb2 (b := w.heap.size) hz1
  go_wp2
  go_loopw [9] (fun i wr => ∃ z : Int, Y - 2 ≤ z ∧ z ≤ Y + 3 ∧ i = .int .i64 z ∧ Below w.heap.size w wr ∧ CalAt wr w.heap.size c ∧ DAt wr w2.heap.size Y) (fun i _ => (Y + 3 - intOf i).toNat)
  case atStart =>
    refine ⟨Y - 2, by omega, by omega, by first | rfl | go_num, (by repeat (with_reducible (first | exact Below.refl _ _ | assumption | refine bl_alloc ?_ _ | refine bl_drewN ?_ _ | refine bl_drew ?_ | refine bl_call ?_ (by assumption) | (refine bl_setCell ?_ _ (Nat.le_refl _)) | (refine bl_setCell ?_ _ (by simp))))), ?_, by simp [DAt]⟩
    have c0 : CalAt (w.alloc (Obj.cells #[.string c.name, .int .i64 c.kind, .int .i64 c.day, .int .i64 c.month, .int .i64 c.shift, .int .i64 c.shape, .int .i64 c.p0, .int .i64 c.p1, .int .i64 c.p2, .int .i64 c.cycle, .int .i64 c.extra, .int .i64 c.first, .int .i64 c.last, .int .i64 c.policy] 24)) w.heap.size c := by simp [CalAt]
    exact c0.go (bl_alloc (bl_call hb1 hb2) _)
  case round =>
    obtain ⟨z, z1, z2, rfl, hbr, hcal, hdat⟩ := hrel
    have HC := Lib.hid hcal
    have HD := Lib.hid hdat
    obtain ⟨l, h0, h1, h2, h3, h4, h5, h6, h7, h8, h9, h10, h11, h12, h13⟩ := hcal
    obtain ⟨ld, g0⟩ := hdat
    clear hc1 hf1 hz1 hc2 hf2 hz2 hb1 hb2 C O
    by_cases hz : z ≤ Y + 2
    · have zz : z ≤ Y + 2 := by omega
      by_cases t : tellE c z 1601 = 0
      · obtain ⟨_, t1, t2⟩ := tell_zero t
        have S := Lib.hid (fun w => rstart_told c z w hs h t1 t2)
        have E := Lib.hid (fun w => rend_told c z w hs h (by omega) t2)
        obtain ⟨e1, e2⟩ := end_bd h (y := z) (by omega) t2
        obtain ⟨e3, e4⟩ := end_bd h (y := z - 1) (by omega) (by omega)
        have no := fyOk_no (NO.out z) t1 t2
        clear t
        generalize endN c z = P at *
        generalize endN c (z - 1) = R at *
        rcases no with no | ⟨no, no'⟩
        all_goals
          go_wp2_with fail
          refine (S.out _).mono ?_
          rintro e w3 ⟨rfl, hb3⟩
          obtain ⟨hc3, hf3, hz3⟩ := own_stays hb3 (b := w.heap.size) l
          go_wp2_with fail
          refine (E.out _).mono ?_
          rintro e w4 ⟨rfl, hb4⟩
          have HW := HC.out.go (bl_call hb3 hb4)
          have HX := HD.out.go (bl_call hb3 hb4)
          clear hc3 hf3 hz3 l h0 h1 h2 h3 h4 h5 h6 h7 h8 h9 h10 h11 h12 h13 ld g0
          go_wp2
          go_roundw
          case rel => exact ⟨z + 1, by omega, by omega, by go_num, (by repeat (with_reducible (first | exact Below.refl _ _ | assumption | refine bl_alloc ?_ _ | refine bl_drewN ?_ _ | refine bl_drew ?_ | refine bl_call ?_ (by assumption) | (refine bl_setCell ?_ _ (Nat.le_refl _)) | (refine bl_setCell ?_ _ (by simp))))), HW, HX⟩
          case measure => simp [intOf]; omega
      · obtain ⟨t1, _⟩ := tell_not t
        have S := rstart_any c z
        rw [show startV c z = 0 from if_neg t] at S
        have S := Lib.hid (fun w => S w hs)
        have E := Lib.hid (fun w => rend_any c z w hs)
        clear t
        generalize tellE c z 1601 = t at *
        generalize tellE c z 1600 = t' at *
        generalize endV c z = P at *
        go_wp2_with fail
        refine (S.out _).mono ?_
        rintro e w3 ⟨rfl, hb3⟩
        obtain ⟨hc3, hf3, hz3⟩ := own_stays hb3 (b := w.heap.size) l
        go_wp2_with fail
        refine (E.out _).mono ?_
        rintro e w4 ⟨rfl, hb4⟩
        have HW := HC.out.go (bl_call hb3 hb4)
        have HX := HD.out.go (bl_call hb3 hb4)
        clear hc3 hf3 hz3 l h0 h1 h2 h3 h4 h5 h6 h7 h8 h9 h10 h11 h12 h13 ld g0
        go_wp2
        go_roundw
        case rel => exact ⟨z + 1, by omega, by omega, by go_num, (by repeat (with_reducible (first | exact Below.refl _ _ | assumption | refine bl_alloc ?_ _ | refine bl_drewN ?_ _ | refine bl_drew ?_ | refine bl_call ?_ (by assumption) | (refine bl_setCell ?_ _ (Nat.le_refl _)) | (refine bl_setCell ?_ _ (by simp))))), HW, HX⟩
        case measure => simp [intOf]; omega
    · go_wp2
      go_ret2
      exact ⟨rfl, hbr⟩
/- Contracts of the reference's chapter 14: Of, Nth, Bounds, Served. -/
open Go.RowKit
set_option maxHeartbeats 1000000 in
theorem rfof_any (c : CalI) (day : Int) (w : World) (hs : c.name.size ≤ maxLen) :
    Calls Try.prog 36 #[calA c, .int .i64 day] w fun e w' => e = .returned (.tuple #[.int .i64 (foY c day), .int .i64 (foE c day)]) ∧ Below w.heap.size w w' := by
  rcases fo_ways c day with ⟨h, hd, z, hz, e1, e2, e3⟩ | ⟨h, hd, hz, e1, e2, e3⟩ | ⟨h, hd, e1, e2, e3⟩ | ⟨h, e1, e2, e3⟩
  · rw [e1, e2]; exact rfof_yes c day z w hs h hd hz
  · rw [e1, e2]; exact rfof_no c day w hs h hd hz
  · have C := r11check_any c
    rw [h] at C
    have C := Lib.hid (fun w => C w hs)
    have O := fun w => rof_any day w
    rw [dateE_false hd] at O
    have O := Lib.hid O
    have E1 := Lib.hid e1
    have E2 := Lib.hid e2
    clear e1 e2 e3 h hd
    generalize ofY day = Y at *
    generalize ofM day = M at *
    generalize ofD day = D at *
    go_enter Try.func36, Try.ntmps36
    go_wp2_with fail
    refine (C.out _).mono ?_
    rintro e w1 ⟨rfl, hb1⟩
    obtain ⟨hc1, hf1, hz1⟩ := own_stays hb1 (b := w.heap.size) (by simp)
    go_wp2_with fail
    refine (O.out _).mono ?_
    rintro e w2 ⟨rfl, hb2⟩
    go_wp2
    go_ret2
    exact ⟨ret_ii E2.out.symm E1.out.symm, (by repeat (with_reducible (first | exact Below.refl _ _ | assumption | refine bl_alloc ?_ _ | refine bl_drewN ?_ _ | refine bl_drew ?_ | refine bl_call ?_ (by assumption) | (refine bl_setCell ?_ _ (Nat.le_refl _)) | (refine bl_setCell ?_ _ (by simp)))))⟩
  · have C := r11check_any c
    rw [h] at C
    have C := Lib.hid (fun w => C w hs)
    have E1 := Lib.hid e1
    have E2 := Lib.hid e2
    clear e1 e2 e3 h
    go_enter Try.func36, Try.ntmps36
    go_wp2_with fail
    refine (C.out _).mono ?_
    rintro e w1 ⟨rfl, hb1⟩
    go_wp2
    go_ret2
    exact ⟨ret_ii E2.out.symm E1.out.symm, (by repeat (with_reducible (first | exact Below.refl _ _ | assumption | refine bl_alloc ?_ _ | refine bl_drewN ?_ _ | refine bl_drew ?_ | refine bl_call ?_ (by assumption) | (refine bl_setCell ?_ _ (Nat.le_refl _)) | (refine bl_setCell ?_ _ (by simp)))))⟩
set_option maxHeartbeats 1000000 in
theorem rfnth_any (c : CalI) (day : Int) (w : World) (hs : c.name.size ≤ maxLen) :
    Calls Try.prog 38 #[calA c, .int .i64 day] w fun e w' => e = .returned (.tuple #[.int .i64 (foN c day), .int .i64 (foE c day)]) ∧ Below w.heap.size w w' := by
  have F := fun w => rfof_any c day w hs
  have two : (calB c = true ∧ isB day = true ∧ (∃ z, fyOk c day z = true ∧ foE c day = 0 ∧ foY c day = z ∧ foN c day = day - endN c (z - 1))) ∨ (foE c day ≠ 0 ∧ foN c day = 0) := by
    rcases fo_ways c day with h | ⟨h, hd, hz, e1, e2, e3⟩ | ⟨h, hd, e1, e2, e3⟩ | ⟨h, e1, e2, e3⟩
    · exact .inl h
    all_goals exact .inr ⟨by omega, e3⟩
  rcases two with ⟨h, hd, z, hz, e1, e2, e3⟩ | ⟨f, f2⟩
  · obtain ⟨t1, t2, t3, t4⟩ := (fyOk_iff _ _ _).1 hz
    obtain ⟨d0, d1⟩ := (isB_iff _).1 hd
    rw [e1, e2] at F
    have F := Lib.hid F
    have S := Lib.hid (fun w => rstart_told c z w hs h t1 t2)
    obtain ⟨b1, b2⟩ := end_bd h (y := z - 1) (by omega) (by omega)
    have E1 := Lib.hid e1
    have E3 := Lib.hid (show foN c day = day - (endN c (z - 1) + 1) + 1 by rw [e3]; omega)
    clear e1 e2 e3 h hd hz
    generalize endN c (z - 1) = P at *
    go_enter Try.func38, Try.ntmps38
    go_wp2_with fail
    refine (F.out _).mono ?_
    rintro e w1 ⟨rfl, hb1⟩
    obtain ⟨hc1, hf1, hz1⟩ := own_stays hb1 (b := w.heap.size) (by simp)
    go_wp2_with fail
    refine (S.out _).mono ?_
    rintro e w2 ⟨rfl, hb2⟩
    go_wp2
    go_ret2
    exact ⟨ret_ii E3.out.symm E1.out.symm, (by repeat (with_reducible (first | exact Below.refl _ _ | assumption | refine bl_alloc ?_ _ | refine bl_drewN ?_ _ | refine bl_drew ?_ | refine bl_call ?_ (by assumption) | (refine bl_setCell ?_ _ (Nat.le_refl _)) | (refine bl_setCell ?_ _ (by simp)))))⟩
  · have F := Lib.hid F
    have f' : (foE c day != 0) = true := by simpa using f
    have E3 := Lib.hid f2
    clear f f2
    generalize foE c day = t at *
    generalize foY c day = Y at *
    go_enter Try.func38, Try.ntmps38
    go_wp2_with fail
    refine (F.out _).mono ?_
    rintro e w1 ⟨rfl, hb1⟩
    go_wp2
    go_ret2
    exact ⟨ret_ii E3.out.symm rfl, (by repeat (with_reducible (first | exact Below.refl _ _ | assumption | refine bl_alloc ?_ _ | refine bl_drewN ?_ _ | refine bl_drew ?_ | refine bl_call ?_ (by assumption) | (refine bl_setCell ?_ _ (Nat.le_refl _)) | (refine bl_setCell ?_ _ (by simp)))))⟩
set_option maxHeartbeats 1000000 in
theorem rfbounds_any (c : CalI) (w : World) (hs : c.name.size ≤ maxLen) :
    Calls Try.prog 39 #[calA c] w fun e w' => e = .returned (.tuple #[spanA (boA c) (boB c), .int .i64 (argE (calB c))]) ∧ Below w.heap.size w w' := by
  rcases Bool.eq_false_or_eq_true (calB c) with h | h
  · obtain ⟨s1, s2, s3, _⟩ := serve_bd h
    have S := Lib.hid (fun w => rstart_told c c.first w hs h (by omega) (by omega))
    have E := Lib.hid (fun w => rend_told c c.last w hs h (by omega) (by omega))
    have V1 := Lib.hid (show boA c = endN c (c.first - 1) + 1 from if_pos h)
    have V2 := Lib.hid (show boB c = endN c c.last from if_pos h)
    have V3 := Lib.hid (show argE (calB c) = 0 from argE_true h)
    clear h
    generalize endN c (c.first - 1) + 1 = P at *
    generalize endN c c.last = R at *
    go_enter Try.func39, Try.ntmps39
    go_wp2_with fail
    refine (S.out _).mono ?_
    rintro e w1 ⟨rfl, hb1⟩
    obtain ⟨hc1, hf1, hz1⟩ := own_stays hb1 (b := w.heap.size) (by simp; omega)
    obtain ⟨hd1, hg1, hy1⟩ := own_stays hb1 (b := w.heap.size + 1) (by simp)
    go_wp2_with fail
    refine (E.out _).mono ?_
    rintro e w2 ⟨rfl, hb2⟩
    obtain ⟨hd2, hg2, hy2⟩ := own_stays hb2 (b := w.heap.size + 1) hy1
    go_wp2
    obtain ⟨u0, u1⟩ := set2i (.int .i64 P) (.int .i64 R) (show w2.cell? ⟨w.heap.size + 1, 0, none⟩ = some (.int .i64 0) by rw [hd2, hd1]; simp) (show w2.cell? ⟨w.heap.size + 1, 1, none⟩ = some (.int .i64 0) by rw [hd2, hd1]; simp)
    refine bodyPost_ret (v := .tuple #[spanA P R, .int .i64 0]) (by simp [results, Try.results39, go_sem, u0, u1]) rfl ⟨ret_si V1.out.symm V2.out.symm V3.out.symm, ?_⟩
    exact (by repeat (with_reducible (first | exact Below.refl _ _ | assumption | refine bl_alloc ?_ _ | refine bl_drewN ?_ _ | refine bl_drew ?_ | refine bl_call ?_ (by assumption) | (refine bl_setCell ?_ _ (Nat.le_refl _)) | (refine bl_setCell ?_ _ (by simp)))))
  · have S := rstart_any c c.first
    rw [show startV c c.first = 0 by unfold startV; rw [if_neg]; unfold tellE; rw [if_neg (by simp [h])]; decide, show tellE c c.first 1601 = 1 by unfold tellE; rw [if_neg (by simp [h])]] at S
    have S := Lib.hid (fun w => S w hs)
    have V1 := Lib.hid (show boA c = 0 from if_neg (by simp [h]))
    have V2 := Lib.hid (show boB c = 0 from if_neg (by simp [h]))
    have V3 := Lib.hid (show argE (calB c) = 1 from argE_false h)
    clear h
    go_enter Try.func39, Try.ntmps39
    go_wp2_with fail
    refine (S.out _).mono ?_
    rintro e w1 ⟨rfl, hb1⟩
    obtain ⟨hd1, hg1, hy1⟩ := own_stays hb1 (b := w.heap.size + 1) (by simp)
    go_wp2
    obtain ⟨u0, u1⟩ := set2i (.int .i64 0) (.int .i64 0) (show w1.cell? ⟨w.heap.size + 1, 0, none⟩ = some (.int .i64 0) by rw [hd1]; simp) (show w1.cell? ⟨w.heap.size + 1, 1, none⟩ = some (.int .i64 0) by rw [hd1]; simp)
    refine bodyPost_ret (v := .tuple #[spanA 0 0, .int .i64 1]) (by simp [results, Try.results39, go_sem, u0, u1]) rfl ⟨ret_si V1.out.symm V2.out.symm V3.out.symm, ?_⟩
    exact (by repeat (with_reducible (first | exact Below.refl _ _ | assumption | refine bl_alloc ?_ _ | refine bl_drewN ?_ _ | refine bl_drew ?_ | refine bl_call ?_ (by assumption) | (refine bl_setCell ?_ _ (Nat.le_refl _)) | (refine bl_setCell ?_ _ (by simp)))))
theorem rsv_ways (c : CalI) (day : Int) : (calB c = true ∧ isB day = true ∧ boA c ≤ day ∧ day ≤ boB c ∧ svE c day = foE c day ∧ svY c day = foY c day) ∨ (calB c = true ∧ isB day = true ∧ (day < boA c ∨ (boA c ≤ day ∧ boB c < day)) ∧ svE c day = 11 ∧ svY c day = 0) ∨
    (calB c = true ∧ isB day = false ∧ svE c day = 4 ∧ svY c day = 0) ∨ (calB c = false ∧ svE c day = 1 ∧ svY c day = 0) := by
  rcases fo_ways c day with ⟨h, hd, z, hz, e1, e2, e3⟩ | ⟨h, hd, hz, e1, e2, e3⟩ | ⟨h, hd, e1, e2, e3⟩ | ⟨h, e1, e2, e3⟩
  · rcases sv_ways c day with ⟨_, f, b1, b2, s1, s2⟩ | ⟨_, f, b, s1, s2⟩ | ⟨_, f, _⟩ | ⟨k, _⟩
    · exact .inl ⟨h, hd, b1, b2, by omega, s2⟩
    · exact .inr (.inl ⟨h, hd, b, s1, s2⟩)
    · exact absurd e1 f
    · simp [h] at k
  · rcases sv_ways c day with ⟨_, f, _⟩ | ⟨_, f, _⟩ | ⟨_, f, f2, s1, s2⟩ | ⟨k, _⟩
    · omega
    · omega
    · have no := served_no h hz
      exact .inr (.inl ⟨h, hd, by omega, by omega, s2⟩)
    · simp [h] at k
  · rcases sv_ways c day with ⟨_, f, _⟩ | ⟨_, f, _⟩ | ⟨_, f, f2, s1, s2⟩ | ⟨k, _⟩
    · omega
    · omega
    · exact .inr (.inr (.inl ⟨h, hd, by omega, s2⟩))
    · simp [h] at k
  · rcases sv_ways c day with ⟨k, _⟩ | ⟨k, _⟩ | ⟨k, _⟩ | ⟨_, s1, s2⟩
    · simp [h] at k
    · simp [h] at k
    · simp [h] at k
    · exact .inr (.inr (.inr ⟨h, s1, s2⟩))
set_option maxHeartbeats 2000000 in
theorem rfserved_any (c : CalI) (day : Int) (w : World) (hs : c.name.size ≤ maxLen) :
    Calls Try.prog 40 #[calA c, .int .i64 day] w fun e w' => e = .returned (.tuple #[.int .i64 (svY c day), .int .i64 (svE c day)]) ∧ Below w.heap.size w w' := by
  have B := rfbounds_any c
  have F := fun w => rfof_any c day w hs
  have O := fun w => rof_any day w
  rcases rsv_ways c day with ⟨h, hd, b1, b2, e1, e2⟩ | ⟨h, hd, b, e1, e2⟩ | ⟨h, hd, e1, e2⟩ | ⟨h, e1, e2⟩
  · rw [h, argE_true rfl] at B
    rw [dateE_true hd] at O
    have B := Lib.hid (fun w => B w hs)
    have O := Lib.hid O
    have F := Lib.hid F
    have E1 := Lib.hid e1
    have E2 := Lib.hid e2
    clear e1 e2 h hd
    generalize foY c day = v1 at *
    generalize foE c day = v2 at *
    generalize boA c = P at *
    generalize boB c = R at *
    generalize ofY day = Y at *
    generalize ofM day = M at *
    generalize ofD day = D at *
    go_enter Try.func40, Try.ntmps40
    go_wp2_with fail
    refine (B.out _).mono ?_
    rintro e w1 ⟨rfl, hb1⟩
    obtain ⟨hc1, hf1, hz1⟩ := own_stays hb1 (b := w.heap.size) (by simp)
    go_wp2_with fail
    refine (O.out _).mono ?_
    rintro e w2 ⟨rfl, hb2⟩
    obtain ⟨hc2, hf2, hz2⟩ := own_stays hb2 (b := w.heap.size) (by simp; omega)
    obtain ⟨hd2, hg2, hy2⟩ := own_stays hb2 (b := w1.heap.size) (by simp)
    go_wp2_with fail
    refine (F.out _).mono ?_
    rintro e w3 ⟨rfl, hb3⟩
    go_wp2
    go_ret2
    exact ⟨ret_ii E2.out.symm E1.out.symm, (by repeat (with_reducible (first | exact Below.refl _ _ | assumption | refine bl_alloc ?_ _ | refine bl_drewN ?_ _ | refine bl_drew ?_ | refine bl_call ?_ (by assumption) | (refine bl_setCell ?_ _ (Nat.le_refl _)) | (refine bl_setCell ?_ _ (by simp)))))⟩
  · rw [h, argE_true rfl] at B
    rw [dateE_true hd] at O
    have B := Lib.hid (fun w => B w hs)
    have O := Lib.hid O
    have E1 := Lib.hid e1
    have E2 := Lib.hid e2
    clear e1 e2 h hd F
    generalize boA c = P at *
    generalize boB c = R at *
    generalize ofY day = Y at *
    generalize ofM day = M at *
    generalize ofD day = D at *
    rcases b with b | ⟨b, b'⟩
    all_goals
      go_enter Try.func40, Try.ntmps40
      go_wp2_with fail
      refine (B.out _).mono ?_
      rintro e w1 ⟨rfl, hb1⟩
      obtain ⟨hc1, hf1, hz1⟩ := own_stays hb1 (b := w.heap.size) (by simp)
      go_wp2_with fail
      refine (O.out _).mono ?_
      rintro e w2 ⟨rfl, hb2⟩
      obtain ⟨hd2, hg2, hy2⟩ := own_stays hb2 (b := w1.heap.size) (by simp)
      go_wp2
      go_ret2
      exact ⟨ret_ii E2.out.symm E1.out.symm, (by repeat (with_reducible (first | exact Below.refl _ _ | assumption | refine bl_alloc ?_ _ | refine bl_drewN ?_ _ | refine bl_drew ?_ | refine bl_call ?_ (by assumption) | (refine bl_setCell ?_ _ (Nat.le_refl _)) | (refine bl_setCell ?_ _ (by simp)))))⟩
  · rw [h, argE_true rfl] at B
    rw [dateE_false hd] at O
    have B := Lib.hid (fun w => B w hs)
    have O := Lib.hid O
    have E1 := Lib.hid e1
    have E2 := Lib.hid e2
    clear e1 e2 h hd F
    generalize boA c = P at *
    generalize boB c = R at *
    generalize ofY day = Y at *
    generalize ofM day = M at *
    generalize ofD day = D at *
    go_enter Try.func40, Try.ntmps40
    go_wp2_with fail
    refine (B.out _).mono ?_
    rintro e w1 ⟨rfl, hb1⟩
    obtain ⟨hc1, hf1, hz1⟩ := own_stays hb1 (b := w.heap.size) (by simp)
    go_wp2_with fail
    refine (O.out _).mono ?_
    rintro e w2 ⟨rfl, hb2⟩
    go_wp2
    go_ret2
    exact ⟨ret_ii E2.out.symm E1.out.symm, (by repeat (with_reducible (first | exact Below.refl _ _ | assumption | refine bl_alloc ?_ _ | refine bl_drewN ?_ _ | refine bl_drew ?_ | refine bl_call ?_ (by assumption) | (refine bl_setCell ?_ _ (Nat.le_refl _)) | (refine bl_setCell ?_ _ (by simp)))))⟩
  · rw [h, argE_false rfl] at B
    have B := Lib.hid (fun w => B w hs)
    have E1 := Lib.hid e1
    have E2 := Lib.hid e2
    clear e1 e2 h F O
    generalize boA c = P at *
    generalize boB c = R at *
    go_enter Try.func40, Try.ntmps40
    go_wp2_with fail
    refine (B.out _).mono ?_
    rintro e w1 ⟨rfl, hb1⟩
    go_wp2
    go_ret2
    exact ⟨ret_ii E2.out.symm E1.out.symm, (by repeat (with_reducible (first | exact Below.refl _ _ | assumption | refine bl_alloc ?_ _ | refine bl_drewN ?_ _ | refine bl_drew ?_ | refine bl_call ?_ (by assumption) | (refine bl_setCell ?_ _ (Nat.le_refl _)) | (refine bl_setCell ?_ _ (by simp)))))⟩
/- The example of the statements on years. -/
open Go.RowKit
set_option maxHeartbeats 1000000 in
theorem parse_ex (w : World) :
    Calls Try.prog 60 #[.string ⟨#[50, 48, 50, 52, 45, 48, 50, 45, 48, 51]⟩] w fun e w' => e = .returned (.tuple #[.int .i64 154896, .int .i64 0]) ∧ Below w.heap.size w w' := by
  have D := fun w => day_any 2024 2 3 w
  rw [show dayV 2024 2 3 = 154896 by decide +kernel, show dateE (validB 2024 2 3) = 0 by decide +kernel] at D
  have D := Lib.hid D
  go_enter Try.func60, Try.ntmps60
  go_wp2_with fail
  refine (numbers_ex _).mono ?_
  rintro e w1 ⟨g, cap, rfl, hown, hb1⟩
  have c0 : w1.cell? ⟨g, 0, none⟩ = some (.int .i64 2024) := (hown.cellAt 0 (by decide)).trans rfl
  have c1 : w1.cell? ⟨g, 1, none⟩ = some (.int .i64 2) := (hown.cellAt 1 (by decide)).trans rfl
  have c2 : w1.cell? ⟨g, 2, none⟩ = some (.int .i64 3) := (hown.cellAt 2 (by decide)).trans rfl
  clear hown
  go_wp2_with fail
  refine region_qb (fun W => W.cell? ⟨g, 0, none⟩ = some (.int .i64 2024) ∧ W.cell? ⟨g, 1, none⟩ = some (.int .i64 2) ∧ W.cell? ⟨g, 2, none⟩ = some (.int .i64 3) ∧ Below w.heap.size w W) ⟨by go_simp, by go_simp, by go_simp, (by repeat (with_reducible (first | exact Below.refl _ _ | assumption | refine bl_alloc ?_ _ | refine bl_drewN ?_ _ | refine bl_drew ?_ | refine bl_call ?_ (by assumption) | (refine bl_setCell ?_ _ (Nat.le_refl _)) | (refine bl_setCell ?_ _ (by simp)))))⟩ (by kernel_rfl) (by kernel_rfl) ?_
  intro W ⟨k0, k1, k2, hbW⟩
  replace k0 := rcell k0
  replace k1 := rcell k1
  replace k2 := rcell k2
  clear c0 c1 c2
  repeat (first | go_big_quiet_step (first | exact Calls.regrown_of (D.out _)) | quiet_step (first | exact Calls.regrown_of (D.out _)))
  refine wpQuiet_nil ?_
  intro w9 hb9
  go_wp2
  go_ret2
  exact ⟨rfl, bl_call hbW hb9⟩
theorem live14_facts : foY liveC 154896 = 2023 ∧ foE liveC 154896 = 0 ∧ svY liveC 154897 = 2024 ∧ svE liveC 154897 = 0 := by
  have e1 := liveC_end
  have e3 : endN liveC 2024 = 155260 := by decide +kernel
  have a1 : endN liveC 1999 + 1 ≤ 154897 := by decide +kernel
  have a2 : 154897 ≤ endN liveC 2030 := by decide +kernel
  have f1 := fo_yes liveC_ok (day := 154896) (z := 2023) (by decide) (by rw [fyOk_iff]; rw [show (2023 : Int) - 1 = 2022 from rfl, e1.1, e1.2]; decide)
  have f2 := fo_yes liveC_ok (day := 154897) (z := 2024) (by decide) (by rw [fyOk_iff]; rw [show (2024 : Int) - 1 = 2023 from rfl, e1.1, e3]; decide)
  have b1 : boA liveC = endN liveC 1999 + 1 := if_pos liveC_ok
  have b2 : boB liveC = endN liveC 2030 := if_pos liveC_ok
  have s : svE liveC 154897 = 0 := by unfold svE; rw [if_pos liveC_ok, if_pos f2.1, if_pos ⟨by rw [b1]; exact a1, by rw [b2]; exact a2⟩]
  exact ⟨f1.2.1, f1.1, by unfold svY; rw [if_pos s]; exact f2.2.1, s⟩
set_option maxHeartbeats 2000000 in
theorem live14 (w : World) : Calls Try.prog 32 #[] w fun e w' => e = .returned (.bool true) ∧ Below w.heap.size w w' := by
  obtain ⟨h1, h2, h3, h4⟩ := live14_facts
  have E := fun w => yof_any liveC 154896 w (by decide)
  have K := fun w => served_any liveC 154897 w (by decide)
  rw [h1, h2] at E
  rw [h3, h4] at K
  have E := Lib.hid E
  have K := Lib.hid K
  clear h1 h2 h3 h4
  go_enter Try.func32, Try.ntmps32
  go_wp2_with fail
  refine (parse_ex _).mono ?_
  rintro e w1 ⟨rfl, hb1⟩
  obtain ⟨hc1_0, hf1_0, hz1_0⟩ := own_stays hb1 (b := w.heap.size) (by first | (simp; done) | (simp; omega) | omega)
  go_wp2_with fail
  refine (E.out _).mono ?_
  rintro e w2 ⟨rfl, hb2⟩
  obtain ⟨hc2_0, hf2_0, hz2_0⟩ := own_stays hb2 (b := w.heap.size) (by first | (simp; done) | (simp; omega) | omega)
  go_wp2_with fail
  refine (K.out _).mono ?_
  rintro e w3 ⟨rfl, hb3⟩
  obtain ⟨hc3_0, hf3_0, hz3_0⟩ := own_stays hb3 (b := w.heap.size) (by first | (simp; done) | (simp; omega) | omega)
  go_wp2_with fail
  go_ret
  exact ⟨ret_b (by first | rfl | (simp; done)), (by repeat (with_reducible (first | exact Below.refl _ _ | assumption | refine bl_alloc ?_ _ | refine bl_drewN ?_ _ | refine bl_drew ?_ | refine bl_call ?_ (by assumption) | (refine bl_setCell ?_ _ (Nat.le_refl _)) | (refine bl_setCell ?_ _ (by simp)))))⟩
open Go.RowKit
set_option maxRecDepth 100000 in
set_option maxHeartbeats 8000000 in
theorem yearDoes_any (c : CalI) (day : Int) (w : World) (hc : CalOk c) (hd : In day) :
    Calls Try.prog 12 #[calA c, .int .i64 day] w fun e w' => e = .returned (.bool true) ∧ Below w.heap.size w w' := by
  have hs := hc.1
  have hs' := hs
  unfold maxLen at hs'
  by_cases hn : 100 < c.name.size
  · have hn' : (100 : Int) < c.name.size := by omega
    go_enter Try.func12, Try.ntmps12
    go_wp2_with fail
    refine (live14 _).mono ?_
    rintro e w1 ⟨rfl, hb1⟩
    obtain ⟨hc1_0, hf1_0, hz1_0⟩ := own_stays hb1 (b := w.heap.size) (by first | (simp; done) | (simp; omega) | omega)
    go_wp2_with fail
    go_ret
    exact ⟨rfl, (by repeat (with_reducible (first | exact Below.refl _ _ | assumption | refine bl_alloc ?_ _ | refine bl_drewN ?_ _ | refine bl_drew ?_ | refine bl_call ?_ (by assumption) | (refine bl_setCell ?_ _ (Nat.le_refl _)) | (refine bl_setCell ?_ _ (by simp)))))⟩
  have hn' : ¬ (100 : Int) < c.name.size := by omega
  have F := Lib.hid (fun w => yof_any c day w hs)
  have F' := Lib.hid (fun w => rfof_any c day w hs)
  have N := Lib.hid (fun w => ynth_any c day w hs)
  have N' := Lib.hid (fun w => rfnth_any c day w hs)
  have B := Lib.hid (fun w => bounds_any c w hs)
  have B' := Lib.hid (fun w => rfbounds_any c w hs)
  have S := Lib.hid (fun w => served_any c day w hs)
  have S' := Lib.hid (fun w => rfserved_any c day w hs)
  clear hc hd hn
  generalize foY c day = v1 at *
  generalize foE c day = v2 at *
  generalize foN c day = v3 at *
  generalize boA c = v4 at *
  generalize boB c = v5 at *
  generalize argE (calB c) = v6 at *
  generalize svY c day = v7 at *
  generalize svE c day = v8 at *
  go_enter Try.func12, Try.ntmps12
  go_wp2_with fail
  refine (live14 _).mono ?_
  rintro e w1 ⟨rfl, hb1⟩
  obtain ⟨hc1_0, hf1_0, hz1_0⟩ := own_stays hb1 (b := w.heap.size) (by first | (simp; done) | (simp; omega) | omega)
  go_wp2_with fail
  refine (F.out _).mono ?_
  rintro e w2 ⟨rfl, hb2⟩
  obtain ⟨hc2_0, hf2_0, hz2_0⟩ := own_stays hb2 (b := w.heap.size) (by first | (simp; done) | (simp; omega) | omega)
  go_wp2_with fail
  refine (F'.out _).mono ?_
  rintro e w3 ⟨rfl, hb3⟩
  obtain ⟨hc3_0, hf3_0, hz3_0⟩ := own_stays hb3 (b := w.heap.size) (by first | (simp; done) | (simp; omega) | omega)
  go_wp2_with fail
  refine (N.out _).mono ?_
  rintro e w4 ⟨rfl, hb4⟩
  obtain ⟨hc4_0, hf4_0, hz4_0⟩ := own_stays hb4 (b := w.heap.size) (by first | (simp; done) | (simp; omega) | omega)
  go_wp2_with fail
  refine (N'.out _).mono ?_
  rintro e w5 ⟨rfl, hb5⟩
  obtain ⟨hc5_0, hf5_0, hz5_0⟩ := own_stays hb5 (b := w.heap.size) (by first | (simp; done) | (simp; omega) | omega)
  go_wp2_with fail
  refine (B.out _).mono ?_
  rintro e w6 ⟨rfl, hb6⟩
  obtain ⟨hc6_0, hf6_0, hz6_0⟩ := own_stays hb6 (b := w.heap.size) (by first | (simp; done) | (simp; omega) | omega)
  go_wp2_with fail
  refine (B'.out _).mono ?_
  rintro e w7 ⟨rfl, hb7⟩
  obtain ⟨hc7_0, hf7_0, hz7_0⟩ := own_stays hb7 (b := w.heap.size) (by first | (simp; done) | (simp; omega) | omega)
  obtain ⟨hc7_1, hf7_1, hz7_1⟩ := own_stays hb7 (b := w6.heap.size) (by first | (simp; done) | (simp; omega) | omega)
  go_wp2_with fail
  refine (S.out _).mono ?_
  rintro e w8 ⟨rfl, hb8⟩
  obtain ⟨hc8_0, hf8_0, hz8_0⟩ := own_stays hb8 (b := w.heap.size) (by first | (simp; done) | (simp; omega) | omega)
  obtain ⟨hc8_1, hf8_1, hz8_1⟩ := own_stays hb8 (b := w6.heap.size) (by first | (simp; done) | (simp; omega) | omega)
  obtain ⟨hc8_2, hf8_2, hz8_2⟩ := own_stays hb8 (b := w7.heap.size) (by first | (simp; done) | (simp; omega) | omega)
  go_wp2_with fail
  refine (S'.out _).mono ?_
  rintro e w9 ⟨rfl, hb9⟩
  obtain ⟨hc9_0, hf9_0, hz9_0⟩ := own_stays hb9 (b := w6.heap.size) (by first | (simp; done) | (simp; omega) | omega)
  obtain ⟨hc9_1, hf9_1, hz9_1⟩ := own_stays hb9 (b := w7.heap.size) (by first | (simp; done) | (simp; omega) | omega)
  go_wp2_with fail
  go_ret
  exact ⟨ret_b (by first | rfl | (simp; done)), (by repeat (with_reducible (first | exact Below.refl _ _ | assumption | refine bl_alloc ?_ _ | refine bl_drewN ?_ _ | refine bl_drew ?_ | refine bl_call ?_ (by assumption) | (refine bl_setCell ?_ _ (Nat.le_refl _)) | (refine bl_setCell ?_ _ (by simp)))))⟩
end Go.Proofs.Yteppoghpfcmhhaa
