/- Contracts of the reference of layer 6: Day. -/
import Derived.Test.YtmkpkghhalpfaaaRefF
namespace Go.Proofs.Ytmkpkghhalpfaaa
set_option linter.unusedVariables false
set_option linter.unusedSimpArgs false
open Go.RowKit
theorem wkOk_false_of {y k d : Int} (h : wkOk y k d = false) : wkV y k d = 0 ∧ dateE (wkOk y k d) = 4 := ⟨by unfold wkV; rw [h]; rfl, dateE_false h⟩
theorem wkOk_bad (y k d : Int) (h : ¬ (1599 ≤ y ∧ y ≤ 9999 ∧ 1 ≤ k ∧ k ≤ 53 ∧ 1 ≤ d ∧ d ≤ 7)) : wkOk y k d = false := by
  refine Bool.eq_false_iff.2 fun hh => ?_
  rcases wk_facts y k d with ⟨h1, h2, h3, h4, h5, i, a, b, c, ok⟩ | ⟨ok, _⟩ | ⟨ok, _⟩
  · obtain ⟨_, b1, b2, _⟩ := iso_at _ i
    omega
  · rw [ok] at hh; cases hh
  · rw [ok] at hh; cases hh
/-- where the reference begins to look -/
def rbase (y : Int) : Int := if y < 1600 then -365 else yearsI y
theorem rbase_cases (y : Int) (h1 : 1599 ≤ y) (h2 : y ≤ 9999) : (y = 1599 ∧ dateE (validB y 1 1) = 4 ∧ rbase y = -365) ∨ (1600 ≤ y ∧ dateE (validB y 1 1) = 0 ∧ dayV y 1 1 = rbase y) := by
  by_cases c : y < 1600
  · have v : validB y 1 1 = false := by
      refine Bool.eq_false_iff.2 fun hv => ?_
      have := (validB_iff _ _ _).1 hv; omega
    exact .inl ⟨by omega, dateE_false v, by unfold rbase; rw [if_pos c]⟩
  · have v : validB y 1 1 = true := by rw [validB_iff]; have := mlen_bd y 1; omega
    refine .inr ⟨by omega, dateE_true v, ?_⟩
    unfold dayV rbase; rw [if_pos v, if_neg c]; unfold dayNo; rw [ahead_one]; omega
theorem rbase_bd (y : Int) (h1 : 1599 ≤ y) (h2 : y ≤ 9999) : -365 ≤ rbase y ∧ rbase y ≤ 3068037 := by
  unfold rbase
  split
  · omega
  · have := years_bd y (by omega) (by omega); omega
theorem wkC_range (y k d : Int) (h1 : 1599 ≤ y) (h2 : y ≤ 9999) (hd : 1 ≤ d ∧ d ≤ 7) : rbase y + 7 * k - 11 ≤ wkC y k d ∧ wkC y k d ≤ rbase y + 7 * k + 4 := by
  unfold wkC wkB rbase
  have x := firstI_1600
  split
  · omega
  · have fb := first_bd y; omega
theorem wkOk_is (y k d n : Int) (hi : isB n = true) (e1 : isoY n = y) (e2 : isoW n = k) (e3 : isoD n = d) : wkV y k d = n ∧ dateE (wkOk y k d) = 0 := by
  obtain ⟨a, b⟩ := iso_ok n hi
  rw [e1, e2, e3] at a b
  exact ⟨b, dateE_true a⟩
theorem wkOk_not (y k d : Int) (h : isB (wkC y k d) = true → isoY (wkC y k d) = y → isoW (wkC y k d) = k → isoD (wkC y k d) = d → False) : wkV y k d = 0 ∧ dateE (wkOk y k d) = 4 := by
  rcases wk_facts y k d with ⟨h1, h2, h3, h4, h5, i, a, b, c, ok⟩ | ⟨ok, _⟩ | ⟨ok, _⟩
  · exact (h i a b c).elim
  · exact wkOk_false_of ok
  · exact wkOk_false_of ok
theorem iso_ways (n y k d : Int) : (isB n = false) ∨ (isB n = true ∧ (isoY n == y) = false) ∨ (isB n = true ∧ isoY n = y ∧ (isoW n == k) = false) ∨ (isB n = true ∧ isoY n = y ∧ isoW n = k ∧ (isoD n == d) = false) ∨ (isB n = true ∧ isoY n = y ∧ isoW n = k ∧ isoD n = d) := by
  simp only [beq_eq_false_iff_ne]
  by_cases a : isB n = true
  · by_cases b : isoY n = y
    · by_cases c : isoW n = k
      · by_cases e : isoD n = d
        · exact .inr (.inr (.inr (.inr ⟨a, b, c, e⟩)))
        · exact .inr (.inr (.inr (.inl ⟨a, b, c, e⟩)))
      · exact .inr (.inr (.inl ⟨a, b, c⟩))
    · exact .inr (.inl ⟨a, b⟩)
  · exact .inl (by simpa using a)
/-- An ISO day that the call holds, in a world behind the first one. -/
structure IsoAt (w wr : World) (y k d : Int) : Prop where
  bl : Below w.heap.size w wr
  sz : w.heap.size < wr.heap.size
  c0 : wr.cell? ⟨w.heap.size, 0, none⟩ = some (.int .i64 y)
  c1 : wr.cell? ⟨w.heap.size, 1, none⟩ = some (.int .i64 k)
  c2 : wr.cell? ⟨w.heap.size, 2, none⟩ = some (.int .i64 d)
theorem IsoAt.call {w wr w1 : World} {y k d : Int} (h : IsoAt w wr y k d) (hb : Below wr.heap.size wr w1) : IsoAt w w1 y k d := by
  obtain ⟨a, b, c⟩ := own_stays hb h.sz
  exact ⟨bl_call h.bl hb, c, by rw [a]; exact h.c0, by rw [a]; exact h.c1, by rw [a]; exact h.c2⟩
theorem IsoAt.alloc {w wr : World} {y k d : Int} (h : IsoAt w wr y k d) (o : Obj) : IsoAt w (wr.alloc o) y k d := h.call (bl_alloc (Below.refl _ _) o)
theorem IsoAt.drew {w wr : World} {y k d : Int} (h : IsoAt w wr y k d) : IsoAt w wr.drew y k d := h.call (bl_drew (Below.refl _ _))
set_option maxRecDepth 100000 in
set_option maxHeartbeats 4000000 in
theorem rwday_any (y k d : Int) (w : World) :
    Calls Try.prog 36 #[isoA y k d] w fun e w' => e = .returned (.tuple #[.int .i64 (wkV y k d), .int .i64 (dateE (wkOk y k d))]) ∧ Below w.heap.size w w' := by
  by_cases g : 1599 ≤ y ∧ y ≤ 9999 ∧ 1 ≤ k ∧ k ≤ 53 ∧ 1 ≤ d ∧ d ≤ 7
  · obtain ⟨g1, g2, g3, g4, g5, g6⟩ := g
    have rb := rbase_bd y g1 g2
    have cr := wkC_range y k d g1 g2 ⟨g5, g6⟩
    have IS := Lib.hid (wkOk_is y k d)
    have NOT := Lib.hid (fun h : (∀ i : Int, rbase y + 7 * k - 11 ≤ i → i ≤ rbase y + 7 * k + 4 → isB i = true → isoY i = y → isoW i = k → isoD i = d → False) => wkOk_not y k d (fun a b c e => h _ cr.1 cr.2 a b c e))
    clear cr
    rcases rbase_cases y g1 g2 with ⟨b0, b1, b2⟩ | ⟨b0, b1, b2⟩
    · rw [b2] at NOT rb
      clear b2
      clear b0
      go_enter Try.func36, Try.ntmps36
      go_wp2_with fail
      refine (rday_any _ _ _ _).mono ?_
      rintro e w1 ⟨rfl, hb1⟩
      obtain ⟨hc1_0, hf1_0, hz1_0⟩ := own_stays hb1 (b := w.heap.size) (by first | (simp; done) | (simp; omega) | omega)
      go_wp2_with fail
      go_loopw [6] (fun t wr => ∃ j : Int, -365 + 7 * k - 11 ≤ j ∧ j ≤ -365 + 7 * k + 5 ∧ t = .int .i64 j ∧ Hid (∀ i : Int, -365 + 7 * k - 11 ≤ i → i < j → isB i = true → isoY i = y → isoW i = k → isoD i = d → False) ∧ IsoAt w wr y k d) (fun t _ => (-365 + 7 * k + 5 - intOf t).toNat)
      case atStart => exact ⟨_, by omega, by omega, rfl, Lib.hid (fun i h1 h2 => by omega), ⟨(by repeat (with_reducible (first | exact Below.refl _ _ | assumption | refine bl_alloc ?_ _ | refine bl_drewN ?_ _ | refine bl_drew ?_ | refine bl_call ?_ (by assumption) | (refine bl_setCell ?_ _ (Nat.le_refl _)) | (refine bl_setCell ?_ _ (by simp))))), by first | assumption | omega, by go_simp, by go_simp, by go_simp⟩⟩
      case round =>
        obtain ⟨j, j1, j2, rfl, HN, HI⟩ := hrel
        have HH := Lib.hid HI
        obtain ⟨hbl, hsz, q0, q1, q2⟩ := HI
        clear hbl
        by_cases hlt : j ≤ -365 + 7 * k + 4
        · have IJ := Lib.hid (IS.out j)
          have HN2 : (isB j = true → isoY j = y → isoW j = k → isoD j = d → False) → Hid (∀ i : Int, -365 + 7 * k - 11 ≤ i → i < j + 1 → isB i = true → isoY i = y → isoW i = k → isoD i = d → False) := fun hno => Lib.hid (fun i h1 h2 h3 h4 h5 h6 => by
            by_cases hij : i = j
            · subst hij; exact hno h3 h4 h5 h6
            · exact HN.out i h1 (by omega) h3 h4 h5 h6)
          have HN3 := Lib.hid HN2
          clear HN2
          rcases iso_ways j y k d with a | ⟨a, b⟩ | ⟨a, b, c⟩ | ⟨a, b, c, e⟩ | ⟨a, b, c, e⟩
          · have di := dateE_false a
            have HN4 := HN3.out (fun h => by rw [a] at h; cases h)
            clear a
            go_wp2_with fail
            refine (riso_any _ _).mono ?_
            rintro e w1 ⟨rfl, hb1⟩
            obtain ⟨hc1_0, hf1_0, hz1_0⟩ := own_stays hb1 (b := w.heap.size) (by first | (simp; done) | (simp; omega) | omega)
            go_wp2_with fail
            go_roundw
            case rel => exact ⟨j + 1, by omega, by omega, rfl, HN4, (HH.out.call hb1).alloc _⟩
            case measure => simp [intOf]; omega
          · have di := dateE_true a
            have HN4 := HN3.out (fun _ h => by simp [h] at b)
            clear a
            go_wp2_with fail
            refine (riso_any _ _).mono ?_
            rintro e w1 ⟨rfl, hb1⟩
            obtain ⟨hc1_0, hf1_0, hz1_0⟩ := own_stays hb1 (b := w.heap.size) (by first | (simp; done) | (simp; omega) | omega)
            go_wp2_with fail
            go_roundw
            case rel => exact ⟨j + 1, by omega, by omega, rfl, HN4, (HH.out.call hb1).alloc _⟩
            case measure => simp [intOf]; omega
          · have di := dateE_true a
            have HN4 := HN3.out (fun _ _ h => by simp [h] at c)
            clear a
            go_wp2_with fail
            refine (riso_any _ _).mono ?_
            rintro e w1 ⟨rfl, hb1⟩
            obtain ⟨hc1_0, hf1_0, hz1_0⟩ := own_stays hb1 (b := w.heap.size) (by first | (simp; done) | (simp; omega) | omega)
            go_wp2_with fail
            go_roundw
            case rel => exact ⟨j + 1, by omega, by omega, rfl, HN4, (HH.out.call hb1).alloc _⟩
            case measure => simp [intOf]; omega
          · have di := dateE_true a
            have HN4 := HN3.out (fun _ _ _ h => by simp [h] at e)
            clear a
            go_wp2_with fail
            refine (riso_any _ _).mono ?_
            rintro e w1 ⟨rfl, hb1⟩
            obtain ⟨hc1_0, hf1_0, hz1_0⟩ := own_stays hb1 (b := w.heap.size) (by first | (simp; done) | (simp; omega) | omega)
            go_wp2_with fail
            go_roundw
            case rel => exact ⟨j + 1, by omega, by omega, rfl, HN4, (HH.out.call hb1).alloc _⟩
            case measure => simp [intOf]; omega
          · have YY := Lib.hid (IJ.out a b c e)
            have di := dateE_true a
            clear a
            go_wp2_with fail
            refine (riso_any _ _).mono ?_
            rintro e w1 ⟨rfl, hb1⟩
            obtain ⟨hc1_0, hf1_0, hz1_0⟩ := own_stays hb1 (b := w.heap.size) (by first | (simp; done) | (simp; omega) | omega)
            go_wp2_with fail
            go_ret2
            exact ⟨ret_ii YY.out.1.symm YY.out.2.symm, ((HH.out.call hb1).alloc _).bl⟩
        · have NN := Lib.hid (NOT.out (fun i h1 h2 => HN.out i h1 (by omega)))
          go_wp2
          go_ret2
          exact ⟨ret_ii NN.out.1.symm NN.out.2.symm, HH.out.bl⟩
    · generalize rbase y = R at *
      go_enter Try.func36, Try.ntmps36
      go_wp2_with fail
      refine (rday_any _ _ _ _).mono ?_
      rintro e w1 ⟨rfl, hb1⟩
      obtain ⟨hc1_0, hf1_0, hz1_0⟩ := own_stays hb1 (b := w.heap.size) (by first | (simp; done) | (simp; omega) | omega)
      go_wp2_with fail
      go_loopw [6] (fun t wr => ∃ j : Int, R + 7 * k - 11 ≤ j ∧ j ≤ R + 7 * k + 5 ∧ t = .int .i64 j ∧ Hid (∀ i : Int, R + 7 * k - 11 ≤ i → i < j → isB i = true → isoY i = y → isoW i = k → isoD i = d → False) ∧ IsoAt w wr y k d) (fun t _ => (R + 7 * k + 5 - intOf t).toNat)
      case atStart => exact ⟨_, by omega, by omega, rfl, Lib.hid (fun i h1 h2 => by omega), ⟨(by repeat (with_reducible (first | exact Below.refl _ _ | assumption | refine bl_alloc ?_ _ | refine bl_drewN ?_ _ | refine bl_drew ?_ | refine bl_call ?_ (by assumption) | (refine bl_setCell ?_ _ (Nat.le_refl _)) | (refine bl_setCell ?_ _ (by simp))))), by first | assumption | omega, by go_simp, by go_simp, by go_simp⟩⟩
      case round =>
        obtain ⟨j, j1, j2, rfl, HN, HI⟩ := hrel
        have HH := Lib.hid HI
        obtain ⟨hbl, hsz, q0, q1, q2⟩ := HI
        clear hbl
        by_cases hlt : j ≤ R + 7 * k + 4
        · have IJ := Lib.hid (IS.out j)
          have HN2 : (isB j = true → isoY j = y → isoW j = k → isoD j = d → False) → Hid (∀ i : Int, R + 7 * k - 11 ≤ i → i < j + 1 → isB i = true → isoY i = y → isoW i = k → isoD i = d → False) := fun hno => Lib.hid (fun i h1 h2 h3 h4 h5 h6 => by
            by_cases hij : i = j
            · subst hij; exact hno h3 h4 h5 h6
            · exact HN.out i h1 (by omega) h3 h4 h5 h6)
          have HN3 := Lib.hid HN2
          clear HN2
          rcases iso_ways j y k d with a | ⟨a, b⟩ | ⟨a, b, c⟩ | ⟨a, b, c, e⟩ | ⟨a, b, c, e⟩
          · have di := dateE_false a
            have HN4 := HN3.out (fun h => by rw [a] at h; cases h)
            clear a
            go_wp2_with fail
            refine (riso_any _ _).mono ?_
            rintro e w1 ⟨rfl, hb1⟩
            obtain ⟨hc1_0, hf1_0, hz1_0⟩ := own_stays hb1 (b := w.heap.size) (by first | (simp; done) | (simp; omega) | omega)
            go_wp2_with fail
            go_roundw
            case rel => exact ⟨j + 1, by omega, by omega, rfl, HN4, (HH.out.call hb1).alloc _⟩
            case measure => simp [intOf]; omega
          · have di := dateE_true a
            have HN4 := HN3.out (fun _ h => by simp [h] at b)
            clear a
            go_wp2_with fail
            refine (riso_any _ _).mono ?_
            rintro e w1 ⟨rfl, hb1⟩
            obtain ⟨hc1_0, hf1_0, hz1_0⟩ := own_stays hb1 (b := w.heap.size) (by first | (simp; done) | (simp; omega) | omega)
            go_wp2_with fail
            go_roundw
            case rel => exact ⟨j + 1, by omega, by omega, rfl, HN4, (HH.out.call hb1).alloc _⟩
            case measure => simp [intOf]; omega
          · have di := dateE_true a
            have HN4 := HN3.out (fun _ _ h => by simp [h] at c)
            clear a
            go_wp2_with fail
            refine (riso_any _ _).mono ?_
            rintro e w1 ⟨rfl, hb1⟩
            obtain ⟨hc1_0, hf1_0, hz1_0⟩ := own_stays hb1 (b := w.heap.size) (by first | (simp; done) | (simp; omega) | omega)
            go_wp2_with fail
            go_roundw
            case rel => exact ⟨j + 1, by omega, by omega, rfl, HN4, (HH.out.call hb1).alloc _⟩
            case measure => simp [intOf]; omega
          · have di := dateE_true a
            have HN4 := HN3.out (fun _ _ _ h => by simp [h] at e)
            clear a
            go_wp2_with fail
            refine (riso_any _ _).mono ?_
            rintro e w1 ⟨rfl, hb1⟩
            obtain ⟨hc1_0, hf1_0, hz1_0⟩ := own_stays hb1 (b := w.heap.size) (by first | (simp; done) | (simp; omega) | omega)
            go_wp2_with fail
            go_roundw
            case rel => exact ⟨j + 1, by omega, by omega, rfl, HN4, (HH.out.call hb1).alloc _⟩
            case measure => simp [intOf]; omega
          · have YY := Lib.hid (IJ.out a b c e)
            have di := dateE_true a
            clear a
            go_wp2_with fail
            refine (riso_any _ _).mono ?_
            rintro e w1 ⟨rfl, hb1⟩
            obtain ⟨hc1_0, hf1_0, hz1_0⟩ := own_stays hb1 (b := w.heap.size) (by first | (simp; done) | (simp; omega) | omega)
            go_wp2_with fail
            go_ret2
            exact ⟨ret_ii YY.out.1.symm YY.out.2.symm, ((HH.out.call hb1).alloc _).bl⟩
        · have NN := Lib.hid (NOT.out (fun i h1 h2 => HN.out i h1 (by omega)))
          go_wp2
          go_ret2
          exact ⟨ret_ii NN.out.1.symm NN.out.2.symm, HH.out.bl⟩
  · obtain ⟨e1, e2⟩ := wkOk_false_of (wkOk_bad y k d g)
    have E1 := Lib.hid e1
    have E2 := Lib.hid e2
    clear e1 e2
    have c : y < 1599 ∨ (1599 ≤ y ∧ 9999 < y) ∨ (1599 ≤ y ∧ y ≤ 9999 ∧ k < 1) ∨ (1599 ≤ y ∧ y ≤ 9999 ∧ 1 ≤ k ∧ 53 < k) ∨ (1599 ≤ y ∧ y ≤ 9999 ∧ 1 ≤ k ∧ k ≤ 53 ∧ d < 1) ∨ (1599 ≤ y ∧ y ≤ 9999 ∧ 1 ≤ k ∧ k ≤ 53 ∧ 1 ≤ d ∧ 7 < d) := by omega
    clear g
    rcases c with c | ⟨c1, c⟩ | ⟨c1, c2, c⟩ | ⟨c1, c2, c3, c⟩ | ⟨c1, c2, c3, c4, c⟩ | ⟨c1, c2, c3, c4, c5, c⟩
    all_goals
      go_enter Try.func36, Try.ntmps36
      go_wp2
      go_ret2
      exact ⟨ret_ii E1.out.symm E2.out.symm, (by repeat (with_reducible (first | exact Below.refl _ _ | assumption | refine bl_alloc ?_ _ | refine bl_drewN ?_ _ | refine bl_drew ?_ | refine bl_call ?_ (by assumption) | (refine bl_setCell ?_ _ (Nat.le_refl _)) | (refine bl_setCell ?_ _ (by simp)))))⟩
end Go.Proofs.Ytmkpkghhalpfaaa
