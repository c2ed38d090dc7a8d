/- Contracts of the package year: the years beside one. -/
import Derived.Test.YteppoghpfcmhhaaMathK
namespace Go.Proofs.Yteppoghpfcmhhaa
set_option linter.unusedVariables false
set_option linter.unusedSimpArgs false
open Go.RowKit
/-- the calendar's block, as it stands in a world of the call's own -/
def CalAt (w : World) (b : Nat) (c : CalI) : Prop := b < w.heap.size ∧ w.cell? ⟨b, 0, none⟩ = some (.string c.name) ∧ w.cell? ⟨b, 1, none⟩ = some (.int .i64 c.kind) ∧ w.cell? ⟨b, 2, none⟩ = some (.int .i64 c.day) ∧ w.cell? ⟨b, 3, none⟩ = some (.int .i64 c.month) ∧ w.cell? ⟨b, 4, none⟩ = some (.int .i64 c.shift) ∧ w.cell? ⟨b, 5, none⟩ = some (.int .i64 c.shape) ∧ w.cell? ⟨b, 6, none⟩ = some (.int .i64 c.p0) ∧ w.cell? ⟨b, 7, none⟩ = some (.int .i64 c.p1) ∧ w.cell? ⟨b, 8, none⟩ = some (.int .i64 c.p2) ∧
  w.cell? ⟨b, 9, none⟩ = some (.int .i64 c.cycle) ∧ w.cell? ⟨b, 10, none⟩ = some (.int .i64 c.extra) ∧ w.cell? ⟨b, 11, none⟩ = some (.int .i64 c.first) ∧ w.cell? ⟨b, 12, none⟩ = some (.int .i64 c.last) ∧ w.cell? ⟨b, 13, none⟩ = some (.int .i64 c.policy)
theorem CalAt.go {w w' : World} {b : Nat} {c : CalI} (h : CalAt w b c) (hb : Below w.heap.size w w') : CalAt w' b c := by
  obtain ⟨l, h0, h1, h2, h3, h4, h5, h6, h7, h8, h9, h10, h11, h12, h13⟩ := h
  have k : ∀ o, w'.cell? ⟨b, o, none⟩ = w.cell? ⟨b, o, none⟩ := fun o => hb.cell (p := ⟨b, o, none⟩) l
  exact ⟨Nat.lt_of_lt_of_le l hb.size, (k 0).trans h0, (k 1).trans h1, (k 2).trans h2, (k 3).trans h3, (k 4).trans h4, (k 5).trans h5, (k 6).trans h6, (k 7).trans h7, (k 8).trans h8, (k 9).trans h9, (k 10).trans h10, (k 11).trans h11, (k 12).trans h12, (k 13).trans h13⟩
theorem fyOk_no {c : CalI} {day z : Int} (h : fyOk c day z = false) (h1 : 1601 ≤ z) (h2 : z ≤ 9997) : ¬ endN c (z - 1) + 1 ≤ day ∨ (endN c (z - 1) + 1 ≤ day ∧ ¬ day ≤ endN c z) := by
  have := mt (fyOk_iff c day z).2 (by simp [h])
  omega
set_option maxRecDepth 100000 in
set_option maxHeartbeats 2000000 in
theorem beside_round (c : CalI) (day y : Int) (w : World) (hs : c.name.size ≤ maxLen) (h : calB c = true) (hd : isB day = true) (y1 : 1500 ≤ y) (y2 : y ≤ 11000) (hno : ∀ z, y - 2 ≤ z → z ≤ y + 2 → fyOk c day z = false) :
    Calls Try.prog 77 #[calA c, .int .i64 day, .int .i64 y] w fun e w' => e = .returned (.tuple #[.int .i64 0, .int .i64 0, .int .i64 11]) ∧ Below w.heap.size w w' := by
  have NO := Lib.hid hno
  obtain ⟨d0, d1⟩ := (isB_iff _).1 hd
  clear hno hd
  go_enter Try.func77, Try.ntmps77
  go_wp2
  go_loopw [9] (fun i wr => ∃ z : Int, y - 2 ≤ z ∧ z ≤ y + 3 ∧ i = .int .i64 z ∧ Below w.heap.size w wr ∧ CalAt wr w.heap.size c) (fun i _ => (y + 3 - intOf i).toNat)
  case atStart => exact ⟨y - 2, by omega, by omega, rfl, (by repeat (with_reducible (first | exact Below.refl _ _ | assumption | refine bl_alloc ?_ _ | refine bl_drewN ?_ _ | refine bl_drew ?_ | refine bl_call ?_ (by assumption) | (refine bl_setCell ?_ _ (Nat.le_refl _)) | (refine bl_setCell ?_ _ (by simp))))), by simp [CalAt]⟩
  case round =>
    obtain ⟨z, z1, z2, rfl, hbr, hcal⟩ := hrel
    have HC := Lib.hid hcal
    obtain ⟨l, h0, h1, h2, h3, h4, h5, h6, h7, h8, h9, h10, h11, h12, h13⟩ := hcal
    by_cases hz : z ≤ y + 2
    · have S := astart_any c z
      by_cases t : tellE c z 1601 = 0
      · obtain ⟨_, t1, t2⟩ := tell_zero t
        have S := Lib.hid (fun w => astart_told c z w hs h t1 t2)
        have E := Lib.hid (fun w => aend_told c z w hs h (by omega) t2)
        obtain ⟨e1, e2⟩ := end_bd h (y := z) (by omega) t2
        obtain ⟨e3, e4⟩ := end_bd h (y := z - 1) (by omega) (by omega)
        have no := fyOk_no (NO.out z z1 hz) t1 t2
        clear t
        generalize endN c z = P at *
        generalize endN c (z - 1) = R at *
        rcases no with no | ⟨no, no'⟩
        all_goals
          go_wp2_with fail
          refine (S.out _).mono ?_
          rintro e w1 ⟨rfl, hb1⟩
          obtain ⟨hc1, hf1, hz1⟩ := own_stays hb1 (b := w.heap.size) l
          go_wp2_with fail
          refine (E.out _).mono ?_
          rintro e w2 ⟨rfl, hb2⟩
          have HW := HC.out.go (bl_call hb1 hb2)
          clear hc1 hf1 hz1 l h0 h1 h2 h3 h4 h5 h6 h7 h8 h9 h10 h11 h12 h13
          go_wp2
          go_roundw
          case rel => exact ⟨z + 1, by omega, by omega, by go_num, (by repeat (with_reducible (first | exact Below.refl _ _ | assumption | refine bl_alloc ?_ _ | refine bl_drewN ?_ _ | refine bl_drew ?_ | refine bl_call ?_ (by assumption) | (refine bl_setCell ?_ _ (Nat.le_refl _)) | (refine bl_setCell ?_ _ (by simp))))), HW⟩
          case measure => simp [intOf]; omega
      · obtain ⟨t1, _⟩ := tell_not t
        rw [show startV c z = 0 from if_neg t] at S
        have S := Lib.hid (fun w => S w hs)
        have t3 : (tellE c z 1601 != 0) = true := by simpa using t1
        clear t
        generalize tellE c z 1601 = t at *
        go_wp2_with fail
        refine (S.out _).mono ?_
        rintro e w1 ⟨rfl, hb1⟩
        have HW := HC.out.go hb1
        clear l h0 h1 h2 h3 h4 h5 h6 h7 h8 h9 h10 h11 h12 h13
        go_wp2
        go_roundw
        case rel => exact ⟨z + 1, by omega, by omega, by go_num, (by repeat (with_reducible (first | exact Below.refl _ _ | assumption | refine bl_alloc ?_ _ | refine bl_drewN ?_ _ | refine bl_drew ?_ | refine bl_call ?_ (by assumption) | (refine bl_setCell ?_ _ (Nat.le_refl _)) | (refine bl_setCell ?_ _ (by simp))))), HW⟩
        case measure => simp [intOf]; omega
    · go_wp2
      go_ret3
      exact ⟨rfl, hbr⟩
end Go.Proofs.Yteppoghpfcmhhaa
