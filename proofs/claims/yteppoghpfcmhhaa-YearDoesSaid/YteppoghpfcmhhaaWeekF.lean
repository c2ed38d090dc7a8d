/- Contracts of the package week: end, Last, Near. -/
import Derived.Test.YteppoghpfcmhhaaWeekP
import Derived.Test.YteppoghpfcmhhaaCivE
namespace Go.Proofs.Yteppoghpfcmhhaa
set_option linter.unusedVariables false
set_option linter.unusedSimpArgs false
open Go.RowKit
/-- a month's last day -/
def eomI (y m : Int) : Int := yearsI y + aheadI y m + mlen y m - 1
def lastN (y m d : Int) : Int := eomI y m - (wdI (eomI y m) - d + 7) % 7
def nearK (y m d : Int) : Int := (d - wdI (eomI y m) + 10) % 7 - 3
def wkE (y m d : Int) : Int := if thereB y m = true then (if 1 ≤ d ∧ d ≤ 7 then 0 else 1) else 4
def eomV (y m d : Int) : Int := if wkE y m d = 0 then eomI y m else 0
def eomW (y m d : Int) : Int := if wkE y m d = 0 then wdI (eomI y m) else 0
def lastV (y m d : Int) : Int := if wkE y m d = 0 then lastN y m d else 0
def nearV (y m d : Int) : Int := if wkE y m d = 0 then addI (eomI y m) (nearK y m d) else 0
def nearE (y m d : Int) : Int := if wkE y m d = 0 then dateE (addOk (eomI y m) (nearK y m d)) else wkE y m d
theorem eom_facts (y m : Int) (h : thereB y m = true) : dayV y m (mlen y m) = eomI y m ∧ dateE (validB y m (mlen y m)) = 0 ∧ isB (eomI y m) = true ∧ lenV y m = mlen y m := by
  have h' := h
  unfold thereB at h'; simp only [decide_eq_true_eq] at h'
  have v : validB y m (mlen y m) = true := by rw [validB_iff]; have := mlen_bd y m; omega
  have b := dayNo_bd _ _ _ v
  have e : dayNo y m (mlen y m) = eomI y m := rfl
  rw [e] at b
  exact ⟨by unfold dayV; rw [if_pos v, e], dateE_true v, (isB_iff _).2 b, by unfold lenV; rw [if_pos h]⟩
theorem wk_cases (y m d : Int) : (thereB y m = false ∧ wkE y m d = 4 ∧ lenV y m = 0) ∨ (thereB y m = true ∧ lenV y m = mlen y m ∧ wkE y m d = 1 ∧ (d < 1 ∨ (1 ≤ d ∧ 7 < d))) ∨ (thereB y m = true ∧ lenV y m = mlen y m ∧ wkE y m d = 0 ∧ 1 ≤ d ∧ d ≤ 7) := by
  rcases Bool.eq_false_or_eq_true (thereB y m) with h | h
  · obtain ⟨_, _, _, l⟩ := eom_facts y m h
    by_cases c : 1 ≤ d ∧ d ≤ 7
    · exact .inr (.inr ⟨h, l, by unfold wkE; rw [if_pos h, if_pos c], c.1, c.2⟩)
    · exact .inr (.inl ⟨h, l, by unfold wkE; rw [if_pos h, if_neg c], by omega⟩)
  · exact .inl ⟨h, by unfold wkE; rw [h]; rfl, by unfold lenV; rw [h]; rfl⟩
set_option maxHeartbeats 1000000 in
theorem end_any (y m d : Int) (w : World) :
    Calls Try.prog 58 #[.int .i64 y, .int .i64 m, .int .i64 d] w fun e w' => e = .returned (.tuple #[.int .i64 (eomV y m d), .int .i64 (eomW y m d), .int .i64 (wkE y m d)]) ∧ Below w.heap.size w w' := by
  rcases wk_cases y m d with ⟨h, e, l⟩ | ⟨h, l, e, c⟩ | ⟨h, l, e, c1, c2⟩
  · have t := dateE_false h
    have V := Lib.hid (show eomV y m d = 0 by unfold eomV; rw [e]; rfl)
    have W := Lib.hid (show eomW y m d = 0 by unfold eomW; rw [e]; rfl)
    have E := Lib.hid e
    clear h e
    go_enter Try.func58, Try.ntmps58
    go_wp2_with (go_at_call 25; refine (weekday_any _ _).mono ?_; rintro e w' ⟨rfl, rfl⟩)
    refine (length_any _ _ _).mono ?_
    rintro e w1 ⟨rfl, hb1⟩
    go_wp2_with (go_at_call 25; refine (weekday_any _ _).mono ?_; rintro e w' ⟨rfl, rfl⟩)
    go_ret3
    exact ⟨ret_iii V.out.symm W.out.symm E.out.symm, (by repeat (with_reducible (first | exact Below.refl _ _ | assumption | refine bl_alloc ?_ _ | refine bl_drewN ?_ _ | refine bl_drew ?_ | refine bl_call ?_ (by assumption) | (refine bl_setCell ?_ _ (Nat.le_refl _)) | (refine bl_setCell ?_ _ (by simp)))))⟩
  · have t := dateE_true h
    have V := Lib.hid (show eomV y m d = 0 by unfold eomV; rw [e]; rfl)
    have W := Lib.hid (show eomW y m d = 0 by unfold eomW; rw [e]; rfl)
    have E := Lib.hid e
    clear h e
    rcases c with c | ⟨c, c'⟩
    all_goals
      go_enter Try.func58, Try.ntmps58
      go_wp2_with (go_at_call 25; refine (weekday_any _ _).mono ?_; rintro e w' ⟨rfl, rfl⟩)
      refine (length_any _ _ _).mono ?_
      rintro e w1 ⟨rfl, hb1⟩
      go_wp2_with (go_at_call 25; refine (weekday_any _ _).mono ?_; rintro e w' ⟨rfl, rfl⟩)
      go_ret3
      exact ⟨ret_iii V.out.symm W.out.symm E.out.symm, (by repeat (with_reducible (first | exact Below.refl _ _ | assumption | refine bl_alloc ?_ _ | refine bl_drewN ?_ _ | refine bl_drew ?_ | refine bl_call ?_ (by assumption) | (refine bl_setCell ?_ _ (Nat.le_refl _)) | (refine bl_setCell ?_ _ (by simp)))))⟩
  · have t := dateE_true h
    obtain ⟨f1, f2, f3, _⟩ := eom_facts y m h
    have f4 := dateE_true f3
    have V := Lib.hid (show eomV y m d = eomI y m by unfold eomV; rw [if_pos e])
    have W := Lib.hid (show eomW y m d = wdI (eomI y m) by unfold eomW; rw [if_pos e])
    have E := Lib.hid e
    clear h e f3
    go_enter Try.func58, Try.ntmps58
    go_wp2_with (go_at_call 25; refine (weekday_any _ _).mono ?_; rintro e w' ⟨rfl, rfl⟩)
    refine (length_any _ _ _).mono ?_
    rintro e w1 ⟨rfl, hb1⟩
    go_wp2_with (go_at_call 25; refine (weekday_any _ _).mono ?_; rintro e w' ⟨rfl, rfl⟩)
    refine (day_any _ _ _ _).mono ?_
    rintro e w2 ⟨rfl, hb2⟩
    go_wp2_with (go_at_call 25; refine (weekday_any _ _).mono ?_; rintro e w' ⟨rfl, rfl⟩)
    go_ret3
    exact ⟨ret_iii V.out.symm W.out.symm E.out.symm, (by repeat (with_reducible (first | exact Below.refl _ _ | assumption | refine bl_alloc ?_ _ | refine bl_drewN ?_ _ | refine bl_drew ?_ | refine bl_call ?_ (by assumption) | (refine bl_setCell ?_ _ (Nat.le_refl _)) | (refine bl_setCell ?_ _ (by simp)))))⟩
theorem wkE_bool (y m d : Int) : (wkE y m d = 0 ∧ thereB y m = true ∧ 1 ≤ d ∧ d ≤ 7 ∧ eomV y m d = eomI y m ∧ eomW y m d = wdI (eomI y m) ∧ 1 ≤ wdI (eomI y m) ∧ wdI (eomI y m) ≤ 7 ∧ 0 ≤ eomI y m ∧ eomI y m < 3068037) ∨ ((wkE y m d == 0) = false ∧ eomV y m d = 0 ∧ eomW y m d = 0) := by
  by_cases e : wkE y m d = 0
  · rcases wk_cases y m d with ⟨h, e', l⟩ | ⟨h, l, e', c⟩ | ⟨h, l, e', c1, c2⟩
    · omega
    · omega
    · obtain ⟨f1, f2, f3, _⟩ := eom_facts y m h
      have b := (isB_iff _).1 f3
      refine .inl ⟨e, h, c1, c2, by unfold eomV; rw [if_pos e], by unfold eomW; rw [if_pos e], ?_, ?_, b.1, b.2⟩ <;> rw [wd_of f3] <;> omega
  · exact .inr ⟨by simpa using e, by unfold eomV; rw [if_neg e], by unfold eomW; rw [if_neg e]⟩
set_option maxHeartbeats 1000000 in
theorem last_any (y m d : Int) (w : World) :
    Calls Try.prog 102 #[.int .i64 y, .int .i64 m, .int .i64 d] w fun e w' => e = .returned (.tuple #[.int .i64 (lastV y m d), .int .i64 (wkE y m d)]) ∧ Below w.heap.size w w' := by
  rcases wkE_bool y m d with ⟨e, _, c1, c2, v, u, u1, u2, b1, b2⟩ | ⟨e, v, u⟩
  · have L := Lib.hid (show lastV y m d = eomI y m - (wdI (eomI y m) - d + 7) % 7 by unfold lastV; rw [if_pos e]; rfl)
    go_enter Try.func102, Try.ntmps102
    go_wp2_with fail
    refine (end_any _ _ _ _).mono ?_
    rintro e w1 ⟨rfl, hb1⟩
    go_wp2_with fail
    go_ret2
    exact ⟨ret_ii (by rw [L.out]; omega) (by first | exact e.symm | rfl | simp [e]), (by repeat (with_reducible (first | exact Below.refl _ _ | assumption | refine bl_alloc ?_ _ | refine bl_drewN ?_ _ | refine bl_drew ?_ | refine bl_call ?_ (by assumption) | (refine bl_setCell ?_ _ (Nat.le_refl _)) | (refine bl_setCell ?_ _ (by simp)))))⟩
  · have L := Lib.hid (show lastV y m d = 0 by unfold lastV; rw [if_neg (by simpa using e)])
    have e' : ¬ wkE y m d = 0 := by simpa using e
    go_enter Try.func102, Try.ntmps102
    go_wp2_with fail
    refine (end_any _ _ _ _).mono ?_
    rintro e w1 ⟨rfl, hb1⟩
    go_wp2_with fail
    go_ret2
    exact ⟨ret_ii L.out.symm rfl, (by repeat (with_reducible (first | exact Below.refl _ _ | assumption | refine bl_alloc ?_ _ | refine bl_drewN ?_ _ | refine bl_drew ?_ | refine bl_call ?_ (by assumption) | (refine bl_setCell ?_ _ (Nat.le_refl _)) | (refine bl_setCell ?_ _ (by simp)))))⟩
set_option maxHeartbeats 1000000 in
theorem near_any (y m d : Int) (w : World) :
    Calls Try.prog 31 #[.int .i64 y, .int .i64 m, .int .i64 d] w fun e w' => e = .returned (.tuple #[.int .i64 (nearV y m d), .int .i64 (nearE y m d)]) ∧ Below w.heap.size w w' := by
  rcases wkE_bool y m d with ⟨e, _, c1, c2, v, u, u1, u2, b1, b2⟩ | ⟨e, v, u⟩
  · have L := Lib.hid (show nearV y m d = addI (eomI y m) (nearK y m d) by unfold nearV; rw [if_pos e])
    have K := Lib.hid (show nearE y m d = dateE (addOk (eomI y m) (nearK y m d)) by unfold nearE; rw [if_pos e])
    have N := Lib.hid (show nearK y m d = (d - wdI (eomI y m) + 10) % 7 - 3 from rfl)
    have nb : In (nearK y m d) := by unfold nearK In; omega
    go_enter Try.func31, Try.ntmps31
    go_wp2_with fail
    refine (end_any _ _ _ _).mono ?_
    rintro e w1 ⟨rfl, hb1⟩
    go_wp2_with fail
    have e2 : (d - wdI (eomI y m) + 7 + 3) % 7 - 3 = nearK y m d := by rw [N.out, Int.add_assoc]; rfl
    first
      | rw [e2]
      | go_goals
    refine (add_any _ _ _ nb).mono ?_
    rintro e w2 ⟨rfl, rfl⟩
    go_wp2
    go_ret2
    exact ⟨ret_ii L.out.symm K.out.symm, (by repeat (with_reducible (first | exact Below.refl _ _ | assumption | refine bl_alloc ?_ _ | refine bl_drewN ?_ _ | refine bl_drew ?_ | refine bl_call ?_ (by assumption) | (refine bl_setCell ?_ _ (Nat.le_refl _)) | (refine bl_setCell ?_ _ (by simp)))))⟩
  · have L := Lib.hid (show nearV y m d = 0 by unfold nearV; rw [if_neg (by simpa using e)])
    have K := Lib.hid (show nearE y m d = wkE y m d by unfold nearE; rw [if_neg (by simpa using e)])
    have e' : ¬ wkE y m d = 0 := by simpa using e
    go_enter Try.func31, Try.ntmps31
    go_wp2_with fail
    refine (end_any _ _ _ _).mono ?_
    rintro e w1 ⟨rfl, hb1⟩
    go_wp2_with fail
    go_ret2
    exact ⟨ret_ii L.out.symm K.out.symm, (by repeat (with_reducible (first | exact Below.refl _ _ | assumption | refine bl_alloc ?_ _ | refine bl_drewN ?_ _ | refine bl_drew ?_ | refine bl_call ?_ (by assumption) | (refine bl_setCell ?_ _ (Nat.le_refl _)) | (refine bl_setCell ?_ _ (by simp)))))⟩
end Go.Proofs.Yteppoghpfcmhhaa
