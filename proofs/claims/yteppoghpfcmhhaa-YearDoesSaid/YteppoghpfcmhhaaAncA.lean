/- Contracts of the package anchor: the rules. -/
import Derived.Test.YteppoghpfcmhhaaFieldI
import Derived.Test.YteppoghpfcmhhaaMathI
namespace Go.Proofs.Yteppoghpfcmhhaa
set_option linter.unusedVariables false
set_option linter.unusedSimpArgs false
open Go.RowKit
/-- a calendar's rule as a value -/
def ruleV (c : CalI) : Value := if c.kind = 1 ∨ c.kind = 4 then .iface 66 (.agg #[.int .i64 c.month, .int .i64 c.day]) else if c.kind = 6 then .iface 67 (.int .i64 c.month) else .iface 68 (.agg #[.int .i64 c.month, .int .i64 c.day])
set_option maxHeartbeats 400000 in
theorem aruled_any (c : CalI) (w : World) :
    Calls Try.prog 42 #[calA c] w fun e w' => e = .returned (ruleV c) ∧ Below w.heap.size w w' := by
  by_cases h1 : c.kind = 1 ∨ c.kind = 4
  · have T := Lib.hid (show ruleV c = .iface 66 (.agg #[.int .i64 c.month, .int .i64 c.day]) by unfold ruleV; rw [if_pos h1])
    rcases h1 with h | h
    all_goals
      go_enter Try.func42, Try.ntmps42
      go_wp2
      go_ret
      exact ⟨congrArg Ending.returned T.out.symm, (by repeat (with_reducible (first | exact Below.refl _ _ | assumption | refine bl_alloc ?_ _ | refine bl_drewN ?_ _ | refine bl_drew ?_ | refine bl_call ?_ (by assumption) | (refine bl_setCell ?_ _ (Nat.le_refl _)) | (refine bl_setCell ?_ _ (by simp)))))⟩
  by_cases h6 : c.kind = 6
  · have T := Lib.hid (show ruleV c = .iface 67 (.int .i64 c.month) by unfold ruleV; rw [if_neg h1, if_pos h6])
    clear h1
    go_enter Try.func42, Try.ntmps42
    go_wp2
    go_ret
    exact ⟨congrArg Ending.returned T.out.symm, (by repeat (with_reducible (first | exact Below.refl _ _ | assumption | refine bl_alloc ?_ _ | refine bl_drewN ?_ _ | refine bl_drew ?_ | refine bl_call ?_ (by assumption) | (refine bl_setCell ?_ _ (Nat.le_refl _)) | (refine bl_setCell ?_ _ (by simp)))))⟩
  · have T := Lib.hid (show ruleV c = .iface 68 (.agg #[.int .i64 c.month, .int .i64 c.day]) by unfold ruleV; rw [if_neg h1, if_neg h6])
    have b1 : (c.kind == 1) = false := by simp; omega
    have b4 : (c.kind == 4) = false := by simp; omega
    have b6 : (c.kind == 6) = false := by simp; omega
    clear h1 h6
    go_enter Try.func42, Try.ntmps42
    go_wp2
    go_ret
    exact ⟨congrArg Ending.returned T.out.symm, (by repeat (with_reducible (first | exact Below.refl _ _ | assumption | refine bl_alloc ?_ _ | refine bl_drewN ?_ _ | refine bl_drew ?_ | refine bl_call ?_ (by assumption) | (refine bl_setCell ?_ _ (Nat.le_refl _)) | (refine bl_setCell ?_ _ (by simp)))))⟩
set_option maxHeartbeats 400000 in
theorem lastend_any (m d y : Int) (w : World) :
    Calls Try.prog 101 #[.agg #[.int .i64 m, .int .i64 d], .int .i64 y] w fun e w' => e = .returned (.tuple #[.int .i64 (lastV y m d), .int .i64 (wkE y m d)]) ∧ Below w.heap.size w w' := by
  go_enter Try.func101, Try.ntmps101
  go_wp2_with fail
  refine (last_any _ _ _ _).mono ?_
  rintro e w1 ⟨rfl, hb1⟩
  go_wp2
  go_ret2
  exact ⟨rfl, (by repeat (with_reducible (first | exact Below.refl _ _ | assumption | refine bl_alloc ?_ _ | refine bl_drewN ?_ _ | refine bl_drew ?_ | refine bl_call ?_ (by assumption) | (refine bl_setCell ?_ _ (Nat.le_refl _)) | (refine bl_setCell ?_ _ (by simp)))))⟩
set_option maxHeartbeats 400000 in
theorem nearend_any (m d y : Int) (w : World) :
    Calls Try.prog 104 #[.agg #[.int .i64 m, .int .i64 d], .int .i64 y] w fun e w' => e = .returned (.tuple #[.int .i64 (nearV y m d), .int .i64 (nearE y m d)]) ∧ Below w.heap.size w w' := by
  go_enter Try.func104, Try.ntmps104
  go_wp2_with fail
  refine (near_any _ _ _ _).mono ?_
  rintro e w1 ⟨rfl, hb1⟩
  go_wp2
  go_ret2
  exact ⟨rfl, (by repeat (with_reducible (first | exact Below.refl _ _ | assumption | refine bl_alloc ?_ _ | refine bl_drewN ?_ _ | refine bl_drew ?_ | refine bl_call ?_ (by assumption) | (refine bl_setCell ?_ _ (Nat.le_refl _)) | (refine bl_setCell ?_ _ (by simp)))))⟩
set_option maxHeartbeats 400000 in
theorem monthend_any (m y n : Int) (w : World) (h1 : lenV y m = n) (h2 : dateE (thereB y m) = 0) :
    Calls Try.prog 103 #[.int .i64 m, .int .i64 y] w fun e w' => e = .returned (.tuple #[.int .i64 (dayV y m n), .int .i64 (dateE (validB y m n))]) ∧ Below w.heap.size w w' := by
  have c := length_any y m
  rw [h1, h2] at c
  have C := Lib.hid c
  clear h1 h2 c
  go_enter Try.func103, Try.ntmps103
  go_wp2_with fail
  refine (C.out _).mono ?_
  rintro e w1 ⟨rfl, hb1⟩
  go_wp2_with fail
  refine (day_any _ _ _ _).mono ?_
  rintro e w2 ⟨rfl, hb2⟩
  go_wp2
  go_ret2
  exact ⟨rfl, (by repeat (with_reducible (first | exact Below.refl _ _ | assumption | refine bl_alloc ?_ _ | refine bl_drewN ?_ _ | refine bl_drew ?_ | refine bl_call ?_ (by assumption) | (refine bl_setCell ?_ _ (Nat.le_refl _)) | (refine bl_setCell ?_ _ (by simp)))))⟩
/-- why a year, from one on, is not told -/
def tellE (c : CalI) (y f : Int) : Int := if calB c = true then (if f ≤ y ∧ y ≤ 9997 then 0 else 11) else 1
theorem tell_ways (c : CalI) (y f : Int) : (calB c = true ∧ f ≤ y ∧ y ≤ 9997 ∧ tellE c y f = 0) ∨ (calB c = true ∧ y < f ∧ tellE c y f = 11) ∨ (calB c = true ∧ f ≤ y ∧ 9997 < y ∧ tellE c y f = 11) ∨ (calB c = false ∧ tellE c y f = 1) := by
  unfold tellE
  rcases Bool.eq_false_or_eq_true (calB c) with h | h
  · rw [if_pos h]
    by_cases h1 : f ≤ y ∧ y ≤ 9997
    · exact .inl ⟨h, h1.1, h1.2, by rw [if_pos h1]⟩
    · rw [if_neg h1]
      by_cases h2 : y < f
      · exact .inr (.inl ⟨h, h2, rfl⟩)
      · exact .inr (.inr (.inl ⟨h, by omega, by omega, rfl⟩))
  · rw [if_neg (by simp [h])]; exact .inr (.inr (.inr ⟨h, rfl⟩))
set_option maxHeartbeats 1000000 in
theorem asked_any (c : CalI) (y f : Int) (w : World) (hs : c.name.size ≤ maxLen) :
    Calls Try.prog 41 #[calA c, .int .i64 y, .int .i64 f] w fun e w' => e = .returned (.int .i64 (tellE c y f)) ∧ Below w.heap.size w w' := by
  have C := fcheck_any c
  rcases tell_ways c y f with ⟨h, h1, h2, h3⟩ | ⟨h, h1, h3⟩ | ⟨h, h1, h2, h3⟩ | ⟨h, h3⟩
  all_goals
    rw [h] at C
    have C := Lib.hid (fun w => C w hs)
    have T := Lib.hid h3
    clear h h3
    go_enter Try.func41, Try.ntmps41
    go_wp2_with fail
    refine (C.out _).mono ?_
    rintro e w1 ⟨rfl, hb1⟩
    go_wp2
    go_ret
    exact ⟨ret_i T.out.symm, (by repeat (with_reducible (first | exact Below.refl _ _ | assumption | refine bl_alloc ?_ _ | refine bl_drewN ?_ _ | refine bl_drew ?_ | refine bl_call ?_ (by assumption) | (refine bl_setCell ?_ _ (Nat.le_refl _)) | (refine bl_setCell ?_ _ (by simp)))))⟩
end Go.Proofs.Yteppoghpfcmhhaa
