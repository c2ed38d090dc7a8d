/- Contracts of the package field: the rule, and whether a calendar may be. -/
import Derived.Test.YteppoghpfcmhhaaFieldE
namespace Go.Proofs.Yteppoghpfcmhhaa
set_option linter.unusedVariables false
set_option linter.unusedSimpArgs false
open Go.RowKit
/-- a calendar whose end says all -/
abbrev fixV (a : List Int) (n : ByteArray) (f l p : Int) : Value := .agg #[.string n, .int .i64 (a.getD 0 0), .int .i64 (a.getD 1 0), .int .i64 (a.getD 2 0), .int .i64 (a.getD 3 0), .int .i64 (a.getD 4 0), .int .i64 (a.getD 5 0), .int .i64 (a.getD 6 0), .int .i64 (a.getD 7 0), .int .i64 (a.getD 8 0), .int .i64 (a.getD 9 0), .int .i64 f, .int .i64 l, .int .i64 p]
set_option maxHeartbeats 400000 in
theorem fixed_3 (w : World) :
    Calls Try.prog 73 #[.int .i64 3] w fun e w' => e = .returned (.tuple #[.agg #[.string ByteArray.empty, .int .i64 3, .int .i64 6, .int .i64 1, .int .i64 1, .int .i64 1, .int .i64 4, .int .i64 5, .int .i64 4, .int .i64 0, .int .i64 12, .int .i64 0, .int .i64 0, .int .i64 0], .bool true]) ∧ Below w.heap.size w w' := by
  go_enter Try.func73, Try.ntmps73
  go_wp2
  exact bodyPost_ret (v := .tuple #[.agg #[.string ByteArray.empty, .int .i64 3, .int .i64 6, .int .i64 1, .int .i64 1, .int .i64 1, .int .i64 4, .int .i64 5, .int .i64 4, .int .i64 0, .int .i64 12, .int .i64 0, .int .i64 0, .int .i64 0], .bool true]) (by simp [results, Try.results73, go_sem]; rfl) rfl ⟨rfl, (by repeat (with_reducible (first | exact Below.refl _ _ | assumption | refine bl_alloc ?_ _ | refine bl_drewN ?_ _ | refine bl_drew ?_ | refine bl_call ?_ (by assumption) | (refine bl_setCell ?_ _ (Nat.le_refl _)) | (refine bl_setCell ?_ _ (by simp)))))⟩
set_option maxHeartbeats 400000 in
theorem fixed_4 (w : World) :
    Calls Try.prog 73 #[.int .i64 4] w fun e w' => e = .returned (.tuple #[.agg #[.string ByteArray.empty, .int .i64 4, .int .i64 7, .int .i64 12, .int .i64 0, .int .i64 4, .int .i64 0, .int .i64 0, .int .i64 0, .int .i64 0, .int .i64 12, .int .i64 0, .int .i64 0, .int .i64 0], .bool true]) ∧ Below w.heap.size w w' := by
  go_enter Try.func73, Try.ntmps73
  go_wp2
  exact bodyPost_ret (v := .tuple #[.agg #[.string ByteArray.empty, .int .i64 4, .int .i64 7, .int .i64 12, .int .i64 0, .int .i64 4, .int .i64 0, .int .i64 0, .int .i64 0, .int .i64 0, .int .i64 12, .int .i64 0, .int .i64 0, .int .i64 0], .bool true]) (by simp [results, Try.results73, go_sem]; rfl) rfl ⟨rfl, (by repeat (with_reducible (first | exact Below.refl _ _ | assumption | refine bl_alloc ?_ _ | refine bl_drewN ?_ _ | refine bl_drew ?_ | refine bl_call ?_ (by assumption) | (refine bl_setCell ?_ _ (Nat.le_refl _)) | (refine bl_setCell ?_ _ (by simp)))))⟩
set_option maxHeartbeats 400000 in
theorem fixed_else (k : Int) (w : World) (h3 : (k == 3) = false) (h4 : (k == 4) = false) :
    Calls Try.prog 73 #[.int .i64 k] w fun e w' => e = .returned (.tuple #[.agg #[.string ByteArray.empty, .int .i64 0, .int .i64 0, .int .i64 0, .int .i64 0, .int .i64 0, .int .i64 0, .int .i64 0, .int .i64 0, .int .i64 0, .int .i64 0, .int .i64 0, .int .i64 0, .int .i64 0], .bool false]) ∧ Below w.heap.size w w' := by
  go_enter Try.func73, Try.ntmps73
  go_wp2
  exact bodyPost_ret (v := .tuple #[.agg #[.string ByteArray.empty, .int .i64 0, .int .i64 0, .int .i64 0, .int .i64 0, .int .i64 0, .int .i64 0, .int .i64 0, .int .i64 0, .int .i64 0, .int .i64 0, .int .i64 0, .int .i64 0, .int .i64 0], .bool false]) (by simp [results, Try.results73, go_sem]; rfl) rfl ⟨rfl, (by repeat (with_reducible (first | exact Below.refl _ _ | assumption | refine bl_alloc ?_ _ | refine bl_drewN ?_ _ | refine bl_drew ?_ | refine bl_call ?_ (by assumption) | (refine bl_setCell ?_ _ (Nat.le_refl _)) | (refine bl_setCell ?_ _ (by simp)))))⟩
end Go.Proofs.Yteppoghpfcmhhaa
