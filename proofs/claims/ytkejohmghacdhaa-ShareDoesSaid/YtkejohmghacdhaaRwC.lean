/- Contracts of the reference's chapter 2: digits compared. -/
import Derived.Test.YtkejohmghacdhaaRwB
import Derived.Deep.QuietTactic
namespace Go.Proofs.Ytkejohmghacdhaa
set_option linter.unusedVariables false
set_option linter.unusedSimpArgs false
open Go.RowKit
abbrev digA (n : Int) : Value := .agg #[.int .u64 (dg n 0), .int .u64 (dg n 1), .int .u64 (dg n 2), .int .u64 (dg n 3), .int .u64 (dg n 4), .int .u64 (dg n 5), .int .u64 (dg n 6), .int .u64 (dg n 7)]
theorem cmpI_lt {n m : Int} (h : n < m) : cmpI n m = -1 := by unfold cmpI; rw [if_pos h]
theorem cmpI_gt {n m : Int} (h : m < n) : cmpI n m = 1 := by unfold cmpI; rw [if_neg (by omega), if_pos h]
theorem cmpI_eq {n m : Int} (h : n = m) : cmpI n m = 0 := by unfold cmpI; rw [if_neg (by omega), if_neg (by omega)]
set_option maxRecDepth 100000 in
set_option maxHeartbeats 2000000 in
theorem rcmp_any (n m : Int) (w : World) (hn : 0 ≤ n) (hn1 : n < 340282366920938463463374607431768211456) (hm : 0 ≤ m) (hm1 : m < 340282366920938463463374607431768211456) :
    Calls Try.prog 66 #[digA n, digA m] w fun e w' => e = .returned (.int .i64 (cmpI n m)) ∧ Below w.heap.size w w' := by
  have T := Lib.hid (show n / pw 8 = m / pw 8 by rw [top0 hn hn1, top0 hm hm1])
  have HN := Lib.hid hn
  have HM := Lib.hid hm
  clear hn hn1 hm hm1
  go_enter Try.func66, Try.ntmps66
  go_wp2
  go_loopw [5] (fun i wr => Below w.heap.size w wr ∧ w.heap.size + 1 < wr.heap.size ∧ Digs wr w.heap.size 0 (dg n) ∧ Digs wr (w.heap.size + 1) 0 (dg m) ∧ ((∃ k : Nat, k < 8 ∧ i = .int .i64 k ∧ n / pw (k + 1) = m / pw (k + 1)) ∨ (i = .int .i64 (-1) ∧ n / pw 0 = m / pw 0))) (fun i _ => (intOf i + 1).toNat)
  case atStart =>
    refine ⟨(by repeat (with_reducible (first | exact Below.refl _ _ | assumption | refine bl_alloc ?_ _ | refine bl_drewN ?_ _ | refine bl_drew ?_ | refine bl_call ?_ (by assumption) | (refine bl_setCell ?_ _ (Nat.le_refl _)) | (refine bl_setCell ?_ _ (by simp))))), by simp, ?_, ?_, .inl ⟨7, by omega, rfl, T.out⟩⟩
    · intro j hj; rcases lt8 hj with rfl | rfl | rfl | rfl | rfl | rfl | rfl | rfl <;> simp
    · intro j hj; rcases lt8 hj with rfl | rfl | rfl | rfl | rfl | rfl | rfl | rfl <;> simp
  case round =>
    obtain ⟨hbr, hz, da, db, ⟨k, hk, rfl, hq⟩ | ⟨rfl, hq⟩⟩ := hrel
    · obtain ⟨s1, s2, s3⟩ := cmp_step HN.out HM.out k hk hq
      have HQ := Lib.hid hq
      have c1 := da k hk
      have c2 := db k hk
      rw [Nat.zero_add] at c1 c2
      have DA := Lib.hid da
      have DB := Lib.hid db
      have HB := Lib.hid hbr
      have hk' : (k : Int) < 8 := by omega
      clear hq da db hbr
      by_cases h1 : dg n k < dg m k
      · have S := Lib.hid (s1 h1)
        clear s1 s2 s3
        go_wp2_with fail
        go_quiet (fail)
        go_wp2
        go_ret
        exact ⟨ret_i (cmpI_lt S.out).symm, bl_drewN HB.out _⟩
      · by_cases h2 : dg m k < dg n k
        · have S := Lib.hid (s2 h2)
          clear s1 s2 s3
          go_wp2_with fail
          go_quiet (fail)
          go_wp2_with fail
          go_quiet (fail)
          go_wp2
          go_ret
          exact ⟨ret_i (cmpI_gt S.out).symm, bl_drewN (bl_drewN HB.out _) _⟩
        · have S := Lib.hid (s3 h1 h2)
          clear s1 s2 s3
          go_wp2_with fail
          go_quiet (fail)
          go_wp2_with fail
          go_quiet (fail)
          go_wp2
          go_roundw
          case rel =>
            refine ⟨bl_drewN HB.out _, by simpa using hz, fun j hj => DA.out j hj, fun j hj => DB.out j hj, ?_⟩
            by_cases e : k = 0
            · subst e; exact .inr ⟨by go_num, S.out⟩
            · exact .inl ⟨k - 1, by omega, by go_num, by rw [show k - 1 + 1 = k by omega]; exact S.out⟩
          case measure => simp [intOf]
    · have S := Lib.hid (show n = m by simpa [pw] using hq)
      clear hq
      go_wp2
      go_ret
      exact ⟨ret_i (cmpI_eq S.out).symm, (by repeat (with_reducible (first | exact Below.refl _ _ | assumption | refine bl_alloc ?_ _ | refine bl_drewN ?_ _ | refine bl_drew ?_ | refine bl_call ?_ (by assumption) | (refine bl_setCell ?_ _ (Nat.le_refl _)) | (refine bl_setCell ?_ _ (by simp)))))⟩
end Go.Proofs.Ytkejohmghacdhaa
