/- Contract of the reference's chapter 11: whether a calendar may be (kinds 3, 4, 6). -/
import Derived.Test.YteppoghpfcmhhaaFieldK
namespace Go.Proofs.Yteppoghpfcmhhaa
set_option linter.unusedVariables false
set_option linter.unusedSimpArgs false
open Go.RowKit
set_option maxRecDepth 100000 in
set_option maxHeartbeats 8000000 in
theorem rcheck_3 (c : CalI) (w : World) (hs : c.name.size ≤ maxLen) (hk : nameB c.name = true ∧ 1602 ≤ c.first ∧ c.last ≤ 9996 ∧ c.first ≤ c.last ∧ c.last - c.first < 400 ∧ 1 ≤ c.policy ∧ c.policy ≤ 4 ∧ ((c.policy == 4) == (c.kind == 6)) = true) (h : c.kind = 3) :
    Calls Try.prog 43 #[calA c] w fun e w' => e = .returned (.int .i64 (argE (calB c))) ∧ Below w.heap.size w w' := by
  obtain ⟨n, s1, s2, s3, s4, p1, p2, q⟩ := hk
  have T := Lib.hid (cal_any c (cal_3 c h))
  have Hn := Lib.hid n
  have Hs1 := Lib.hid (show decide (1602 ≤ c.first) = true by simpa using s1)
  have Hs2 := Lib.hid (show decide (c.last ≤ 9996) = true by simpa using s2)
  have Hs3 := Lib.hid (show decide (c.first ≤ c.last) = true by simpa using s3)
  have Hs4 := Lib.hid (show decide (c.last - c.first < 400) = true by simpa using s4)
  have Hp1 := Lib.hid (show decide (1 ≤ c.policy) = true by simpa using p1)
  have Hp2 := Lib.hid (show decide (c.policy ≤ 4) = true by simpa using p2)
  have Hq := Lib.hid q
  have q1 : (c.policy == 4) = false := by have e : (c.kind == 6) = false := (by simp; omega); rw [e] at q; simpa using q
  clear q
  have CE := @run_calEq
  rcases Bool.eq_false_or_eq_true (calEqB ⟨#[]⟩ ⟨#[]⟩ 3 c.day c.month c.shift c.shape c.p0 c.p1 c.p2 c.cycle c.extra 0 0 0 3 6 1 1 1 4 5 4 0 12 0 0 0) with e | e
  · have He := Lib.hid e
    go_enter Try.func43, Try.ntmps43
    go_wp2_with (go_at_call 63; refine (rname_any _ _ hs).mono ?_; rintro e w' ⟨rfl, rfl⟩)
    go_ret
    exact ⟨ret_i (by rw [T.out, Hs1.out, Hs2.out, Hs3.out, Hs4.out, Hp1.out, Hp2.out, Hq.out, Hn.out, He.out]; first | rfl | simp [argE]), (by repeat (with_reducible (first | exact Below.refl _ _ | assumption | refine bl_alloc ?_ _ | refine bl_drewN ?_ _ | refine bl_drew ?_ | refine bl_call ?_ (by assumption) | (refine bl_setCell ?_ _ (Nat.le_refl _)) | (refine bl_setCell ?_ _ (by simp)))))⟩
  · have He := Lib.hid e
    go_enter Try.func43, Try.ntmps43
    go_wp2_with (go_at_call 63; refine (rname_any _ _ hs).mono ?_; rintro e w' ⟨rfl, rfl⟩)
    go_ret
    exact ⟨ret_i (by rw [T.out, Hs1.out, Hs2.out, Hs3.out, Hs4.out, Hp1.out, Hp2.out, Hq.out, Hn.out, He.out]; first | rfl | simp [argE]), (by repeat (with_reducible (first | exact Below.refl _ _ | assumption | refine bl_alloc ?_ _ | refine bl_drewN ?_ _ | refine bl_drew ?_ | refine bl_call ?_ (by assumption) | (refine bl_setCell ?_ _ (Nat.le_refl _)) | (refine bl_setCell ?_ _ (by simp)))))⟩
set_option maxRecDepth 100000 in
set_option maxHeartbeats 8000000 in
theorem rcheck_4 (c : CalI) (w : World) (hs : c.name.size ≤ maxLen) (hk : nameB c.name = true ∧ 1602 ≤ c.first ∧ c.last ≤ 9996 ∧ c.first ≤ c.last ∧ c.last - c.first < 400 ∧ 1 ≤ c.policy ∧ c.policy ≤ 4 ∧ ((c.policy == 4) == (c.kind == 6)) = true) (h : c.kind = 4) :
    Calls Try.prog 43 #[calA c] w fun e w' => e = .returned (.int .i64 (argE (calB c))) ∧ Below w.heap.size w w' := by
  obtain ⟨n, s1, s2, s3, s4, p1, p2, q⟩ := hk
  have T := Lib.hid (cal_any c (cal_4 c h))
  have Hn := Lib.hid n
  have Hs1 := Lib.hid (show decide (1602 ≤ c.first) = true by simpa using s1)
  have Hs2 := Lib.hid (show decide (c.last ≤ 9996) = true by simpa using s2)
  have Hs3 := Lib.hid (show decide (c.first ≤ c.last) = true by simpa using s3)
  have Hs4 := Lib.hid (show decide (c.last - c.first < 400) = true by simpa using s4)
  have Hp1 := Lib.hid (show decide (1 ≤ c.policy) = true by simpa using p1)
  have Hp2 := Lib.hid (show decide (c.policy ≤ 4) = true by simpa using p2)
  have Hq := Lib.hid q
  have q1 : (c.policy == 4) = false := by have e : (c.kind == 6) = false := (by simp; omega); rw [e] at q; simpa using q
  clear q
  have CE := @run_calEq
  rcases Bool.eq_false_or_eq_true (calEqB ⟨#[]⟩ ⟨#[]⟩ 4 c.day c.month c.shift c.shape c.p0 c.p1 c.p2 c.cycle c.extra 0 0 0 4 7 12 0 4 0 0 0 0 12 0 0 0) with e | e
  · have He := Lib.hid e
    go_enter Try.func43, Try.ntmps43
    go_wp2_with (go_at_call 63; refine (rname_any _ _ hs).mono ?_; rintro e w' ⟨rfl, rfl⟩)
    go_ret
    exact ⟨ret_i (by rw [T.out, Hs1.out, Hs2.out, Hs3.out, Hs4.out, Hp1.out, Hp2.out, Hq.out, Hn.out, He.out]; first | rfl | simp [argE]), (by repeat (with_reducible (first | exact Below.refl _ _ | assumption | refine bl_alloc ?_ _ | refine bl_drewN ?_ _ | refine bl_drew ?_ | refine bl_call ?_ (by assumption) | (refine bl_setCell ?_ _ (Nat.le_refl _)) | (refine bl_setCell ?_ _ (by simp)))))⟩
  · have He := Lib.hid e
    go_enter Try.func43, Try.ntmps43
    go_wp2_with (go_at_call 63; refine (rname_any _ _ hs).mono ?_; rintro e w' ⟨rfl, rfl⟩)
    go_ret
    exact ⟨ret_i (by rw [T.out, Hs1.out, Hs2.out, Hs3.out, Hs4.out, Hp1.out, Hp2.out, Hq.out, Hn.out, He.out]; first | rfl | simp [argE]), (by repeat (with_reducible (first | exact Below.refl _ _ | assumption | refine bl_alloc ?_ _ | refine bl_drewN ?_ _ | refine bl_drew ?_ | refine bl_call ?_ (by assumption) | (refine bl_setCell ?_ _ (Nat.le_refl _)) | (refine bl_setCell ?_ _ (by simp)))))⟩
set_option maxRecDepth 100000 in
set_option maxHeartbeats 8000000 in
theorem rcheck_6 (c : CalI) (w : World) (hs : c.name.size ≤ maxLen) (hk : nameB c.name = true ∧ 1602 ≤ c.first ∧ c.last ≤ 9996 ∧ c.first ≤ c.last ∧ c.last - c.first < 400 ∧ 1 ≤ c.policy ∧ c.policy ≤ 4 ∧ ((c.policy == 4) == (c.kind == 6)) = true) (h : c.kind = 6) :
    Calls Try.prog 43 #[calA c] w fun e w' => e = .returned (.int .i64 (argE (calB c))) ∧ Below w.heap.size w w' := by
  obtain ⟨n, s1, s2, s3, s4, p1, p2, q⟩ := hk
  have T := Lib.hid (cal_any c (cal_6 c h))
  have Hn := Lib.hid n
  have Hs1 := Lib.hid (show decide (1602 ≤ c.first) = true by simpa using s1)
  have Hs2 := Lib.hid (show decide (c.last ≤ 9996) = true by simpa using s2)
  have Hs3 := Lib.hid (show decide (c.first ≤ c.last) = true by simpa using s3)
  have Hs4 := Lib.hid (show decide (c.last - c.first < 400) = true by simpa using s4)
  have Hp1 := Lib.hid (show decide (1 ≤ c.policy) = true by simpa using p1)
  have Hp2 := Lib.hid (show decide (c.policy ≤ 4) = true by simpa using p2)
  have Hq := Lib.hid q
  have q1 : (c.policy == 4) = true := by rw [h] at q; simpa using q
  clear q
  have CE := @run_calEq
  by_cases m1 : 1 ≤ c.month
  · have Hm1 := Lib.hid (show decide (1 ≤ c.month) = true by simpa using m1)
    by_cases m2 : c.month ≤ 12
    · have Hm2 := Lib.hid (show decide (c.month ≤ 12) = true by simpa using m2)
      rcases Bool.eq_false_or_eq_true (c.shift == 0) with z0 | z0
      · have Hz0 := Lib.hid z0
        rcases Bool.eq_false_or_eq_true (calEqB ⟨#[]⟩ ⟨#[]⟩ 6 c.day c.month c.shift c.shape c.p0 c.p1 c.p2 c.cycle c.extra 0 0 0 6 0 c.month c.shift 5 0 0 0 0 0 0 0 0) with e | e
        · have He := Lib.hid e
          go_enter Try.func43, Try.ntmps43
          go_wp2_with (go_at_call 63; refine (rname_any _ _ hs).mono ?_; rintro e w' ⟨rfl, rfl⟩)
          go_ret
          exact ⟨ret_i (by rw [T.out, Hs1.out, Hs2.out, Hs3.out, Hs4.out, Hp1.out, Hp2.out, Hq.out, Hn.out, Hm1.out, Hm2.out, Hz0.out, He.out]; first | rfl | simp [argE]), (by repeat (with_reducible (first | exact Below.refl _ _ | assumption | refine bl_alloc ?_ _ | refine bl_drewN ?_ _ | refine bl_drew ?_ | refine bl_call ?_ (by assumption) | (refine bl_setCell ?_ _ (Nat.le_refl _)) | (refine bl_setCell ?_ _ (by simp)))))⟩
        · have He := Lib.hid e
          go_enter Try.func43, Try.ntmps43
          go_wp2_with (go_at_call 63; refine (rname_any _ _ hs).mono ?_; rintro e w' ⟨rfl, rfl⟩)
          go_ret
          exact ⟨ret_i (by rw [T.out, Hs1.out, Hs2.out, Hs3.out, Hs4.out, Hp1.out, Hp2.out, Hq.out, Hn.out, Hm1.out, Hm2.out, Hz0.out, He.out]; first | rfl | simp [argE]), (by repeat (with_reducible (first | exact Below.refl _ _ | assumption | refine bl_alloc ?_ _ | refine bl_drewN ?_ _ | refine bl_drew ?_ | refine bl_call ?_ (by assumption) | (refine bl_setCell ?_ _ (Nat.le_refl _)) | (refine bl_setCell ?_ _ (by simp)))))⟩
      · have Hz0 := Lib.hid z0
        rcases Bool.eq_false_or_eq_true (c.shift == 1) with z1 | z1
        · have Hz1 := Lib.hid z1
          rcases Bool.eq_false_or_eq_true (calEqB ⟨#[]⟩ ⟨#[]⟩ 6 c.day c.month c.shift c.shape c.p0 c.p1 c.p2 c.cycle c.extra 0 0 0 6 0 c.month c.shift 5 0 0 0 0 0 0 0 0) with e | e
          · have He := Lib.hid e
            go_enter Try.func43, Try.ntmps43
            go_wp2_with (go_at_call 63; refine (rname_any _ _ hs).mono ?_; rintro e w' ⟨rfl, rfl⟩)
            go_ret
            exact ⟨ret_i (by rw [T.out, Hs1.out, Hs2.out, Hs3.out, Hs4.out, Hp1.out, Hp2.out, Hq.out, Hn.out, Hm1.out, Hm2.out, Hz0.out, Hz1.out, He.out]; first | rfl | simp [argE]), (by repeat (with_reducible (first | exact Below.refl _ _ | assumption | refine bl_alloc ?_ _ | refine bl_drewN ?_ _ | refine bl_drew ?_ | refine bl_call ?_ (by assumption) | (refine bl_setCell ?_ _ (Nat.le_refl _)) | (refine bl_setCell ?_ _ (by simp)))))⟩
          · have He := Lib.hid e
            go_enter Try.func43, Try.ntmps43
            go_wp2_with (go_at_call 63; refine (rname_any _ _ hs).mono ?_; rintro e w' ⟨rfl, rfl⟩)
            go_ret
            exact ⟨ret_i (by rw [T.out, Hs1.out, Hs2.out, Hs3.out, Hs4.out, Hp1.out, Hp2.out, Hq.out, Hn.out, Hm1.out, Hm2.out, Hz0.out, Hz1.out, He.out]; first | rfl | simp [argE]), (by repeat (with_reducible (first | exact Below.refl _ _ | assumption | refine bl_alloc ?_ _ | refine bl_drewN ?_ _ | refine bl_drew ?_ | refine bl_call ?_ (by assumption) | (refine bl_setCell ?_ _ (Nat.le_refl _)) | (refine bl_setCell ?_ _ (by simp)))))⟩
        · have Hz1 := Lib.hid z1
          go_enter Try.func43, Try.ntmps43
          go_wp2_with (go_at_call 63; refine (rname_any _ _ hs).mono ?_; rintro e w' ⟨rfl, rfl⟩)
          go_ret
          exact ⟨ret_i (by rw [T.out, Hs1.out, Hs2.out, Hs3.out, Hs4.out, Hp1.out, Hp2.out, Hq.out, Hn.out, Hm1.out, Hm2.out, Hz0.out, Hz1.out]; first | rfl | simp [argE]), (by repeat (with_reducible (first | exact Below.refl _ _ | assumption | refine bl_alloc ?_ _ | refine bl_drewN ?_ _ | refine bl_drew ?_ | refine bl_call ?_ (by assumption) | (refine bl_setCell ?_ _ (Nat.le_refl _)) | (refine bl_setCell ?_ _ (by simp)))))⟩
    · have Hm2 := Lib.hid (show decide (c.month ≤ 12) = false by simpa using m2)
      have Xm2 := Hm2.out
      go_enter Try.func43, Try.ntmps43
      go_wp2_with (go_at_call 63; refine (rname_any _ _ hs).mono ?_; rintro e w' ⟨rfl, rfl⟩)
      go_ret
      exact ⟨ret_i (by rw [T.out, Hs1.out, Hs2.out, Hs3.out, Hs4.out, Hp1.out, Hp2.out, Hq.out, Hn.out, Hm1.out, Hm2.out]; first | rfl | simp [argE]), (by repeat (with_reducible (first | exact Below.refl _ _ | assumption | refine bl_alloc ?_ _ | refine bl_drewN ?_ _ | refine bl_drew ?_ | refine bl_call ?_ (by assumption) | (refine bl_setCell ?_ _ (Nat.le_refl _)) | (refine bl_setCell ?_ _ (by simp)))))⟩
  · have Hm1 := Lib.hid (show decide (1 ≤ c.month) = false by simpa using m1)
    have Xm1 := Hm1.out
    go_enter Try.func43, Try.ntmps43
    go_wp2_with (go_at_call 63; refine (rname_any _ _ hs).mono ?_; rintro e w' ⟨rfl, rfl⟩)
    go_ret
    exact ⟨ret_i (by rw [T.out, Hs1.out, Hs2.out, Hs3.out, Hs4.out, Hp1.out, Hp2.out, Hq.out, Hn.out, Hm1.out]; first | rfl | simp [argE]), (by repeat (with_reducible (first | exact Below.refl _ _ | assumption | refine bl_alloc ?_ _ | refine bl_drewN ?_ _ | refine bl_drew ?_ | refine bl_call ?_ (by assumption) | (refine bl_setCell ?_ _ (Nat.le_refl _)) | (refine bl_setCell ?_ _ (by simp)))))⟩
set_option maxRecDepth 100000 in
set_option maxHeartbeats 8000000 in
theorem rcheck_e (c : CalI) (w : World) (hs : c.name.size ≤ maxLen) (hk : nameB c.name = true ∧ 1602 ≤ c.first ∧ c.last ≤ 9996 ∧ c.first ≤ c.last ∧ c.last - c.first < 400 ∧ 1 ≤ c.policy ∧ c.policy ≤ 4 ∧ ((c.policy == 4) == (c.kind == 6)) = true) (h : c.kind < 1 ∨ 6 < c.kind) :
    Calls Try.prog 43 #[calA c] w fun e w' => e = .returned (.int .i64 (argE (calB c))) ∧ Below w.heap.size w w' := by
  obtain ⟨n, s1, s2, s3, s4, p1, p2, q⟩ := hk
  have T := Lib.hid (cal_any c (cal_e c h))
  have Hn := Lib.hid n
  have Hs1 := Lib.hid (show decide (1602 ≤ c.first) = true by simpa using s1)
  have Hs2 := Lib.hid (show decide (c.last ≤ 9996) = true by simpa using s2)
  have Hs3 := Lib.hid (show decide (c.first ≤ c.last) = true by simpa using s3)
  have Hs4 := Lib.hid (show decide (c.last - c.first < 400) = true by simpa using s4)
  have Hp1 := Lib.hid (show decide (1 ≤ c.policy) = true by simpa using p1)
  have Hp2 := Lib.hid (show decide (c.policy ≤ 4) = true by simpa using p2)
  have Hq := Lib.hid q
  have q1 : (c.policy == 4) = false := by have e : (c.kind == 6) = false := (by simp; omega); rw [e] at q; simpa using q
  clear q
  have k1 : (c.kind == 1) = false := by simp; omega
  have k2 : (c.kind == 2) = false := by simp; omega
  have k3 : (c.kind == 3) = false := by simp; omega
  have k4 : (c.kind == 4) = false := by simp; omega
  have k5 : (c.kind == 5) = false := by simp; omega
  have k6 : (c.kind == 6) = false := by simp; omega
  clear h
  go_enter Try.func43, Try.ntmps43
  go_wp2_with (go_at_call 63; refine (rname_any _ _ hs).mono ?_; rintro e w' ⟨rfl, rfl⟩)
  go_ret
  exact ⟨ret_i (by rw [T.out, Hs1.out, Hs2.out, Hs3.out, Hs4.out, Hp1.out, Hp2.out, Hq.out, Hn.out]; first | rfl | simp [argE]), (by repeat (with_reducible (first | exact Below.refl _ _ | assumption | refine bl_alloc ?_ _ | refine bl_drewN ?_ _ | refine bl_drew ?_ | refine bl_call ?_ (by assumption) | (refine bl_setCell ?_ _ (Nat.le_refl _)) | (refine bl_setCell ?_ _ (by simp)))))⟩
end Go.Proofs.Yteppoghpfcmhhaa
