/- Contract of the reference's chapter 11: whether a calendar may be (kind 2). -/
import Derived.Test.YteppoghpfcmhhaaFieldK
namespace Go.Proofs.Yteppoghpfcmhhaa
set_option linter.unusedVariables false
set_option linter.unusedSimpArgs false
open Go.RowKit
set_option maxRecDepth 100000 in
set_option maxHeartbeats 8000000 in
theorem rcheck_2a (c : CalI) (w : World) (hs : c.name.size ≤ maxLen) (hk : nameB c.name = true ∧ 1602 ≤ c.first ∧ c.last ≤ 9996 ∧ c.first ≤ c.last ∧ c.last - c.first < 400 ∧ 1 ≤ c.policy ∧ c.policy ≤ 4 ∧ ((c.policy == 4) == (c.kind == 6)) = true) (h : c.kind = 2) (hn : ¬ (1 ≤ c.day ∧ c.day ≤ 7 ∧ 1 ≤ c.month ∧ c.month ≤ 12 ∧ ((c.shift == 0) || (c.shift == 1)) = true)) :
    Calls Try.prog 43 #[calA c] w fun e w' => e = .returned (.int .i64 (argE (calB c))) ∧ Below w.heap.size w w' := by
  obtain ⟨n, s1, s2, s3, s4, p1, p2, q⟩ := hk
  have T := Lib.hid (cal_any c (cal_12 c (.inr h)))
  have Hn := Lib.hid n
  have Hs1 := Lib.hid (show decide (1602 ≤ c.first) = true by simpa using s1)
  have Hs2 := Lib.hid (show decide (c.last ≤ 9996) = true by simpa using s2)
  have Hs3 := Lib.hid (show decide (c.first ≤ c.last) = true by simpa using s3)
  have Hs4 := Lib.hid (show decide (c.last - c.first < 400) = true by simpa using s4)
  have Hp1 := Lib.hid (show decide (1 ≤ c.policy) = true by simpa using p1)
  have Hp2 := Lib.hid (show decide (c.policy ≤ 4) = true by simpa using p2)
  have Hq := Lib.hid q
  have q1 : (c.policy == 4) = false := by have e : (c.kind == 6) = false := (by simp; omega); rw [e] at q; simpa using q
  clear q
  have k1 : (c.kind == 1) = false := by simp; omega
  have k2 : (c.kind == 2) = true := by simp; omega
  have k3 : (c.kind == 3) = false := by simp; omega
  have k4 : (c.kind == 4) = false := by simp; omega
  have k5 : (c.kind == 5) = false := by simp; omega
  have k6 : (c.kind == 6) = false := by simp; omega
  clear h
  by_cases d1 : 1 ≤ c.day
  · have Hd1 := Lib.hid (show decide (1 ≤ c.day) = true by simpa using d1)
    by_cases d2 : c.day ≤ 7
    · have Hd2 := Lib.hid (show decide (c.day ≤ 7) = true by simpa using d2)
      by_cases m1 : 1 ≤ c.month
      · have Hm1 := Lib.hid (show decide (1 ≤ c.month) = true by simpa using m1)
        by_cases m2 : c.month ≤ 12
        · have Hm2 := Lib.hid (show decide (c.month ≤ 12) = true by simpa using m2)
          have z0 : (c.shift == 0) = false := by rw [← Bool.not_eq_true]; intro z; exact hn ⟨d1, d2, m1, m2, by simp [z]⟩
          have z1 : (c.shift == 1) = false := by rw [← Bool.not_eq_true]; intro z; exact hn ⟨d1, d2, m1, m2, by simp [z]⟩
          have Hz0 := Lib.hid z0
          have Hz1 := Lib.hid z1
          clear hn
          go_enter Try.func43, Try.ntmps43
          go_wp2_with (go_at_call 63; refine (rname_any _ _ hs).mono ?_; rintro e w' ⟨rfl, rfl⟩)
          refine region_qb (fun W => W.cell? ⟨w.heap.size, 0, none⟩ = some (.string c.name) ∧ W.cell? ⟨w.heap.size, 1, none⟩ = some (.int .i64 c.kind) ∧ W.cell? ⟨w.heap.size, 2, none⟩ = some (.int .i64 c.day) ∧ W.cell? ⟨w.heap.size, 3, none⟩ = some (.int .i64 c.month) ∧ W.cell? ⟨w.heap.size, 4, none⟩ = some (.int .i64 c.shift) ∧ W.cell? ⟨w.heap.size, 5, none⟩ = some (.int .i64 c.shape) ∧ W.cell? ⟨w.heap.size, 6, none⟩ = some (.int .i64 c.p0) ∧ W.cell? ⟨w.heap.size, 7, none⟩ = some (.int .i64 c.p1) ∧ W.cell? ⟨w.heap.size, 8, none⟩ = some (.int .i64 c.p2) ∧ W.cell? ⟨w.heap.size, 9, none⟩ = some (.int .i64 c.cycle) ∧ W.cell? ⟨w.heap.size, 10, none⟩ = some (.int .i64 c.extra) ∧ W.cell? ⟨w.heap.size, 11, none⟩ = some (.int .i64 c.first) ∧ W.cell? ⟨w.heap.size, 12, none⟩ = some (.int .i64 c.last) ∧ W.cell? ⟨w.heap.size, 13, none⟩ = some (.int .i64 c.policy) ∧ Below w.heap.size w W) ⟨by go_simp, by go_simp, by go_simp, by go_simp, by go_simp, by go_simp, by go_simp, by go_simp, by go_simp, by go_simp, by go_simp, by go_simp, by go_simp, by go_simp, (by repeat (with_reducible (first | exact Below.refl _ _ | assumption | refine bl_alloc ?_ _ | refine bl_drewN ?_ _ | refine bl_drew ?_ | refine bl_call ?_ (by assumption) | (refine bl_setCell ?_ _ (Nat.le_refl _)) | (refine bl_setCell ?_ _ (by simp)))))⟩ (by kernel_rfl) (by kernel_rfl) ?_
          intro W ⟨k0, k1, k2, k3, k4, k5, k6, k7, k8, k9, k10, k11, k12, k13, hbW⟩
          replace k0 := rcell k0
          replace k1 := rcell k1
          replace k2 := rcell k2
          replace k3 := rcell k3
          replace k4 := rcell k4
          replace k5 := rcell k5
          replace k6 := rcell k6
          replace k7 := rcell k7
          replace k8 := rcell k8
          replace k9 := rcell k9
          replace k10 := rcell k10
          replace k11 := rcell k11
          replace k12 := rcell k12
          replace k13 := rcell k13
          repeat (first | go_big_quiet_step (first | exact Calls.regrown_of (shaped_any c _) | exact Calls.regrown_of (rmany_any c _)) | quiet_step (first | exact Calls.regrown_of (shaped_any c _) | exact Calls.regrown_of (rmany_any c _)))
          refine wpQuiet_nil ?_
          intro w9 hb9
          clear k0 k1 k2 k3 k4 k5 k6 k7 k8 k9 k10 k11 k12 k13
          go_wp2
          go_ret
          exact ⟨ret_i (by rw [T.out, Hs1.out, Hs2.out, Hs3.out, Hs4.out, Hp1.out, Hp2.out, Hq.out, Hn.out, Hd1.out, Hd2.out, Hm1.out, Hm2.out, Hz0.out, Hz1.out]; first | rfl | simp [argE]), bl_call hbW hb9⟩
        · have Hm2 := Lib.hid (show decide (c.month ≤ 12) = false by simpa using m2)
          have Xm2 := Hm2.out
          clear hn
          go_enter Try.func43, Try.ntmps43
          go_wp2_with (go_at_call 63; refine (rname_any _ _ hs).mono ?_; rintro e w' ⟨rfl, rfl⟩)
          refine region_qb (fun W => W.cell? ⟨w.heap.size, 0, none⟩ = some (.string c.name) ∧ W.cell? ⟨w.heap.size, 1, none⟩ = some (.int .i64 c.kind) ∧ W.cell? ⟨w.heap.size, 2, none⟩ = some (.int .i64 c.day) ∧ W.cell? ⟨w.heap.size, 3, none⟩ = some (.int .i64 c.month) ∧ W.cell? ⟨w.heap.size, 4, none⟩ = some (.int .i64 c.shift) ∧ W.cell? ⟨w.heap.size, 5, none⟩ = some (.int .i64 c.shape) ∧ W.cell? ⟨w.heap.size, 6, none⟩ = some (.int .i64 c.p0) ∧ W.cell? ⟨w.heap.size, 7, none⟩ = some (.int .i64 c.p1) ∧ W.cell? ⟨w.heap.size, 8, none⟩ = some (.int .i64 c.p2) ∧ W.cell? ⟨w.heap.size, 9, none⟩ = some (.int .i64 c.cycle) ∧ W.cell? ⟨w.heap.size, 10, none⟩ = some (.int .i64 c.extra) ∧ W.cell? ⟨w.heap.size, 11, none⟩ = some (.int .i64 c.first) ∧ W.cell? ⟨w.heap.size, 12, none⟩ = some (.int .i64 c.last) ∧ W.cell? ⟨w.heap.size, 13, none⟩ = some (.int .i64 c.policy) ∧ Below w.heap.size w W) ⟨by go_simp, by go_simp, by go_simp, by go_simp, by go_simp, by go_simp, by go_simp, by go_simp, by go_simp, by go_simp, by go_simp, by go_simp, by go_simp, by go_simp, (by repeat (with_reducible (first | exact Below.refl _ _ | assumption | refine bl_alloc ?_ _ | refine bl_drewN ?_ _ | refine bl_drew ?_ | refine bl_call ?_ (by assumption) | (refine bl_setCell ?_ _ (Nat.le_refl _)) | (refine bl_setCell ?_ _ (by simp)))))⟩ (by kernel_rfl) (by kernel_rfl) ?_
          intro W ⟨k0, k1, k2, k3, k4, k5, k6, k7, k8, k9, k10, k11, k12, k13, hbW⟩
          replace k0 := rcell k0
          replace k1 := rcell k1
          replace k2 := rcell k2
          replace k3 := rcell k3
          replace k4 := rcell k4
          replace k5 := rcell k5
          replace k6 := rcell k6
          replace k7 := rcell k7
          replace k8 := rcell k8
          replace k9 := rcell k9
          replace k10 := rcell k10
          replace k11 := rcell k11
          replace k12 := rcell k12
          replace k13 := rcell k13
          repeat (first | go_big_quiet_step (first | exact Calls.regrown_of (shaped_any c _) | exact Calls.regrown_of (rmany_any c _)) | quiet_step (first | exact Calls.regrown_of (shaped_any c _) | exact Calls.regrown_of (rmany_any c _)))
          refine wpQuiet_nil ?_
          intro w9 hb9
          clear k0 k1 k2 k3 k4 k5 k6 k7 k8 k9 k10 k11 k12 k13
          go_wp2
          go_ret
          exact ⟨ret_i (by rw [T.out, Hs1.out, Hs2.out, Hs3.out, Hs4.out, Hp1.out, Hp2.out, Hq.out, Hn.out, Hd1.out, Hd2.out, Hm1.out, Hm2.out]; first | rfl | simp [argE]), bl_call hbW hb9⟩
      · have Hm1 := Lib.hid (show decide (1 ≤ c.month) = false by simpa using m1)
        have Xm1 := Hm1.out
        clear hn
        go_enter Try.func43, Try.ntmps43
        go_wp2_with (go_at_call 63; refine (rname_any _ _ hs).mono ?_; rintro e w' ⟨rfl, rfl⟩)
        refine region_qb (fun W => W.cell? ⟨w.heap.size, 0, none⟩ = some (.string c.name) ∧ W.cell? ⟨w.heap.size, 1, none⟩ = some (.int .i64 c.kind) ∧ W.cell? ⟨w.heap.size, 2, none⟩ = some (.int .i64 c.day) ∧ W.cell? ⟨w.heap.size, 3, none⟩ = some (.int .i64 c.month) ∧ W.cell? ⟨w.heap.size, 4, none⟩ = some (.int .i64 c.shift) ∧ W.cell? ⟨w.heap.size, 5, none⟩ = some (.int .i64 c.shape) ∧ W.cell? ⟨w.heap.size, 6, none⟩ = some (.int .i64 c.p0) ∧ W.cell? ⟨w.heap.size, 7, none⟩ = some (.int .i64 c.p1) ∧ W.cell? ⟨w.heap.size, 8, none⟩ = some (.int .i64 c.p2) ∧ W.cell? ⟨w.heap.size, 9, none⟩ = some (.int .i64 c.cycle) ∧ W.cell? ⟨w.heap.size, 10, none⟩ = some (.int .i64 c.extra) ∧ W.cell? ⟨w.heap.size, 11, none⟩ = some (.int .i64 c.first) ∧ W.cell? ⟨w.heap.size, 12, none⟩ = some (.int .i64 c.last) ∧ W.cell? ⟨w.heap.size, 13, none⟩ = some (.int .i64 c.policy) ∧ Below w.heap.size w W) ⟨by go_simp, by go_simp, by go_simp, by go_simp, by go_simp, by go_simp, by go_simp, by go_simp, by go_simp, by go_simp, by go_simp, by go_simp, by go_simp, by go_simp, (by repeat (with_reducible (first | exact Below.refl _ _ | assumption | refine bl_alloc ?_ _ | refine bl_drewN ?_ _ | refine bl_drew ?_ | refine bl_call ?_ (by assumption) | (refine bl_setCell ?_ _ (Nat.le_refl _)) | (refine bl_setCell ?_ _ (by simp)))))⟩ (by kernel_rfl) (by kernel_rfl) ?_
        intro W ⟨k0, k1, k2, k3, k4, k5, k6, k7, k8, k9, k10, k11, k12, k13, hbW⟩
        replace k0 := rcell k0
        replace k1 := rcell k1
        replace k2 := rcell k2
        replace k3 := rcell k3
        replace k4 := rcell k4
        replace k5 := rcell k5
        replace k6 := rcell k6
        replace k7 := rcell k7
        replace k8 := rcell k8
        replace k9 := rcell k9
        replace k10 := rcell k10
        replace k11 := rcell k11
        replace k12 := rcell k12
        replace k13 := rcell k13
        repeat (first | go_big_quiet_step (first | exact Calls.regrown_of (shaped_any c _) | exact Calls.regrown_of (rmany_any c _)) | quiet_step (first | exact Calls.regrown_of (shaped_any c _) | exact Calls.regrown_of (rmany_any c _)))
        refine wpQuiet_nil ?_
        intro w9 hb9
        clear k0 k1 k2 k3 k4 k5 k6 k7 k8 k9 k10 k11 k12 k13
        go_wp2
        go_ret
        exact ⟨ret_i (by rw [T.out, Hs1.out, Hs2.out, Hs3.out, Hs4.out, Hp1.out, Hp2.out, Hq.out, Hn.out, Hd1.out, Hd2.out, Hm1.out]; first | rfl | simp [argE]), bl_call hbW hb9⟩
    · have Hd2 := Lib.hid (show decide (c.day ≤ 7) = false by simpa using d2)
      have Xd2 := Hd2.out
      clear hn
      go_enter Try.func43, Try.ntmps43
      go_wp2_with (go_at_call 63; refine (rname_any _ _ hs).mono ?_; rintro e w' ⟨rfl, rfl⟩)
      refine region_qb (fun W => W.cell? ⟨w.heap.size, 0, none⟩ = some (.string c.name) ∧ W.cell? ⟨w.heap.size, 1, none⟩ = some (.int .i64 c.kind) ∧ W.cell? ⟨w.heap.size, 2, none⟩ = some (.int .i64 c.day) ∧ W.cell? ⟨w.heap.size, 3, none⟩ = some (.int .i64 c.month) ∧ W.cell? ⟨w.heap.size, 4, none⟩ = some (.int .i64 c.shift) ∧ W.cell? ⟨w.heap.size, 5, none⟩ = some (.int .i64 c.shape) ∧ W.cell? ⟨w.heap.size, 6, none⟩ = some (.int .i64 c.p0) ∧ W.cell? ⟨w.heap.size, 7, none⟩ = some (.int .i64 c.p1) ∧ W.cell? ⟨w.heap.size, 8, none⟩ = some (.int .i64 c.p2) ∧ W.cell? ⟨w.heap.size, 9, none⟩ = some (.int .i64 c.cycle) ∧ W.cell? ⟨w.heap.size, 10, none⟩ = some (.int .i64 c.extra) ∧ W.cell? ⟨w.heap.size, 11, none⟩ = some (.int .i64 c.first) ∧ W.cell? ⟨w.heap.size, 12, none⟩ = some (.int .i64 c.last) ∧ W.cell? ⟨w.heap.size, 13, none⟩ = some (.int .i64 c.policy) ∧ Below w.heap.size w W) ⟨by go_simp, by go_simp, by go_simp, by go_simp, by go_simp, by go_simp, by go_simp, by go_simp, by go_simp, by go_simp, by go_simp, by go_simp, by go_simp, by go_simp, (by repeat (with_reducible (first | exact Below.refl _ _ | assumption | refine bl_alloc ?_ _ | refine bl_drewN ?_ _ | refine bl_drew ?_ | refine bl_call ?_ (by assumption) | (refine bl_setCell ?_ _ (Nat.le_refl _)) | (refine bl_setCell ?_ _ (by simp)))))⟩ (by kernel_rfl) (by kernel_rfl) ?_
      intro W ⟨k0, k1, k2, k3, k4, k5, k6, k7, k8, k9, k10, k11, k12, k13, hbW⟩
      replace k0 := rcell k0
      replace k1 := rcell k1
      replace k2 := rcell k2
      replace k3 := rcell k3
      replace k4 := rcell k4
      replace k5 := rcell k5
      replace k6 := rcell k6
      replace k7 := rcell k7
      replace k8 := rcell k8
      replace k9 := rcell k9
      replace k10 := rcell k10
      replace k11 := rcell k11
      replace k12 := rcell k12
      replace k13 := rcell k13
      repeat (first | go_big_quiet_step (first | exact Calls.regrown_of (shaped_any c _) | exact Calls.regrown_of (rmany_any c _)) | quiet_step (first | exact Calls.regrown_of (shaped_any c _) | exact Calls.regrown_of (rmany_any c _)))
      refine wpQuiet_nil ?_
      intro w9 hb9
      clear k0 k1 k2 k3 k4 k5 k6 k7 k8 k9 k10 k11 k12 k13
      go_wp2
      go_ret
      exact ⟨ret_i (by rw [T.out, Hs1.out, Hs2.out, Hs3.out, Hs4.out, Hp1.out, Hp2.out, Hq.out, Hn.out, Hd1.out, Hd2.out]; first | rfl | simp [argE]), bl_call hbW hb9⟩
  · have Hd1 := Lib.hid (show decide (1 ≤ c.day) = false by simpa using d1)
    have Xd1 := Hd1.out
    clear hn
    go_enter Try.func43, Try.ntmps43
    go_wp2_with (go_at_call 63; refine (rname_any _ _ hs).mono ?_; rintro e w' ⟨rfl, rfl⟩)
    refine region_qb (fun W => W.cell? ⟨w.heap.size, 0, none⟩ = some (.string c.name) ∧ W.cell? ⟨w.heap.size, 1, none⟩ = some (.int .i64 c.kind) ∧ W.cell? ⟨w.heap.size, 2, none⟩ = some (.int .i64 c.day) ∧ W.cell? ⟨w.heap.size, 3, none⟩ = some (.int .i64 c.month) ∧ W.cell? ⟨w.heap.size, 4, none⟩ = some (.int .i64 c.shift) ∧ W.cell? ⟨w.heap.size, 5, none⟩ = some (.int .i64 c.shape) ∧ W.cell? ⟨w.heap.size, 6, none⟩ = some (.int .i64 c.p0) ∧ W.cell? ⟨w.heap.size, 7, none⟩ = some (.int .i64 c.p1) ∧ W.cell? ⟨w.heap.size, 8, none⟩ = some (.int .i64 c.p2) ∧ W.cell? ⟨w.heap.size, 9, none⟩ = some (.int .i64 c.cycle) ∧ W.cell? ⟨w.heap.size, 10, none⟩ = some (.int .i64 c.extra) ∧ W.cell? ⟨w.heap.size, 11, none⟩ = some (.int .i64 c.first) ∧ W.cell? ⟨w.heap.size, 12, none⟩ = some (.int .i64 c.last) ∧ W.cell? ⟨w.heap.size, 13, none⟩ = some (.int .i64 c.policy) ∧ Below w.heap.size w W) ⟨by go_simp, by go_simp, by go_simp, by go_simp, by go_simp, by go_simp, by go_simp, by go_simp, by go_simp, by go_simp, by go_simp, by go_simp, by go_simp, by go_simp, (by repeat (with_reducible (first | exact Below.refl _ _ | assumption | refine bl_alloc ?_ _ | refine bl_drewN ?_ _ | refine bl_drew ?_ | refine bl_call ?_ (by assumption) | (refine bl_setCell ?_ _ (Nat.le_refl _)) | (refine bl_setCell ?_ _ (by simp)))))⟩ (by kernel_rfl) (by kernel_rfl) ?_
    intro W ⟨k0, k1, k2, k3, k4, k5, k6, k7, k8, k9, k10, k11, k12, k13, hbW⟩
    replace k0 := rcell k0
    replace k1 := rcell k1
    replace k2 := rcell k2
    replace k3 := rcell k3
    replace k4 := rcell k4
    replace k5 := rcell k5
    replace k6 := rcell k6
    replace k7 := rcell k7
    replace k8 := rcell k8
    replace k9 := rcell k9
    replace k10 := rcell k10
    replace k11 := rcell k11
    replace k12 := rcell k12
    replace k13 := rcell k13
    repeat (first | go_big_quiet_step (first | exact Calls.regrown_of (shaped_any c _) | exact Calls.regrown_of (rmany_any c _)) | quiet_step (first | exact Calls.regrown_of (shaped_any c _) | exact Calls.regrown_of (rmany_any c _)))
    refine wpQuiet_nil ?_
    intro w9 hb9
    clear k0 k1 k2 k3 k4 k5 k6 k7 k8 k9 k10 k11 k12 k13
    go_wp2
    go_ret
    exact ⟨ret_i (by rw [T.out, Hs1.out, Hs2.out, Hs3.out, Hs4.out, Hp1.out, Hp2.out, Hq.out, Hn.out, Hd1.out]; first | rfl | simp [argE]), bl_call hbW hb9⟩
set_option maxRecDepth 100000 in
set_option maxHeartbeats 8000000 in
theorem rcheck_2b (c : CalI) (w : World) (hs : c.name.size ≤ maxLen) (hk : nameB c.name = true ∧ 1602 ≤ c.first ∧ c.last ≤ 9996 ∧ c.first ≤ c.last ∧ c.last - c.first < 400 ∧ 1 ≤ c.policy ∧ c.policy ≤ 4 ∧ ((c.policy == 4) == (c.kind == 6)) = true) (h : c.kind = 2) (hp : 1 ≤ c.day ∧ c.day ≤ 7 ∧ 1 ≤ c.month ∧ c.month ≤ 12) (z0 : (c.shift == 0) = true) :
    Calls Try.prog 43 #[calA c] w fun e w' => e = .returned (.int .i64 (argE (calB c))) ∧ Below w.heap.size w w' := by
  obtain ⟨n, s1, s2, s3, s4, p1, p2, q⟩ := hk
  have T := Lib.hid (cal_any c (cal_12 c (.inr h)))
  have Hn := Lib.hid n
  have Hs1 := Lib.hid (show decide (1602 ≤ c.first) = true by simpa using s1)
  have Hs2 := Lib.hid (show decide (c.last ≤ 9996) = true by simpa using s2)
  have Hs3 := Lib.hid (show decide (c.first ≤ c.last) = true by simpa using s3)
  have Hs4 := Lib.hid (show decide (c.last - c.first < 400) = true by simpa using s4)
  have Hp1 := Lib.hid (show decide (1 ≤ c.policy) = true by simpa using p1)
  have Hp2 := Lib.hid (show decide (c.policy ≤ 4) = true by simpa using p2)
  have Hq := Lib.hid q
  have q1 : (c.policy == 4) = false := by have e : (c.kind == 6) = false := (by simp; omega); rw [e] at q; simpa using q
  clear q
  have k1 : (c.kind == 1) = false := by simp; omega
  have k2 : (c.kind == 2) = true := by simp; omega
  have k3 : (c.kind == 3) = false := by simp; omega
  have k4 : (c.kind == 4) = false := by simp; omega
  have k5 : (c.kind == 5) = false := by simp; omega
  have k6 : (c.kind == 6) = false := by simp; omega
  clear h
  obtain ⟨d1, d2, m1, m2⟩ := hp
  have Hd1 := Lib.hid (show decide (1 ≤ c.day) = true by simpa using d1)
  have Hd2 := Lib.hid (show decide (c.day ≤ 7) = true by simpa using d2)
  have Hm1 := Lib.hid (show decide (1 ≤ c.month) = true by simpa using m1)
  have Hm2 := Lib.hid (show decide (c.month ≤ 12) = true by simpa using m2)
  have Hz0 := Lib.hid z0
  rcases Bool.eq_false_or_eq_true (shapedB c) with sh | sh
  · have Hsh := Lib.hid sh
    by_cases e1 : 1 ≤ c.extra
    · have He1 := Lib.hid (show decide (1 ≤ c.extra) = true by simpa using e1)
      by_cases e2 : c.extra ≤ many11 c
      · have He2 := Lib.hid (show decide (c.extra ≤ many11 c) = true by simpa using e2)
        go_enter Try.func43, Try.ntmps43
        go_wp2_with (go_at_call 63; refine (rname_any _ _ hs).mono ?_; rintro e w' ⟨rfl, rfl⟩)
        refine region_qb (fun W => W.cell? ⟨w.heap.size, 0, none⟩ = some (.string c.name) ∧ W.cell? ⟨w.heap.size, 1, none⟩ = some (.int .i64 c.kind) ∧ W.cell? ⟨w.heap.size, 2, none⟩ = some (.int .i64 c.day) ∧ W.cell? ⟨w.heap.size, 3, none⟩ = some (.int .i64 c.month) ∧ W.cell? ⟨w.heap.size, 4, none⟩ = some (.int .i64 c.shift) ∧ W.cell? ⟨w.heap.size, 5, none⟩ = some (.int .i64 c.shape) ∧ W.cell? ⟨w.heap.size, 6, none⟩ = some (.int .i64 c.p0) ∧ W.cell? ⟨w.heap.size, 7, none⟩ = some (.int .i64 c.p1) ∧ W.cell? ⟨w.heap.size, 8, none⟩ = some (.int .i64 c.p2) ∧ W.cell? ⟨w.heap.size, 9, none⟩ = some (.int .i64 c.cycle) ∧ W.cell? ⟨w.heap.size, 10, none⟩ = some (.int .i64 c.extra) ∧ W.cell? ⟨w.heap.size, 11, none⟩ = some (.int .i64 c.first) ∧ W.cell? ⟨w.heap.size, 12, none⟩ = some (.int .i64 c.last) ∧ W.cell? ⟨w.heap.size, 13, none⟩ = some (.int .i64 c.policy) ∧ Below w.heap.size w W) ⟨by go_simp, by go_simp, by go_simp, by go_simp, by go_simp, by go_simp, by go_simp, by go_simp, by go_simp, by go_simp, by go_simp, by go_simp, by go_simp, by go_simp, (by repeat (with_reducible (first | exact Below.refl _ _ | assumption | refine bl_alloc ?_ _ | refine bl_drewN ?_ _ | refine bl_drew ?_ | refine bl_call ?_ (by assumption) | (refine bl_setCell ?_ _ (Nat.le_refl _)) | (refine bl_setCell ?_ _ (by simp)))))⟩ (by kernel_rfl) (by kernel_rfl) ?_
        intro W ⟨k0, k1, k2, k3, k4, k5, k6, k7, k8, k9, k10, k11, k12, k13, hbW⟩
        replace k0 := rcell k0
        replace k1 := rcell k1
        replace k2 := rcell k2
        replace k3 := rcell k3
        replace k4 := rcell k4
        replace k5 := rcell k5
        replace k6 := rcell k6
        replace k7 := rcell k7
        replace k8 := rcell k8
        replace k9 := rcell k9
        replace k10 := rcell k10
        replace k11 := rcell k11
        replace k12 := rcell k12
        replace k13 := rcell k13
        repeat (first | go_big_quiet_step (first | exact Calls.regrown_of (shaped_any c _) | exact Calls.regrown_of (rmany_any c _)) | quiet_step (first | exact Calls.regrown_of (shaped_any c _) | exact Calls.regrown_of (rmany_any c _)))
        refine wpQuiet_nil ?_
        intro w9 hb9
        clear k0 k1 k2 k3 k4 k5 k6 k7 k8 k9 k10 k11 k12 k13
        go_wp2
        go_ret
        exact ⟨ret_i (by rw [T.out, Hs1.out, Hs2.out, Hs3.out, Hs4.out, Hp1.out, Hp2.out, Hq.out, Hn.out, Hd1.out, Hd2.out, Hm1.out, Hm2.out, Hz0.out, Hsh.out, He1.out, He2.out]; first | rfl | simp [argE]), bl_call hbW hb9⟩
      · have He2 := Lib.hid (show decide (c.extra ≤ many11 c) = false by simpa using e2)
        have Xe2 := He2.out
        go_enter Try.func43, Try.ntmps43
        go_wp2_with (go_at_call 63; refine (rname_any _ _ hs).mono ?_; rintro e w' ⟨rfl, rfl⟩)
        refine region_qb (fun W => W.cell? ⟨w.heap.size, 0, none⟩ = some (.string c.name) ∧ W.cell? ⟨w.heap.size, 1, none⟩ = some (.int .i64 c.kind) ∧ W.cell? ⟨w.heap.size, 2, none⟩ = some (.int .i64 c.day) ∧ W.cell? ⟨w.heap.size, 3, none⟩ = some (.int .i64 c.month) ∧ W.cell? ⟨w.heap.size, 4, none⟩ = some (.int .i64 c.shift) ∧ W.cell? ⟨w.heap.size, 5, none⟩ = some (.int .i64 c.shape) ∧ W.cell? ⟨w.heap.size, 6, none⟩ = some (.int .i64 c.p0) ∧ W.cell? ⟨w.heap.size, 7, none⟩ = some (.int .i64 c.p1) ∧ W.cell? ⟨w.heap.size, 8, none⟩ = some (.int .i64 c.p2) ∧ W.cell? ⟨w.heap.size, 9, none⟩ = some (.int .i64 c.cycle) ∧ W.cell? ⟨w.heap.size, 10, none⟩ = some (.int .i64 c.extra) ∧ W.cell? ⟨w.heap.size, 11, none⟩ = some (.int .i64 c.first) ∧ W.cell? ⟨w.heap.size, 12, none⟩ = some (.int .i64 c.last) ∧ W.cell? ⟨w.heap.size, 13, none⟩ = some (.int .i64 c.policy) ∧ Below w.heap.size w W) ⟨by go_simp, by go_simp, by go_simp, by go_simp, by go_simp, by go_simp, by go_simp, by go_simp, by go_simp, by go_simp, by go_simp, by go_simp, by go_simp, by go_simp, (by repeat (with_reducible (first | exact Below.refl _ _ | assumption | refine bl_alloc ?_ _ | refine bl_drewN ?_ _ | refine bl_drew ?_ | refine bl_call ?_ (by assumption) | (refine bl_setCell ?_ _ (Nat.le_refl _)) | (refine bl_setCell ?_ _ (by simp)))))⟩ (by kernel_rfl) (by kernel_rfl) ?_
        intro W ⟨k0, k1, k2, k3, k4, k5, k6, k7, k8, k9, k10, k11, k12, k13, hbW⟩
        replace k0 := rcell k0
        replace k1 := rcell k1
        replace k2 := rcell k2
        replace k3 := rcell k3
        replace k4 := rcell k4
        replace k5 := rcell k5
        replace k6 := rcell k6
        replace k7 := rcell k7
        replace k8 := rcell k8
        replace k9 := rcell k9
        replace k10 := rcell k10
        replace k11 := rcell k11
        replace k12 := rcell k12
        replace k13 := rcell k13
        repeat (first | go_big_quiet_step (first | exact Calls.regrown_of (shaped_any c _) | exact Calls.regrown_of (rmany_any c _)) | quiet_step (first | exact Calls.regrown_of (shaped_any c _) | exact Calls.regrown_of (rmany_any c _)))
        refine wpQuiet_nil ?_
        intro w9 hb9
        clear k0 k1 k2 k3 k4 k5 k6 k7 k8 k9 k10 k11 k12 k13
        go_wp2
        go_ret
        exact ⟨ret_i (by rw [T.out, Hs1.out, Hs2.out, Hs3.out, Hs4.out, Hp1.out, Hp2.out, Hq.out, Hn.out, Hd1.out, Hd2.out, Hm1.out, Hm2.out, Hz0.out, Hsh.out, He1.out, He2.out]; first | rfl | simp [argE]), bl_call hbW hb9⟩
    · have He1 := Lib.hid (show decide (1 ≤ c.extra) = false by simpa using e1)
      have Xe1 := He1.out
      go_enter Try.func43, Try.ntmps43
      go_wp2_with (go_at_call 63; refine (rname_any _ _ hs).mono ?_; rintro e w' ⟨rfl, rfl⟩)
      refine region_qb (fun W => W.cell? ⟨w.heap.size, 0, none⟩ = some (.string c.name) ∧ W.cell? ⟨w.heap.size, 1, none⟩ = some (.int .i64 c.kind) ∧ W.cell? ⟨w.heap.size, 2, none⟩ = some (.int .i64 c.day) ∧ W.cell? ⟨w.heap.size, 3, none⟩ = some (.int .i64 c.month) ∧ W.cell? ⟨w.heap.size, 4, none⟩ = some (.int .i64 c.shift) ∧ W.cell? ⟨w.heap.size, 5, none⟩ = some (.int .i64 c.shape) ∧ W.cell? ⟨w.heap.size, 6, none⟩ = some (.int .i64 c.p0) ∧ W.cell? ⟨w.heap.size, 7, none⟩ = some (.int .i64 c.p1) ∧ W.cell? ⟨w.heap.size, 8, none⟩ = some (.int .i64 c.p2) ∧ W.cell? ⟨w.heap.size, 9, none⟩ = some (.int .i64 c.cycle) ∧ W.cell? ⟨w.heap.size, 10, none⟩ = some (.int .i64 c.extra) ∧ W.cell? ⟨w.heap.size, 11, none⟩ = some (.int .i64 c.first) ∧ W.cell? ⟨w.heap.size, 12, none⟩ = some (.int .i64 c.last) ∧ W.cell? ⟨w.heap.size, 13, none⟩ = some (.int .i64 c.policy) ∧ Below w.heap.size w W) ⟨by go_simp, by go_simp, by go_simp, by go_simp, by go_simp, by go_simp, by go_simp, by go_simp, by go_simp, by go_simp, by go_simp, by go_simp, by go_simp, by go_simp, (by repeat (with_reducible (first | exact Below.refl _ _ | assumption | refine bl_alloc ?_ _ | refine bl_drewN ?_ _ | refine bl_drew ?_ | refine bl_call ?_ (by assumption) | (refine bl_setCell ?_ _ (Nat.le_refl _)) | (refine bl_setCell ?_ _ (by simp)))))⟩ (by kernel_rfl) (by kernel_rfl) ?_
      intro W ⟨k0, k1, k2, k3, k4, k5, k6, k7, k8, k9, k10, k11, k12, k13, hbW⟩
      replace k0 := rcell k0
      replace k1 := rcell k1
      replace k2 := rcell k2
      replace k3 := rcell k3
      replace k4 := rcell k4
      replace k5 := rcell k5
      replace k6 := rcell k6
      replace k7 := rcell k7
      replace k8 := rcell k8
      replace k9 := rcell k9
      replace k10 := rcell k10
      replace k11 := rcell k11
      replace k12 := rcell k12
      replace k13 := rcell k13
      repeat (first | go_big_quiet_step (first | exact Calls.regrown_of (shaped_any c _) | exact Calls.regrown_of (rmany_any c _)) | quiet_step (first | exact Calls.regrown_of (shaped_any c _) | exact Calls.regrown_of (rmany_any c _)))
      refine wpQuiet_nil ?_
      intro w9 hb9
      clear k0 k1 k2 k3 k4 k5 k6 k7 k8 k9 k10 k11 k12 k13
      go_wp2
      go_ret
      exact ⟨ret_i (by rw [T.out, Hs1.out, Hs2.out, Hs3.out, Hs4.out, Hp1.out, Hp2.out, Hq.out, Hn.out, Hd1.out, Hd2.out, Hm1.out, Hm2.out, Hz0.out, Hsh.out, He1.out]; first | rfl | simp [argE]), bl_call hbW hb9⟩
  · have Hsh := Lib.hid sh
    go_enter Try.func43, Try.ntmps43
    go_wp2_with (go_at_call 63; refine (rname_any _ _ hs).mono ?_; rintro e w' ⟨rfl, rfl⟩)
    refine region_qb (fun W => W.cell? ⟨w.heap.size, 0, none⟩ = some (.string c.name) ∧ W.cell? ⟨w.heap.size, 1, none⟩ = some (.int .i64 c.kind) ∧ W.cell? ⟨w.heap.size, 2, none⟩ = some (.int .i64 c.day) ∧ W.cell? ⟨w.heap.size, 3, none⟩ = some (.int .i64 c.month) ∧ W.cell? ⟨w.heap.size, 4, none⟩ = some (.int .i64 c.shift) ∧ W.cell? ⟨w.heap.size, 5, none⟩ = some (.int .i64 c.shape) ∧ W.cell? ⟨w.heap.size, 6, none⟩ = some (.int .i64 c.p0) ∧ W.cell? ⟨w.heap.size, 7, none⟩ = some (.int .i64 c.p1) ∧ W.cell? ⟨w.heap.size, 8, none⟩ = some (.int .i64 c.p2) ∧ W.cell? ⟨w.heap.size, 9, none⟩ = some (.int .i64 c.cycle) ∧ W.cell? ⟨w.heap.size, 10, none⟩ = some (.int .i64 c.extra) ∧ W.cell? ⟨w.heap.size, 11, none⟩ = some (.int .i64 c.first) ∧ W.cell? ⟨w.heap.size, 12, none⟩ = some (.int .i64 c.last) ∧ W.cell? ⟨w.heap.size, 13, none⟩ = some (.int .i64 c.policy) ∧ Below w.heap.size w W) ⟨by go_simp, by go_simp, by go_simp, by go_simp, by go_simp, by go_simp, by go_simp, by go_simp, by go_simp, by go_simp, by go_simp, by go_simp, by go_simp, by go_simp, (by repeat (with_reducible (first | exact Below.refl _ _ | assumption | refine bl_alloc ?_ _ | refine bl_drewN ?_ _ | refine bl_drew ?_ | refine bl_call ?_ (by assumption) | (refine bl_setCell ?_ _ (Nat.le_refl _)) | (refine bl_setCell ?_ _ (by simp)))))⟩ (by kernel_rfl) (by kernel_rfl) ?_
    intro W ⟨k0, k1, k2, k3, k4, k5, k6, k7, k8, k9, k10, k11, k12, k13, hbW⟩
    replace k0 := rcell k0
    replace k1 := rcell k1
    replace k2 := rcell k2
    replace k3 := rcell k3
    replace k4 := rcell k4
    replace k5 := rcell k5
    replace k6 := rcell k6
    replace k7 := rcell k7
    replace k8 := rcell k8
    replace k9 := rcell k9
    replace k10 := rcell k10
    replace k11 := rcell k11
    replace k12 := rcell k12
    replace k13 := rcell k13
    repeat (first | go_big_quiet_step (first | exact Calls.regrown_of (shaped_any c _) | exact Calls.regrown_of (rmany_any c _)) | quiet_step (first | exact Calls.regrown_of (shaped_any c _) | exact Calls.regrown_of (rmany_any c _)))
    refine wpQuiet_nil ?_
    intro w9 hb9
    clear k0 k1 k2 k3 k4 k5 k6 k7 k8 k9 k10 k11 k12 k13
    go_wp2
    go_ret
    exact ⟨ret_i (by rw [T.out, Hs1.out, Hs2.out, Hs3.out, Hs4.out, Hp1.out, Hp2.out, Hq.out, Hn.out, Hd1.out, Hd2.out, Hm1.out, Hm2.out, Hz0.out, Hsh.out]; first | rfl | simp [argE]), bl_call hbW hb9⟩
set_option maxRecDepth 100000 in
set_option maxHeartbeats 8000000 in
theorem rcheck_2c (c : CalI) (w : World) (hs : c.name.size ≤ maxLen) (hk : nameB c.name = true ∧ 1602 ≤ c.first ∧ c.last ≤ 9996 ∧ c.first ≤ c.last ∧ c.last - c.first < 400 ∧ 1 ≤ c.policy ∧ c.policy ≤ 4 ∧ ((c.policy == 4) == (c.kind == 6)) = true) (h : c.kind = 2) (hp : 1 ≤ c.day ∧ c.day ≤ 7 ∧ 1 ≤ c.month ∧ c.month ≤ 12) (z0 : (c.shift == 0) = false) (z1 : (c.shift == 1) = true) :
    Calls Try.prog 43 #[calA c] w fun e w' => e = .returned (.int .i64 (argE (calB c))) ∧ Below w.heap.size w w' := by
  obtain ⟨n, s1, s2, s3, s4, p1, p2, q⟩ := hk
  have T := Lib.hid (cal_any c (cal_12 c (.inr h)))
  have Hn := Lib.hid n
  have Hs1 := Lib.hid (show decide (1602 ≤ c.first) = true by simpa using s1)
  have Hs2 := Lib.hid (show decide (c.last ≤ 9996) = true by simpa using s2)
  have Hs3 := Lib.hid (show decide (c.first ≤ c.last) = true by simpa using s3)
  have Hs4 := Lib.hid (show decide (c.last - c.first < 400) = true by simpa using s4)
  have Hp1 := Lib.hid (show decide (1 ≤ c.policy) = true by simpa using p1)
  have Hp2 := Lib.hid (show decide (c.policy ≤ 4) = true by simpa using p2)
  have Hq := Lib.hid q
  have q1 : (c.policy == 4) = false := by have e : (c.kind == 6) = false := (by simp; omega); rw [e] at q; simpa using q
  clear q
  have k1 : (c.kind == 1) = false := by simp; omega
  have k2 : (c.kind == 2) = true := by simp; omega
  have k3 : (c.kind == 3) = false := by simp; omega
  have k4 : (c.kind == 4) = false := by simp; omega
  have k5 : (c.kind == 5) = false := by simp; omega
  have k6 : (c.kind == 6) = false := by simp; omega
  clear h
  obtain ⟨d1, d2, m1, m2⟩ := hp
  have Hd1 := Lib.hid (show decide (1 ≤ c.day) = true by simpa using d1)
  have Hd2 := Lib.hid (show decide (c.day ≤ 7) = true by simpa using d2)
  have Hm1 := Lib.hid (show decide (1 ≤ c.month) = true by simpa using m1)
  have Hm2 := Lib.hid (show decide (c.month ≤ 12) = true by simpa using m2)
  have Hz0 := Lib.hid z0
  have Hz1 := Lib.hid z1
  rcases Bool.eq_false_or_eq_true (shapedB c) with sh | sh
  · have Hsh := Lib.hid sh
    by_cases e1 : 1 ≤ c.extra
    · have He1 := Lib.hid (show decide (1 ≤ c.extra) = true by simpa using e1)
      by_cases e2 : c.extra ≤ many11 c
      · have He2 := Lib.hid (show decide (c.extra ≤ many11 c) = true by simpa using e2)
        go_enter Try.func43, Try.ntmps43
        go_wp2_with (go_at_call 63; refine (rname_any _ _ hs).mono ?_; rintro e w' ⟨rfl, rfl⟩)
        refine region_qb (fun W => W.cell? ⟨w.heap.size, 0, none⟩ = some (.string c.name) ∧ W.cell? ⟨w.heap.size, 1, none⟩ = some (.int .i64 c.kind) ∧ W.cell? ⟨w.heap.size, 2, none⟩ = some (.int .i64 c.day) ∧ W.cell? ⟨w.heap.size, 3, none⟩ = some (.int .i64 c.month) ∧ W.cell? ⟨w.heap.size, 4, none⟩ = some (.int .i64 c.shift) ∧ W.cell? ⟨w.heap.size, 5, none⟩ = some (.int .i64 c.shape) ∧ W.cell? ⟨w.heap.size, 6, none⟩ = some (.int .i64 c.p0) ∧ W.cell? ⟨w.heap.size, 7, none⟩ = some (.int .i64 c.p1) ∧ W.cell? ⟨w.heap.size, 8, none⟩ = some (.int .i64 c.p2) ∧ W.cell? ⟨w.heap.size, 9, none⟩ = some (.int .i64 c.cycle) ∧ W.cell? ⟨w.heap.size, 10, none⟩ = some (.int .i64 c.extra) ∧ W.cell? ⟨w.heap.size, 11, none⟩ = some (.int .i64 c.first) ∧ W.cell? ⟨w.heap.size, 12, none⟩ = some (.int .i64 c.last) ∧ W.cell? ⟨w.heap.size, 13, none⟩ = some (.int .i64 c.policy) ∧ Below w.heap.size w W) ⟨by go_simp, by go_simp, by go_simp, by go_simp, by go_simp, by go_simp, by go_simp, by go_simp, by go_simp, by go_simp, by go_simp, by go_simp, by go_simp, by go_simp, (by repeat (with_reducible (first | exact Below.refl _ _ | assumption | refine bl_alloc ?_ _ | refine bl_drewN ?_ _ | refine bl_drew ?_ | refine bl_call ?_ (by assumption) | (refine bl_setCell ?_ _ (Nat.le_refl _)) | (refine bl_setCell ?_ _ (by simp)))))⟩ (by kernel_rfl) (by kernel_rfl) ?_
        intro W ⟨k0, k1, k2, k3, k4, k5, k6, k7, k8, k9, k10, k11, k12, k13, hbW⟩
        replace k0 := rcell k0
        replace k1 := rcell k1
        replace k2 := rcell k2
        replace k3 := rcell k3
        replace k4 := rcell k4
        replace k5 := rcell k5
        replace k6 := rcell k6
        replace k7 := rcell k7
        replace k8 := rcell k8
        replace k9 := rcell k9
        replace k10 := rcell k10
        replace k11 := rcell k11
        replace k12 := rcell k12
        replace k13 := rcell k13
        repeat (first | go_big_quiet_step (first | exact Calls.regrown_of (shaped_any c _) | exact Calls.regrown_of (rmany_any c _)) | quiet_step (first | exact Calls.regrown_of (shaped_any c _) | exact Calls.regrown_of (rmany_any c _)))
        refine wpQuiet_nil ?_
        intro w9 hb9
        clear k0 k1 k2 k3 k4 k5 k6 k7 k8 k9 k10 k11 k12 k13
        go_wp2
        go_ret
        exact ⟨ret_i (by rw [T.out, Hs1.out, Hs2.out, Hs3.out, Hs4.out, Hp1.out, Hp2.out, Hq.out, Hn.out, Hd1.out, Hd2.out, Hm1.out, Hm2.out, Hz0.out, Hz1.out, Hsh.out, He1.out, He2.out]; first | rfl | simp [argE]), bl_call hbW hb9⟩
      · have He2 := Lib.hid (show decide (c.extra ≤ many11 c) = false by simpa using e2)
        have Xe2 := He2.out
        go_enter Try.func43, Try.ntmps43
        go_wp2_with (go_at_call 63; refine (rname_any _ _ hs).mono ?_; rintro e w' ⟨rfl, rfl⟩)
        refine region_qb (fun W => W.cell? ⟨w.heap.size, 0, none⟩ = some (.string c.name) ∧ W.cell? ⟨w.heap.size, 1, none⟩ = some (.int .i64 c.kind) ∧ W.cell? ⟨w.heap.size, 2, none⟩ = some (.int .i64 c.day) ∧ W.cell? ⟨w.heap.size, 3, none⟩ = some (.int .i64 c.month) ∧ W.cell? ⟨w.heap.size, 4, none⟩ = some (.int .i64 c.shift) ∧ W.cell? ⟨w.heap.size, 5, none⟩ = some (.int .i64 c.shape) ∧ W.cell? ⟨w.heap.size, 6, none⟩ = some (.int .i64 c.p0) ∧ W.cell? ⟨w.heap.size, 7, none⟩ = some (.int .i64 c.p1) ∧ W.cell? ⟨w.heap.size, 8, none⟩ = some (.int .i64 c.p2) ∧ W.cell? ⟨w.heap.size, 9, none⟩ = some (.int .i64 c.cycle) ∧ W.cell? ⟨w.heap.size, 10, none⟩ = some (.int .i64 c.extra) ∧ W.cell? ⟨w.heap.size, 11, none⟩ = some (.int .i64 c.first) ∧ W.cell? ⟨w.heap.size, 12, none⟩ = some (.int .i64 c.last) ∧ W.cell? ⟨w.heap.size, 13, none⟩ = some (.int .i64 c.policy) ∧ Below w.heap.size w W) ⟨by go_simp, by go_simp, by go_simp, by go_simp, by go_simp, by go_simp, by go_simp, by go_simp, by go_simp, by go_simp, by go_simp, by go_simp, by go_simp, by go_simp, (by repeat (with_reducible (first | exact Below.refl _ _ | assumption | refine bl_alloc ?_ _ | refine bl_drewN ?_ _ | refine bl_drew ?_ | refine bl_call ?_ (by assumption) | (refine bl_setCell ?_ _ (Nat.le_refl _)) | (refine bl_setCell ?_ _ (by simp)))))⟩ (by kernel_rfl) (by kernel_rfl) ?_
        intro W ⟨k0, k1, k2, k3, k4, k5, k6, k7, k8, k9, k10, k11, k12, k13, hbW⟩
        replace k0 := rcell k0
        replace k1 := rcell k1
        replace k2 := rcell k2
        replace k3 := rcell k3
        replace k4 := rcell k4
        replace k5 := rcell k5
        replace k6 := rcell k6
        replace k7 := rcell k7
        replace k8 := rcell k8
        replace k9 := rcell k9
        replace k10 := rcell k10
        replace k11 := rcell k11
        replace k12 := rcell k12
        replace k13 := rcell k13
        repeat (first | go_big_quiet_step (first | exact Calls.regrown_of (shaped_any c _) | exact Calls.regrown_of (rmany_any c _)) | quiet_step (first | exact Calls.regrown_of (shaped_any c _) | exact Calls.regrown_of (rmany_any c _)))
        refine wpQuiet_nil ?_
        intro w9 hb9
        clear k0 k1 k2 k3 k4 k5 k6 k7 k8 k9 k10 k11 k12 k13
        go_wp2
        go_ret
        exact ⟨ret_i (by rw [T.out, Hs1.out, Hs2.out, Hs3.out, Hs4.out, Hp1.out, Hp2.out, Hq.out, Hn.out, Hd1.out, Hd2.out, Hm1.out, Hm2.out, Hz0.out, Hz1.out, Hsh.out, He1.out, He2.out]; first | rfl | simp [argE]), bl_call hbW hb9⟩
    · have He1 := Lib.hid (show decide (1 ≤ c.extra) = false by simpa using e1)
      have Xe1 := He1.out
      go_enter Try.func43, Try.ntmps43
      go_wp2_with (go_at_call 63; refine (rname_any _ _ hs).mono ?_; rintro e w' ⟨rfl, rfl⟩)
      refine region_qb (fun W => W.cell? ⟨w.heap.size, 0, none⟩ = some (.string c.name) ∧ W.cell? ⟨w.heap.size, 1, none⟩ = some (.int .i64 c.kind) ∧ W.cell? ⟨w.heap.size, 2, none⟩ = some (.int .i64 c.day) ∧ W.cell? ⟨w.heap.size, 3, none⟩ = some (.int .i64 c.month) ∧ W.cell? ⟨w.heap.size, 4, none⟩ = some (.int .i64 c.shift) ∧ W.cell? ⟨w.heap.size, 5, none⟩ = some (.int .i64 c.shape) ∧ W.cell? ⟨w.heap.size, 6, none⟩ = some (.int .i64 c.p0) ∧ W.cell? ⟨w.heap.size, 7, none⟩ = some (.int .i64 c.p1) ∧ W.cell? ⟨w.heap.size, 8, none⟩ = some (.int .i64 c.p2) ∧ W.cell? ⟨w.heap.size, 9, none⟩ = some (.int .i64 c.cycle) ∧ W.cell? ⟨w.heap.size, 10, none⟩ = some (.int .i64 c.extra) ∧ W.cell? ⟨w.heap.size, 11, none⟩ = some (.int .i64 c.first) ∧ W.cell? ⟨w.heap.size, 12, none⟩ = some (.int .i64 c.last) ∧ W.cell? ⟨w.heap.size, 13, none⟩ = some (.int .i64 c.policy) ∧ Below w.heap.size w W) ⟨by go_simp, by go_simp, by go_simp, by go_simp, by go_simp, by go_simp, by go_simp, by go_simp, by go_simp, by go_simp, by go_simp, by go_simp, by go_simp, by go_simp, (by repeat (with_reducible (first | exact Below.refl _ _ | assumption | refine bl_alloc ?_ _ | refine bl_drewN ?_ _ | refine bl_drew ?_ | refine bl_call ?_ (by assumption) | (refine bl_setCell ?_ _ (Nat.le_refl _)) | (refine bl_setCell ?_ _ (by simp)))))⟩ (by kernel_rfl) (by kernel_rfl) ?_
      intro W ⟨k0, k1, k2, k3, k4, k5, k6, k7, k8, k9, k10, k11, k12, k13, hbW⟩
      replace k0 := rcell k0
      replace k1 := rcell k1
      replace k2 := rcell k2
      replace k3 := rcell k3
      replace k4 := rcell k4
      replace k5 := rcell k5
      replace k6 := rcell k6
      replace k7 := rcell k7
      replace k8 := rcell k8
      replace k9 := rcell k9
      replace k10 := rcell k10
      replace k11 := rcell k11
      replace k12 := rcell k12
      replace k13 := rcell k13
      repeat (first | go_big_quiet_step (first | exact Calls.regrown_of (shaped_any c _) | exact Calls.regrown_of (rmany_any c _)) | quiet_step (first | exact Calls.regrown_of (shaped_any c _) | exact Calls.regrown_of (rmany_any c _)))
      refine wpQuiet_nil ?_
      intro w9 hb9
      clear k0 k1 k2 k3 k4 k5 k6 k7 k8 k9 k10 k11 k12 k13
      go_wp2
      go_ret
      exact ⟨ret_i (by rw [T.out, Hs1.out, Hs2.out, Hs3.out, Hs4.out, Hp1.out, Hp2.out, Hq.out, Hn.out, Hd1.out, Hd2.out, Hm1.out, Hm2.out, Hz0.out, Hz1.out, Hsh.out, He1.out]; first | rfl | simp [argE]), bl_call hbW hb9⟩
  · have Hsh := Lib.hid sh
    go_enter Try.func43, Try.ntmps43
    go_wp2_with (go_at_call 63; refine (rname_any _ _ hs).mono ?_; rintro e w' ⟨rfl, rfl⟩)
    refine region_qb (fun W => W.cell? ⟨w.heap.size, 0, none⟩ = some (.string c.name) ∧ W.cell? ⟨w.heap.size, 1, none⟩ = some (.int .i64 c.kind) ∧ W.cell? ⟨w.heap.size, 2, none⟩ = some (.int .i64 c.day) ∧ W.cell? ⟨w.heap.size, 3, none⟩ = some (.int .i64 c.month) ∧ W.cell? ⟨w.heap.size, 4, none⟩ = some (.int .i64 c.shift) ∧ W.cell? ⟨w.heap.size, 5, none⟩ = some (.int .i64 c.shape) ∧ W.cell? ⟨w.heap.size, 6, none⟩ = some (.int .i64 c.p0) ∧ W.cell? ⟨w.heap.size, 7, none⟩ = some (.int .i64 c.p1) ∧ W.cell? ⟨w.heap.size, 8, none⟩ = some (.int .i64 c.p2) ∧ W.cell? ⟨w.heap.size, 9, none⟩ = some (.int .i64 c.cycle) ∧ W.cell? ⟨w.heap.size, 10, none⟩ = some (.int .i64 c.extra) ∧ W.cell? ⟨w.heap.size, 11, none⟩ = some (.int .i64 c.first) ∧ W.cell? ⟨w.heap.size, 12, none⟩ = some (.int .i64 c.last) ∧ W.cell? ⟨w.heap.size, 13, none⟩ = some (.int .i64 c.policy) ∧ Below w.heap.size w W) ⟨by go_simp, by go_simp, by go_simp, by go_simp, by go_simp, by go_simp, by go_simp, by go_simp, by go_simp, by go_simp, by go_simp, by go_simp, by go_simp, by go_simp, (by repeat (with_reducible (first | exact Below.refl _ _ | assumption | refine bl_alloc ?_ _ | refine bl_drewN ?_ _ | refine bl_drew ?_ | refine bl_call ?_ (by assumption) | (refine bl_setCell ?_ _ (Nat.le_refl _)) | (refine bl_setCell ?_ _ (by simp)))))⟩ (by kernel_rfl) (by kernel_rfl) ?_
    intro W ⟨k0, k1, k2, k3, k4, k5, k6, k7, k8, k9, k10, k11, k12, k13, hbW⟩
    replace k0 := rcell k0
    replace k1 := rcell k1
    replace k2 := rcell k2
    replace k3 := rcell k3
    replace k4 := rcell k4
    replace k5 := rcell k5
    replace k6 := rcell k6
    replace k7 := rcell k7
    replace k8 := rcell k8
    replace k9 := rcell k9
    replace k10 := rcell k10
    replace k11 := rcell k11
    replace k12 := rcell k12
    replace k13 := rcell k13
    repeat (first | go_big_quiet_step (first | exact Calls.regrown_of (shaped_any c _) | exact Calls.regrown_of (rmany_any c _)) | quiet_step (first | exact Calls.regrown_of (shaped_any c _) | exact Calls.regrown_of (rmany_any c _)))
    refine wpQuiet_nil ?_
    intro w9 hb9
    clear k0 k1 k2 k3 k4 k5 k6 k7 k8 k9 k10 k11 k12 k13
    go_wp2
    go_ret
    exact ⟨ret_i (by rw [T.out, Hs1.out, Hs2.out, Hs3.out, Hs4.out, Hp1.out, Hp2.out, Hq.out, Hn.out, Hd1.out, Hd2.out, Hm1.out, Hm2.out, Hz0.out, Hz1.out, Hsh.out]; first | rfl | simp [argE]), bl_call hbW hb9⟩
theorem rcheck_2 (c : CalI) (w : World) (hs : c.name.size ≤ maxLen) (hk : nameB c.name = true ∧ 1602 ≤ c.first ∧ c.last ≤ 9996 ∧ c.first ≤ c.last ∧ c.last - c.first < 400 ∧ 1 ≤ c.policy ∧ c.policy ≤ 4 ∧ ((c.policy == 4) == (c.kind == 6)) = true) (h : c.kind = 2) :
    Calls Try.prog 43 #[calA c] w fun e w' => e = .returned (.int .i64 (argE (calB c))) ∧ Below w.heap.size w w' := by
  by_cases hp : 1 ≤ c.day ∧ c.day ≤ 7 ∧ 1 ≤ c.month ∧ c.month ≤ 12
  · rcases Bool.eq_false_or_eq_true (c.shift == 0) with z0 | z0
    · exact rcheck_2b c w hs hk h hp z0
    · rcases Bool.eq_false_or_eq_true (c.shift == 1) with z1 | z1
      · exact rcheck_2c c w hs hk h hp z0 z1
      · exact rcheck_2a c w hs hk h (fun hh => by rw [z0, z1] at hh; simp at hh)
  · exact rcheck_2a c w hs hk h (fun hh => hp ⟨hh.1, hh.2.1, hh.2.2.1, hh.2.2.2.1⟩)
end Go.Proofs.Yteppoghpfcmhhaa
