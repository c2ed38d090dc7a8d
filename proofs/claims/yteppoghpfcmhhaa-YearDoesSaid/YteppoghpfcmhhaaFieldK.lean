/- Contract of the reference's chapter 11: whether a calendar may be (what stands ahead). -/
import Derived.Test.YteppoghpfcmhhaaFieldJ
namespace Go.Proofs.Yteppoghpfcmhhaa
set_option linter.unusedVariables false
set_option linter.unusedSimpArgs false
open Go.RowKit
theorem sh01 (n : Int) : btwB n 0 1 = ((n == 0) || (n == 1)) := by rw [Bool.eq_iff_iff]; unfold btwB; simp; omega
theorem btw2 (n a b : Int) : btwB n a b = (decide (a ≤ n) && decide (n ≤ b)) := by rw [Bool.eq_iff_iff]; unfold btwB; simp
theorem cal_any (c : CalI) {R : Bool} (h : ruledB c = R) : calB c = ((decide (1602 ≤ c.first) && (decide (c.last ≤ 9996) && (decide (c.first ≤ c.last) && decide (c.last - c.first < 400)))) && (((decide (1 ≤ c.policy) && decide (c.policy ≤ 4)) && ((c.policy == 4) == (c.kind == 6))) && (nameB c.name && R))) := by rw [calB_eq, servB_eq, polB_eq, btw2, h]
theorem cal_12 (c : CalI) (h : c.kind = 1 ∨ c.kind = 2) : ruledB c = ((decide (1 ≤ c.day) && decide (c.day ≤ 7)) && ((decide (1 ≤ c.month) && decide (c.month ≤ 12)) && (((c.shift == 0) || (c.shift == 1)) && (shapedB c && (decide (1 ≤ c.extra) && decide (c.extra ≤ many11 c)))))) := by
  rw [ruled_12 c h, weeks_shaped, sh01, btw2, btw2, Bool.eq_iff_iff]; simp only [Bool.and_eq_true, Bool.or_eq_true]; constructor <;> (intro hh; simp only [hh]; simp)
theorem cal_5 (c : CalI) (h : c.kind = 5) : ruledB c = ((c.day == 7) && ((c.month == 12) && ((c.shift == 0) && (shapedB c && (decide (1 ≤ c.extra) && decide (c.extra ≤ many11 c)))))) := by
  rw [ruled_5 c h, weeks_shaped, Bool.eq_iff_iff]; unfold btwB; simp only [Bool.and_eq_true, decide_eq_true_eq, beq_iff_eq]
  constructor
  · intro hh; exact hh.2.2
  · intro hh; exact ⟨by omega, by omega, hh⟩
theorem cal_3 (c : CalI) (h : c.kind = 3) : ruledB c = calEqB ⟨#[]⟩ ⟨#[]⟩ 3 c.day c.month c.shift c.shape c.p0 c.p1 c.p2 c.cycle c.extra 0 0 0 3 6 1 1 1 4 5 4 0 12 0 0 0 := by
  rw [ruled_three c h]; unfold calEqB; rw [Bool.eq_iff_iff]; simp
theorem cal_4 (c : CalI) (h : c.kind = 4) : ruledB c = calEqB ⟨#[]⟩ ⟨#[]⟩ 4 c.day c.month c.shift c.shape c.p0 c.p1 c.p2 c.cycle c.extra 0 0 0 4 7 12 0 4 0 0 0 0 12 0 0 0 := by
  rw [ruled_four c h]; unfold calEqB; rw [Bool.eq_iff_iff]; simp
theorem cal_6 (c : CalI) (h : c.kind = 6) : ruledB c = ((decide (1 ≤ c.month) && decide (c.month ≤ 12)) && (((c.shift == 0) || (c.shift == 1)) && calEqB ⟨#[]⟩ ⟨#[]⟩ 6 c.day c.month c.shift c.shape c.p0 c.p1 c.p2 c.cycle c.extra 0 0 0 6 0 c.month c.shift 5 0 0 0 0 0 0 0 0)) := by
  rw [ruled_6 c h, btw2, sh01]; unfold calEqB; rw [Bool.eq_iff_iff]; simp only [Bool.and_eq_true, Bool.or_eq_true, beq_iff_eq, decide_eq_true_eq, eq3B_iff, eq_self, true_and, and_true]; try omega
theorem cal_e (c : CalI) (h : c.kind < 1 ∨ 6 < c.kind) : ruledB c = false := by rw [ruled_e c h]; simp
set_option maxRecDepth 100000 in
set_option maxHeartbeats 8000000 in
theorem rcheck_no (c : CalI) (w : World) (hs : c.name.size ≤ maxLen) (hk : ¬ (nameB c.name = true ∧ 1602 ≤ c.first ∧ c.last ≤ 9996 ∧ c.first ≤ c.last ∧ c.last - c.first < 400 ∧ 1 ≤ c.policy ∧ c.policy ≤ 4 ∧ ((c.policy == 4) == (c.kind == 6)) = true)) :
    Calls Try.prog 43 #[calA c] w fun e w' => e = .returned (.int .i64 (argE (calB c))) ∧ Below w.heap.size w w' := by
  have T := Lib.hid (cal_any c (R := ruledB c) rfl)
  rcases Bool.eq_false_or_eq_true (nameB c.name) with n | n
  · have Hn := Lib.hid n
    by_cases s1 : 1602 ≤ c.first
    · have Hs1 := Lib.hid (show decide (1602 ≤ c.first) = true by simpa using s1)
      by_cases s2 : c.last ≤ 9996
      · have Hs2 := Lib.hid (show decide (c.last ≤ 9996) = true by simpa using s2)
        by_cases s3 : c.first ≤ c.last
        · have Hs3 := Lib.hid (show decide (c.first ≤ c.last) = true by simpa using s3)
          by_cases s4 : c.last - c.first < 400
          · have Hs4 := Lib.hid (show decide (c.last - c.first < 400) = true by simpa using s4)
            by_cases p1 : 1 ≤ c.policy
            · have Hp1 := Lib.hid (show decide (1 ≤ c.policy) = true by simpa using p1)
              by_cases p2 : c.policy ≤ 4
              · have Hp2 := Lib.hid (show decide (c.policy ≤ 4) = true by simpa using p2)
                rcases Bool.eq_false_or_eq_true (c.policy == 4) with q1 | q1
                · have Hq1 := Lib.hid q1
                  rcases Bool.eq_false_or_eq_true (c.kind == 6) with q2 | q2
                  · have Hq2 := Lib.hid q2
                    exact (hk ⟨n, s1, s2, s3, s4, p1, p2, by rw [q1, q2]; rfl⟩).elim
                  · have Hq2 := Lib.hid q2
                    go_enter Try.func43, Try.ntmps43
                    go_wp2_with (go_at_call 63; refine (rname_any _ _ hs).mono ?_; rintro e w' ⟨rfl, rfl⟩)
                    go_ret
                    exact ⟨ret_i (by rw [T.out, Hn.out, Hs1.out, Hs2.out, Hs3.out, Hs4.out, Hp1.out, Hp2.out, Hq1.out, Hq2.out]; first | rfl | simp [argE]), (by repeat (with_reducible (first | exact Below.refl _ _ | assumption | refine bl_alloc ?_ _ | refine bl_drewN ?_ _ | refine bl_drew ?_ | refine bl_call ?_ (by assumption) | (refine bl_setCell ?_ _ (Nat.le_refl _)) | (refine bl_setCell ?_ _ (by simp)))))⟩
                · have Hq1 := Lib.hid q1
                  rcases Bool.eq_false_or_eq_true (c.kind == 6) with q2 | q2
                  · have Hq2 := Lib.hid q2
                    go_enter Try.func43, Try.ntmps43
                    go_wp2_with (go_at_call 63; refine (rname_any _ _ hs).mono ?_; rintro e w' ⟨rfl, rfl⟩)
                    go_ret
                    exact ⟨ret_i (by rw [T.out, Hn.out, Hs1.out, Hs2.out, Hs3.out, Hs4.out, Hp1.out, Hp2.out, Hq1.out, Hq2.out]; first | rfl | simp [argE]), (by repeat (with_reducible (first | exact Below.refl _ _ | assumption | refine bl_alloc ?_ _ | refine bl_drewN ?_ _ | refine bl_drew ?_ | refine bl_call ?_ (by assumption) | (refine bl_setCell ?_ _ (Nat.le_refl _)) | (refine bl_setCell ?_ _ (by simp)))))⟩
                  · have Hq2 := Lib.hid q2
                    exact (hk ⟨n, s1, s2, s3, s4, p1, p2, by rw [q1, q2]; rfl⟩).elim
              · have Hp2 := Lib.hid (show decide (c.policy ≤ 4) = false by simpa using p2)
                have Xp2 := Hp2.out
                go_enter Try.func43, Try.ntmps43
                go_wp2_with (go_at_call 63; refine (rname_any _ _ hs).mono ?_; rintro e w' ⟨rfl, rfl⟩)
                go_ret
                exact ⟨ret_i (by rw [T.out, Hn.out, Hs1.out, Hs2.out, Hs3.out, Hs4.out, Hp1.out, Hp2.out]; first | rfl | simp [argE]), (by repeat (with_reducible (first | exact Below.refl _ _ | assumption | refine bl_alloc ?_ _ | refine bl_drewN ?_ _ | refine bl_drew ?_ | refine bl_call ?_ (by assumption) | (refine bl_setCell ?_ _ (Nat.le_refl _)) | (refine bl_setCell ?_ _ (by simp)))))⟩
            · have Hp1 := Lib.hid (show decide (1 ≤ c.policy) = false by simpa using p1)
              have Xp1 := Hp1.out
              go_enter Try.func43, Try.ntmps43
              go_wp2_with (go_at_call 63; refine (rname_any _ _ hs).mono ?_; rintro e w' ⟨rfl, rfl⟩)
              go_ret
              exact ⟨ret_i (by rw [T.out, Hn.out, Hs1.out, Hs2.out, Hs3.out, Hs4.out, Hp1.out]; first | rfl | simp [argE]), (by repeat (with_reducible (first | exact Below.refl _ _ | assumption | refine bl_alloc ?_ _ | refine bl_drewN ?_ _ | refine bl_drew ?_ | refine bl_call ?_ (by assumption) | (refine bl_setCell ?_ _ (Nat.le_refl _)) | (refine bl_setCell ?_ _ (by simp)))))⟩
          · have Hs4 := Lib.hid (show decide (c.last - c.first < 400) = false by simpa using s4)
            have Xs4 := Hs4.out
            go_enter Try.func43, Try.ntmps43
            go_wp2_with (go_at_call 63; refine (rname_any _ _ hs).mono ?_; rintro e w' ⟨rfl, rfl⟩)
            go_ret
            exact ⟨ret_i (by rw [T.out, Hn.out, Hs1.out, Hs2.out, Hs3.out, Hs4.out]; first | rfl | simp [argE]), (by repeat (with_reducible (first | exact Below.refl _ _ | assumption | refine bl_alloc ?_ _ | refine bl_drewN ?_ _ | refine bl_drew ?_ | refine bl_call ?_ (by assumption) | (refine bl_setCell ?_ _ (Nat.le_refl _)) | (refine bl_setCell ?_ _ (by simp)))))⟩
        · have Hs3 := Lib.hid (show decide (c.first ≤ c.last) = false by simpa using s3)
          have Xs3 := Hs3.out
          go_enter Try.func43, Try.ntmps43
          go_wp2_with (go_at_call 63; refine (rname_any _ _ hs).mono ?_; rintro e w' ⟨rfl, rfl⟩)
          go_ret
          exact ⟨ret_i (by rw [T.out, Hn.out, Hs1.out, Hs2.out, Hs3.out]; first | rfl | simp [argE]), (by repeat (with_reducible (first | exact Below.refl _ _ | assumption | refine bl_alloc ?_ _ | refine bl_drewN ?_ _ | refine bl_drew ?_ | refine bl_call ?_ (by assumption) | (refine bl_setCell ?_ _ (Nat.le_refl _)) | (refine bl_setCell ?_ _ (by simp)))))⟩
      · have Hs2 := Lib.hid (show decide (c.last ≤ 9996) = false by simpa using s2)
        have Xs2 := Hs2.out
        go_enter Try.func43, Try.ntmps43
        go_wp2_with (go_at_call 63; refine (rname_any _ _ hs).mono ?_; rintro e w' ⟨rfl, rfl⟩)
        go_ret
        exact ⟨ret_i (by rw [T.out, Hn.out, Hs1.out, Hs2.out]; first | rfl | simp [argE]), (by repeat (with_reducible (first | exact Below.refl _ _ | assumption | refine bl_alloc ?_ _ | refine bl_drewN ?_ _ | refine bl_drew ?_ | refine bl_call ?_ (by assumption) | (refine bl_setCell ?_ _ (Nat.le_refl _)) | (refine bl_setCell ?_ _ (by simp)))))⟩
    · have Hs1 := Lib.hid (show decide (1602 ≤ c.first) = false by simpa using s1)
      have Xs1 := Hs1.out
      go_enter Try.func43, Try.ntmps43
      go_wp2_with (go_at_call 63; refine (rname_any _ _ hs).mono ?_; rintro e w' ⟨rfl, rfl⟩)
      go_ret
      exact ⟨ret_i (by rw [T.out, Hn.out, Hs1.out]; first | rfl | simp [argE]), (by repeat (with_reducible (first | exact Below.refl _ _ | assumption | refine bl_alloc ?_ _ | refine bl_drewN ?_ _ | refine bl_drew ?_ | refine bl_call ?_ (by assumption) | (refine bl_setCell ?_ _ (Nat.le_refl _)) | (refine bl_setCell ?_ _ (by simp)))))⟩
  · have Hn := Lib.hid n
    go_enter Try.func43, Try.ntmps43
    go_wp2_with (go_at_call 63; refine (rname_any _ _ hs).mono ?_; rintro e w' ⟨rfl, rfl⟩)
    go_ret
    exact ⟨ret_i (by rw [T.out, Hn.out]; first | rfl | simp [argE]), (by repeat (with_reducible (first | exact Below.refl _ _ | assumption | refine bl_alloc ?_ _ | refine bl_drewN ?_ _ | refine bl_drew ?_ | refine bl_call ?_ (by assumption) | (refine bl_setCell ?_ _ (Nat.le_refl _)) | (refine bl_setCell ?_ _ (by simp)))))⟩
end Go.Proofs.Yteppoghpfcmhhaa
