/- Contracts of the package field: whether a calendar may be. -/
import Derived.Test.YteppoghpfcmhhaaFieldH
namespace Go.Proofs.Yteppoghpfcmhhaa
set_option linter.unusedVariables false
set_option linter.unusedSimpArgs false
open Go.RowKit
theorem ruled_any (c : CalI) (w : World) :
    Calls Try.prog 51 #[calA c] w fun e w' => e = .returned (.bool (ruledB c)) ∧ Below w.heap.size w w' := by
  by_cases h : c.kind < 1 ∨ 6 < c.kind
  · exact ruled_ke c w h
  have h' : c.kind = 1 ∨ c.kind = 2 ∨ c.kind = 3 ∨ c.kind = 4 ∨ c.kind = 5 ∨ c.kind = 6 := by omega
  rcases h' with h | h | h | h | h | h
  · exact ruled_k1 c w h
  · exact ruled_k2 c w h
  · exact ruled_k3 c w h
  · exact ruled_k4 c w h
  · exact ruled_k5 c w h
  · exact ruled_k6 c w h
theorem polB_eq (c : CalI) : polB c = (btwB c.policy 1 4 && ((c.policy == 4) == (c.kind == 6))) := rfl
theorem servB_eq (c : CalI) : servB c = (decide (1602 ≤ c.first) && (decide (c.last ≤ 9996) && (decide (c.first ≤ c.last) && decide (c.last - c.first < 400)))) := by
  rw [Bool.eq_iff_iff]; unfold servB; simp
theorem calB_eq (c : CalI) : calB c = (servB c && (polB c && (nameB c.name && ruledB c))) := rfl
set_option maxHeartbeats 8000000 in
theorem fcheck_any (c : CalI) (w : World) (hs : c.name.size ≤ maxLen) :
    Calls Try.prog 24 #[calA c] w fun e w' => e = .returned (.int .i64 (argE (calB c))) ∧ Below w.heap.size w w' := by
  have T := Lib.hid (show calB c = ((decide (1602 ≤ c.first) && (decide (c.last ≤ 9996) && (decide (c.first ≤ c.last) && decide (c.last - c.first < 400)))) && ((btwB c.policy 1 4 && ((c.policy == 4) == (c.kind == 6))) && (nameB c.name && ruledB c))) by rw [calB_eq, servB_eq, polB_eq])
  by_cases s1 : 1602 ≤ c.first
  · have Hs1 := Lib.hid (show decide (1602 ≤ c.first) = true by simpa using s1)
    by_cases s2 : c.last ≤ 9996
    · have Hs2 := Lib.hid (show decide (c.last ≤ 9996) = true by simpa using s2)
      by_cases s3 : c.first ≤ c.last
      · have Hs3 := Lib.hid (show decide (c.first ≤ c.last) = true by simpa using s3)
        by_cases s4 : c.last - c.first < 400
        · have Hs4 := Lib.hid (show decide (c.last - c.first < 400) = true by simpa using s4)
          rcases Bool.eq_false_or_eq_true (btwB c.policy 1 4) with b | b
          · have Hb := Lib.hid b
            rcases Bool.eq_false_or_eq_true ((c.policy == 4) == (c.kind == 6)) with q | q
            · have Hq := Lib.hid q
              rcases Bool.eq_false_or_eq_true (nameB c.name) with n | n
              · have Hn := Lib.hid n
                rcases Bool.eq_false_or_eq_true (ruledB c) with r | r
                · have Hr := Lib.hid r
                  go_enter Try.func24, Try.ntmps24
                  go_wp2_with (first | (go_at_call 49; refine (between_any _ _ _ _).mono ?_; rintro e w' ⟨rfl, rfl⟩) | (go_at_call 50; refine (name_any _ _ hs).mono ?_; rintro e w' ⟨rfl, rfl⟩) | (go_at_call 51; refine (ruled_any c _).mono ?_; rintro e w2 ⟨rfl, hb2⟩))
                  go_ret
                  exact ⟨ret_i (by rw [T.out, Hs1.out, Hs2.out, Hs3.out, Hs4.out, Hb.out, Hq.out, Hn.out, Hr.out]; first | rfl | simp [argE]), (by repeat (with_reducible (first | exact Below.refl _ _ | assumption | refine bl_alloc ?_ _ | refine bl_drewN ?_ _ | refine bl_drew ?_ | refine bl_call ?_ (by assumption) | (refine bl_setCell ?_ _ (Nat.le_refl _)) | (refine bl_setCell ?_ _ (by simp)))))⟩
                · have Hr := Lib.hid r
                  go_enter Try.func24, Try.ntmps24
                  go_wp2_with (first | (go_at_call 49; refine (between_any _ _ _ _).mono ?_; rintro e w' ⟨rfl, rfl⟩) | (go_at_call 50; refine (name_any _ _ hs).mono ?_; rintro e w' ⟨rfl, rfl⟩) | (go_at_call 51; refine (ruled_any c _).mono ?_; rintro e w2 ⟨rfl, hb2⟩))
                  go_ret
                  exact ⟨ret_i (by rw [T.out, Hs1.out, Hs2.out, Hs3.out, Hs4.out, Hb.out, Hq.out, Hn.out, Hr.out]; first | rfl | simp [argE]), (by repeat (with_reducible (first | exact Below.refl _ _ | assumption | refine bl_alloc ?_ _ | refine bl_drewN ?_ _ | refine bl_drew ?_ | refine bl_call ?_ (by assumption) | (refine bl_setCell ?_ _ (Nat.le_refl _)) | (refine bl_setCell ?_ _ (by simp)))))⟩
              · have Hn := Lib.hid n
                go_enter Try.func24, Try.ntmps24
                go_wp2_with (first | (go_at_call 49; refine (between_any _ _ _ _).mono ?_; rintro e w' ⟨rfl, rfl⟩) | (go_at_call 50; refine (name_any _ _ hs).mono ?_; rintro e w' ⟨rfl, rfl⟩) | (go_at_call 51; refine (ruled_any c _).mono ?_; rintro e w2 ⟨rfl, hb2⟩))
                go_ret
                exact ⟨ret_i (by rw [T.out, Hs1.out, Hs2.out, Hs3.out, Hs4.out, Hb.out, Hq.out, Hn.out]; first | rfl | simp [argE]), (by repeat (with_reducible (first | exact Below.refl _ _ | assumption | refine bl_alloc ?_ _ | refine bl_drewN ?_ _ | refine bl_drew ?_ | refine bl_call ?_ (by assumption) | (refine bl_setCell ?_ _ (Nat.le_refl _)) | (refine bl_setCell ?_ _ (by simp)))))⟩
            · have Hq := Lib.hid q
              go_enter Try.func24, Try.ntmps24
              go_wp2_with (first | (go_at_call 49; refine (between_any _ _ _ _).mono ?_; rintro e w' ⟨rfl, rfl⟩) | (go_at_call 50; refine (name_any _ _ hs).mono ?_; rintro e w' ⟨rfl, rfl⟩) | (go_at_call 51; refine (ruled_any c _).mono ?_; rintro e w2 ⟨rfl, hb2⟩))
              go_ret
              exact ⟨ret_i (by rw [T.out, Hs1.out, Hs2.out, Hs3.out, Hs4.out, Hb.out, Hq.out]; first | rfl | simp [argE]), (by repeat (with_reducible (first | exact Below.refl _ _ | assumption | refine bl_alloc ?_ _ | refine bl_drewN ?_ _ | refine bl_drew ?_ | refine bl_call ?_ (by assumption) | (refine bl_setCell ?_ _ (Nat.le_refl _)) | (refine bl_setCell ?_ _ (by simp)))))⟩
          · have Hb := Lib.hid b
            go_enter Try.func24, Try.ntmps24
            go_wp2_with (first | (go_at_call 49; refine (between_any _ _ _ _).mono ?_; rintro e w' ⟨rfl, rfl⟩) | (go_at_call 50; refine (name_any _ _ hs).mono ?_; rintro e w' ⟨rfl, rfl⟩) | (go_at_call 51; refine (ruled_any c _).mono ?_; rintro e w2 ⟨rfl, hb2⟩))
            go_ret
            exact ⟨ret_i (by rw [T.out, Hs1.out, Hs2.out, Hs3.out, Hs4.out, Hb.out]; first | rfl | simp [argE]), (by repeat (with_reducible (first | exact Below.refl _ _ | assumption | refine bl_alloc ?_ _ | refine bl_drewN ?_ _ | refine bl_drew ?_ | refine bl_call ?_ (by assumption) | (refine bl_setCell ?_ _ (Nat.le_refl _)) | (refine bl_setCell ?_ _ (by simp)))))⟩
        · have Hs4 := Lib.hid (show decide (c.last - c.first < 400) = false by simpa using s4)
          rcases Bool.eq_false_or_eq_true (btwB c.policy 1 4) with b | b
          · have Hb := Lib.hid b
            rcases Bool.eq_false_or_eq_true ((c.policy == 4) == (c.kind == 6)) with q | q
            · have Hq := Lib.hid q
              go_enter Try.func24, Try.ntmps24
              go_wp2_with (first | (go_at_call 49; refine (between_any _ _ _ _).mono ?_; rintro e w' ⟨rfl, rfl⟩) | (go_at_call 50; refine (name_any _ _ hs).mono ?_; rintro e w' ⟨rfl, rfl⟩) | (go_at_call 51; refine (ruled_any c _).mono ?_; rintro e w2 ⟨rfl, hb2⟩))
              go_ret
              exact ⟨ret_i (by rw [T.out, Hs1.out, Hs2.out, Hs3.out, Hs4.out, Hb.out, Hq.out]; first | rfl | simp [argE]), (by repeat (with_reducible (first | exact Below.refl _ _ | assumption | refine bl_alloc ?_ _ | refine bl_drewN ?_ _ | refine bl_drew ?_ | refine bl_call ?_ (by assumption) | (refine bl_setCell ?_ _ (Nat.le_refl _)) | (refine bl_setCell ?_ _ (by simp)))))⟩
            · have Hq := Lib.hid q
              go_enter Try.func24, Try.ntmps24
              go_wp2_with (first | (go_at_call 49; refine (between_any _ _ _ _).mono ?_; rintro e w' ⟨rfl, rfl⟩) | (go_at_call 50; refine (name_any _ _ hs).mono ?_; rintro e w' ⟨rfl, rfl⟩) | (go_at_call 51; refine (ruled_any c _).mono ?_; rintro e w2 ⟨rfl, hb2⟩))
              go_ret
              exact ⟨ret_i (by rw [T.out, Hs1.out, Hs2.out, Hs3.out, Hs4.out, Hb.out, Hq.out]; first | rfl | simp [argE]), (by repeat (with_reducible (first | exact Below.refl _ _ | assumption | refine bl_alloc ?_ _ | refine bl_drewN ?_ _ | refine bl_drew ?_ | refine bl_call ?_ (by assumption) | (refine bl_setCell ?_ _ (Nat.le_refl _)) | (refine bl_setCell ?_ _ (by simp)))))⟩
          · have Hb := Lib.hid b
            go_enter Try.func24, Try.ntmps24
            go_wp2_with (first | (go_at_call 49; refine (between_any _ _ _ _).mono ?_; rintro e w' ⟨rfl, rfl⟩) | (go_at_call 50; refine (name_any _ _ hs).mono ?_; rintro e w' ⟨rfl, rfl⟩) | (go_at_call 51; refine (ruled_any c _).mono ?_; rintro e w2 ⟨rfl, hb2⟩))
            go_ret
            exact ⟨ret_i (by rw [T.out, Hs1.out, Hs2.out, Hs3.out, Hs4.out, Hb.out]; first | rfl | simp [argE]), (by repeat (with_reducible (first | exact Below.refl _ _ | assumption | refine bl_alloc ?_ _ | refine bl_drewN ?_ _ | refine bl_drew ?_ | refine bl_call ?_ (by assumption) | (refine bl_setCell ?_ _ (Nat.le_refl _)) | (refine bl_setCell ?_ _ (by simp)))))⟩
      · have Hs3 := Lib.hid (show decide (c.first ≤ c.last) = false by simpa using s3)
        rcases Bool.eq_false_or_eq_true (btwB c.policy 1 4) with b | b
        · have Hb := Lib.hid b
          rcases Bool.eq_false_or_eq_true ((c.policy == 4) == (c.kind == 6)) with q | q
          · have Hq := Lib.hid q
            go_enter Try.func24, Try.ntmps24
            go_wp2_with (first | (go_at_call 49; refine (between_any _ _ _ _).mono ?_; rintro e w' ⟨rfl, rfl⟩) | (go_at_call 50; refine (name_any _ _ hs).mono ?_; rintro e w' ⟨rfl, rfl⟩) | (go_at_call 51; refine (ruled_any c _).mono ?_; rintro e w2 ⟨rfl, hb2⟩))
            go_ret
            exact ⟨ret_i (by rw [T.out, Hs1.out, Hs2.out, Hs3.out, Hb.out, Hq.out]; first | rfl | simp [argE]), (by repeat (with_reducible (first | exact Below.refl _ _ | assumption | refine bl_alloc ?_ _ | refine bl_drewN ?_ _ | refine bl_drew ?_ | refine bl_call ?_ (by assumption) | (refine bl_setCell ?_ _ (Nat.le_refl _)) | (refine bl_setCell ?_ _ (by simp)))))⟩
          · have Hq := Lib.hid q
            go_enter Try.func24, Try.ntmps24
            go_wp2_with (first | (go_at_call 49; refine (between_any _ _ _ _).mono ?_; rintro e w' ⟨rfl, rfl⟩) | (go_at_call 50; refine (name_any _ _ hs).mono ?_; rintro e w' ⟨rfl, rfl⟩) | (go_at_call 51; refine (ruled_any c _).mono ?_; rintro e w2 ⟨rfl, hb2⟩))
            go_ret
            exact ⟨ret_i (by rw [T.out, Hs1.out, Hs2.out, Hs3.out, Hb.out, Hq.out]; first | rfl | simp [argE]), (by repeat (with_reducible (first | exact Below.refl _ _ | assumption | refine bl_alloc ?_ _ | refine bl_drewN ?_ _ | refine bl_drew ?_ | refine bl_call ?_ (by assumption) | (refine bl_setCell ?_ _ (Nat.le_refl _)) | (refine bl_setCell ?_ _ (by simp)))))⟩
        · have Hb := Lib.hid b
          go_enter Try.func24, Try.ntmps24
          go_wp2_with (first | (go_at_call 49; refine (between_any _ _ _ _).mono ?_; rintro e w' ⟨rfl, rfl⟩) | (go_at_call 50; refine (name_any _ _ hs).mono ?_; rintro e w' ⟨rfl, rfl⟩) | (go_at_call 51; refine (ruled_any c _).mono ?_; rintro e w2 ⟨rfl, hb2⟩))
          go_ret
          exact ⟨ret_i (by rw [T.out, Hs1.out, Hs2.out, Hs3.out, Hb.out]; first | rfl | simp [argE]), (by repeat (with_reducible (first | exact Below.refl _ _ | assumption | refine bl_alloc ?_ _ | refine bl_drewN ?_ _ | refine bl_drew ?_ | refine bl_call ?_ (by assumption) | (refine bl_setCell ?_ _ (Nat.le_refl _)) | (refine bl_setCell ?_ _ (by simp)))))⟩
    · have Hs2 := Lib.hid (show decide (c.last ≤ 9996) = false by simpa using s2)
      rcases Bool.eq_false_or_eq_true (btwB c.policy 1 4) with b | b
      · have Hb := Lib.hid b
        rcases Bool.eq_false_or_eq_true ((c.policy == 4) == (c.kind == 6)) with q | q
        · have Hq := Lib.hid q
          go_enter Try.func24, Try.ntmps24
          go_wp2_with (first | (go_at_call 49; refine (between_any _ _ _ _).mono ?_; rintro e w' ⟨rfl, rfl⟩) | (go_at_call 50; refine (name_any _ _ hs).mono ?_; rintro e w' ⟨rfl, rfl⟩) | (go_at_call 51; refine (ruled_any c _).mono ?_; rintro e w2 ⟨rfl, hb2⟩))
          go_ret
          exact ⟨ret_i (by rw [T.out, Hs1.out, Hs2.out, Hb.out, Hq.out]; first | rfl | simp [argE]), (by repeat (with_reducible (first | exact Below.refl _ _ | assumption | refine bl_alloc ?_ _ | refine bl_drewN ?_ _ | refine bl_drew ?_ | refine bl_call ?_ (by assumption) | (refine bl_setCell ?_ _ (Nat.le_refl _)) | (refine bl_setCell ?_ _ (by simp)))))⟩
        · have Hq := Lib.hid q
          go_enter Try.func24, Try.ntmps24
          go_wp2_with (first | (go_at_call 49; refine (between_any _ _ _ _).mono ?_; rintro e w' ⟨rfl, rfl⟩) | (go_at_call 50; refine (name_any _ _ hs).mono ?_; rintro e w' ⟨rfl, rfl⟩) | (go_at_call 51; refine (ruled_any c _).mono ?_; rintro e w2 ⟨rfl, hb2⟩))
          go_ret
          exact ⟨ret_i (by rw [T.out, Hs1.out, Hs2.out, Hb.out, Hq.out]; first | rfl | simp [argE]), (by repeat (with_reducible (first | exact Below.refl _ _ | assumption | refine bl_alloc ?_ _ | refine bl_drewN ?_ _ | refine bl_drew ?_ | refine bl_call ?_ (by assumption) | (refine bl_setCell ?_ _ (Nat.le_refl _)) | (refine bl_setCell ?_ _ (by simp)))))⟩
      · have Hb := Lib.hid b
        go_enter Try.func24, Try.ntmps24
        go_wp2_with (first | (go_at_call 49; refine (between_any _ _ _ _).mono ?_; rintro e w' ⟨rfl, rfl⟩) | (go_at_call 50; refine (name_any _ _ hs).mono ?_; rintro e w' ⟨rfl, rfl⟩) | (go_at_call 51; refine (ruled_any c _).mono ?_; rintro e w2 ⟨rfl, hb2⟩))
        go_ret
        exact ⟨ret_i (by rw [T.out, Hs1.out, Hs2.out, Hb.out]; first | rfl | simp [argE]), (by repeat (with_reducible (first | exact Below.refl _ _ | assumption | refine bl_alloc ?_ _ | refine bl_drewN ?_ _ | refine bl_drew ?_ | refine bl_call ?_ (by assumption) | (refine bl_setCell ?_ _ (Nat.le_refl _)) | (refine bl_setCell ?_ _ (by simp)))))⟩
  · have Hs1 := Lib.hid (show decide (1602 ≤ c.first) = false by simpa using s1)
    rcases Bool.eq_false_or_eq_true (btwB c.policy 1 4) with b | b
    · have Hb := Lib.hid b
      rcases Bool.eq_false_or_eq_true ((c.policy == 4) == (c.kind == 6)) with q | q
      · have Hq := Lib.hid q
        go_enter Try.func24, Try.ntmps24
        go_wp2_with (first | (go_at_call 49; refine (between_any _ _ _ _).mono ?_; rintro e w' ⟨rfl, rfl⟩) | (go_at_call 50; refine (name_any _ _ hs).mono ?_; rintro e w' ⟨rfl, rfl⟩) | (go_at_call 51; refine (ruled_any c _).mono ?_; rintro e w2 ⟨rfl, hb2⟩))
        go_ret
        exact ⟨ret_i (by rw [T.out, Hs1.out, Hb.out, Hq.out]; first | rfl | simp [argE]), (by repeat (with_reducible (first | exact Below.refl _ _ | assumption | refine bl_alloc ?_ _ | refine bl_drewN ?_ _ | refine bl_drew ?_ | refine bl_call ?_ (by assumption) | (refine bl_setCell ?_ _ (Nat.le_refl _)) | (refine bl_setCell ?_ _ (by simp)))))⟩
      · have Hq := Lib.hid q
        go_enter Try.func24, Try.ntmps24
        go_wp2_with (first | (go_at_call 49; refine (between_any _ _ _ _).mono ?_; rintro e w' ⟨rfl, rfl⟩) | (go_at_call 50; refine (name_any _ _ hs).mono ?_; rintro e w' ⟨rfl, rfl⟩) | (go_at_call 51; refine (ruled_any c _).mono ?_; rintro e w2 ⟨rfl, hb2⟩))
        go_ret
        exact ⟨ret_i (by rw [T.out, Hs1.out, Hb.out, Hq.out]; first | rfl | simp [argE]), (by repeat (with_reducible (first | exact Below.refl _ _ | assumption | refine bl_alloc ?_ _ | refine bl_drewN ?_ _ | refine bl_drew ?_ | refine bl_call ?_ (by assumption) | (refine bl_setCell ?_ _ (Nat.le_refl _)) | (refine bl_setCell ?_ _ (by simp)))))⟩
    · have Hb := Lib.hid b
      go_enter Try.func24, Try.ntmps24
      go_wp2_with (first | (go_at_call 49; refine (between_any _ _ _ _).mono ?_; rintro e w' ⟨rfl, rfl⟩) | (go_at_call 50; refine (name_any _ _ hs).mono ?_; rintro e w' ⟨rfl, rfl⟩) | (go_at_call 51; refine (ruled_any c _).mono ?_; rintro e w2 ⟨rfl, hb2⟩))
      go_ret
      exact ⟨ret_i (by rw [T.out, Hs1.out, Hb.out]; first | rfl | simp [argE]), (by repeat (with_reducible (first | exact Below.refl _ _ | assumption | refine bl_alloc ?_ _ | refine bl_drewN ?_ _ | refine bl_drew ?_ | refine bl_call ?_ (by assumption) | (refine bl_setCell ?_ _ (Nat.le_refl _)) | (refine bl_setCell ?_ _ (by simp)))))⟩
end Go.Proofs.Yteppoghpfcmhhaa
