/- Contracts of the package quarterdayref05. -/
import Derived.Test.YteppoghpfcmhhaaCivF
import Derived.Test.YteppoghpfcmhhaaMathH
namespace Go.Proofs.Yteppoghpfcmhhaa
set_option linter.unusedVariables false
set_option linter.unusedSimpArgs false
open Go.RowKit
theorem rlp_facts (y : Int) : (y < 1600 ∧ lpB y = false) ∨ (1600 ≤ y ∧ 9999 < y ∧ lpB y = false) ∨ (1600 ≤ y ∧ y ≤ 9999 ∧ ¬ y % 4 = 0 ∧ lpB y = false) ∨ (1600 ≤ y ∧ y ≤ 9999 ∧ y % 4 = 0 ∧ ¬ y % 100 = 0 ∧ lpB y = true) ∨ (1600 ≤ y ∧ y ≤ 9999 ∧ y % 4 = 0 ∧ y % 100 = 0 ∧ y % 400 = 0 ∧ lpB y = true) ∨ (1600 ≤ y ∧ y ≤ 9999 ∧ y % 4 = 0 ∧ y % 100 = 0 ∧ ¬ y % 400 = 0 ∧ lpB y = false) := by
  unfold lpB
  simp only [decide_eq_true_eq, decide_eq_false_iff_not]
  omega
set_option maxHeartbeats 1000000 in
theorem rleap_any (y : Int) (w : World) :
    Calls Try.prog 67 #[.int .i64 y] w fun e w' => e = .returned (.bool (lpB y)) ∧ w = w' := by
  rcases rlp_facts y with ⟨h1, h⟩ | ⟨h1, h2, h⟩ | ⟨h1, h2, h3, h⟩ | ⟨h1, h2, h3, h4, h⟩ | ⟨h1, h2, h3, h4, h5, h⟩ | ⟨h1, h2, h3, h4, h5, h⟩
  all_goals
    have H := Lib.hid h
    clear h
    go_enter Try.func67, Try.ntmps67
    go_wp2
    all_goals
      go_ret
      exact ⟨ret_b (by rw [H.out]; try (first | (simp [*]; done) | (simp_all; done))), rfl⟩
theorem rlen_facts (y m : Int) : ((y < 1600 ∨ (1600 ≤ y ∧ (9999 < y ∨ (y ≤ 9999 ∧ (m < 1 ∨ (1 ≤ m ∧ 12 < m)))))) ∧ lenV y m = 0 ∧ thereB y m = false) ∨ (1600 ≤ y ∧ y ≤ 9999 ∧ 1 ≤ m ∧ m ≤ 12 ∧ lenV y m = mlen y m ∧ thereB y m = true) := by
  rcases len_facts y m with ⟨h1, h2⟩ | ⟨h1, h2, h3, h4, _⟩
  · refine .inl ⟨?_, h2, h1⟩
    unfold thereB at h1; simp only [decide_eq_false_iff_not] at h1; omega
  · have h1' := h1
    unfold thereB at h1; simp only [decide_eq_true_eq] at h1
    exact .inr ⟨h1.1, h1.2.1, h2, h3, h4, h1'⟩
theorem mlen_is (y m : Int) : (m = 2 → mlen y m = if lpB y = true then 29 else 28) ∧ (m = 4 ∨ m = 6 ∨ m = 9 ∨ m = 11 → mlen y m = 30) ∧ (m = 1 ∨ m = 3 ∨ m = 5 ∨ m = 7 ∨ m = 8 ∨ m = 10 ∨ m = 12 → mlen y m = 31) := by
  refine ⟨fun h => ?_, fun h => ?_, fun h => ?_⟩
  · subst h; unfold mlen lpI; rw [if_pos rfl]; split <;> rfl
  · unfold mlen; rw [if_neg (by omega), if_pos h]
  · unfold mlen; rw [if_neg (by omega), if_neg (by omega)]
set_option maxHeartbeats 2000000 in
theorem rlength_any (y m : Int) (w : World) :
    Calls Try.prog 45 #[.int .i64 y, .int .i64 m] w fun e w' => e = .returned (.tuple #[.int .i64 (lenV y m), .int .i64 (dateE (thereB y m))]) ∧ w = w' := by
  rcases rlen_facts y m with ⟨h, h1, h2⟩ | ⟨h1, h2, h3, h4, h5, h6⟩
  · have H1 := Lib.hid h1
    have H2 := Lib.hid h2
    clear h1 h2
    rcases h with h | ⟨h, h' | ⟨h', h'' | ⟨h'', h3⟩⟩⟩
    all_goals
      go_enter Try.func45, Try.ntmps45
      go_wp2
      go_ret2
      exact ⟨ret_ii H1.out.symm (by rw [H2.out]; rfl), rfl⟩
  · have H5 := Lib.hid h5
    have H6 := Lib.hid h6
    clear h5 h6
    obtain ⟨m2, m30, m31⟩ := mlen_is y m
    have c : m = 2 ∨ (m = 4 ∨ m = 6 ∨ m = 9 ∨ m = 11) ∨ (m = 1 ∨ m = 3 ∨ m = 5 ∨ m = 7 ∨ m = 8 ∨ m = 10 ∨ m = 12) := by omega
    rcases c with c | c | c
    · have e := m2 c
      subst c
      clear m2 m30 m31
      rcases Bool.eq_false_or_eq_true (lpB y) with l | l
      all_goals
        rw [l] at e
        have E := Lib.hid e
        clear e
        go_enter Try.func45, Try.ntmps45
        go_wp2_with (go_at_call 67; refine (rleap_any _ _).mono ?_; rintro e w' ⟨rfl, rfl⟩)
        go_ret2
        exact ⟨ret_ii (by rw [H5.out, E.out]; rfl) (by rw [H6.out]; rfl), rfl⟩
    · have E := Lib.hid (m30 c)
      clear m2 m30 m31
      rcases c with rfl | rfl | rfl | rfl
      all_goals
        go_enter Try.func45, Try.ntmps45
        go_wp2
        go_ret2
        exact ⟨ret_ii (by rw [H5.out, E.out]) (by rw [H6.out]; rfl), rfl⟩
    · have E := Lib.hid (m31 c)
      clear m2 m30 m31
      rcases c with rfl | rfl | rfl | rfl | rfl | rfl | rfl
      all_goals
        go_enter Try.func45, Try.ntmps45
        go_wp2
        go_ret2
        exact ⟨ret_ii (by rw [H5.out, E.out]) (by rw [H6.out]; rfl), rfl⟩
set_option maxHeartbeats 1000000 in
theorem rcheck_any (y m d : Int) (w : World) :
    Calls Try.prog 68 #[dateA y m d] w fun e w' => e = .returned (.int .i64 (dateE (validB y m d))) ∧ Below w.heap.size w w' := by
  rcases chk_facts y m d with ⟨h1, h2, h3⟩ | ⟨h1, h3, h4, ⟨h5, h2⟩ | ⟨h5, h6, h2⟩ | ⟨h5, h6, h2⟩⟩
  all_goals
    have H2 := Lib.hid h2
    clear h2
    go_enter Try.func68, Try.ntmps68
    go_wp2_with (go_at_call 45; refine (rlength_any _ _ _).mono ?_; rintro e w' ⟨rfl, rfl⟩)
    go_ret
    exact ⟨ret_i (by rw [H2.out]; rfl), (by repeat (with_reducible (first | exact Below.refl _ _ | assumption | refine bl_alloc ?_ _ | refine bl_drewN ?_ _ | refine bl_drew ?_ | refine bl_call ?_ (by assumption) | (refine bl_setCell ?_ _ (Nat.le_refl _)) | (refine bl_setCell ?_ _ (by simp)))))⟩
set_option maxHeartbeats 400000 in
theorem rlong_any (y : Int) (w : World) :
    Calls Try.prog 69 #[.int .i64 y] w fun e w' => e = .returned (.int .i64 (365 + lpI y)) ∧ w = w' := by
  rcases Bool.eq_false_or_eq_true (lpB y) with l | l
  all_goals
    have E := Lib.hid (show lpI y = if lpB y = true then 1 else 0 from rfl)
    go_enter Try.func69, Try.ntmps69
    go_wp2_with (go_at_call 67; refine (rleap_any _ _).mono ?_; rintro e w' ⟨rfl, rfl⟩)
    go_ret
    exact ⟨ret_i (by rw [E.out, l]; rfl), rfl⟩
end Go.Proofs.Yteppoghpfcmhhaa
