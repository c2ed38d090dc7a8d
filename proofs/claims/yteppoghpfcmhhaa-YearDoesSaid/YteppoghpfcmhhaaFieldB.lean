/- Contracts of the package lex: Name. -/
import Derived.Test.YteppoghpfcmhhaaFieldA
namespace Go.Proofs.Yteppoghpfcmhhaa
set_option linter.unusedVariables false
set_option linter.unusedSimpArgs false
open Go.RowKit
/-- how many bytes at the head stand in a name -/
def runN : List UInt8 → Nat
  | [] => 0
  | b :: l => if innB (b.toNat : Int) = true then runN l + 1 else 0
theorem runN_le (l : List UInt8) : runN l ≤ l.length := by
  induction l with
  | nil => simp [runN]
  | cons b l ih => unfold runN; split <;> simp <;> omega
theorem runN_all (l : List UInt8) : runN l = l.length ↔ (l.all fun b => innB (b.toNat : Int)) = true := by
  induction l with
  | nil => simp [runN]
  | cons b l ih =>
    unfold runN
    by_cases h : innB (b.toNat : Int) = true
    · simp only [h, if_true, List.length_cons, List.all_cons, Bool.true_and, ← ih]; omega
    · simp [h]
theorem runN_step (l : List UInt8) (k : Nat) (hk : k < l.length) (h : k ≤ runN l) : (innB ((l.getD k 0).toNat : Int) = true → k + 1 ≤ runN l) ∧ (innB ((l.getD k 0).toNat : Int) = false → runN l = k) := by
  induction l generalizing k with
  | nil => simp at hk
  | cons b l ih =>
    cases k with
    | zero =>
      simp only [List.getD_cons_zero]
      refine ⟨fun h1 => ?_, fun h1 => ?_⟩
      · unfold runN; rw [if_pos h1]; omega
      · unfold runN; rw [if_neg (by simp [h1])]
    | succ k =>
      have hb : innB (b.toNat : Int) = true := by
        unfold runN at h
        by_cases hh : innB (b.toNat : Int) = true
        · exact hh
        · rw [if_neg hh] at h; omega
      have e : runN (b :: l) = runN l + 1 := by rw [runN, if_pos hb]
      rw [e] at h ⊢
      simp only [List.getD_cons_succ]
      obtain ⟨i1, i2⟩ := ih k (by simpa using hk) (by omega)
      exact ⟨fun h1 => by have := i1 h1; omega, fun h1 => by have := i2 h1; omega⟩
theorem runN_step2 (s : ByteArray) (k : Nat) (hk : k < s.size) (h : k ≤ runN s.data.toList) : (innB (s[k].toNat : Int) = true → k + 1 ≤ runN s.data.toList) ∧ (innB (s[k].toNat : Int) = false → k = runN s.data.toList) := by
  have e : s.data.toList.getD k 0 = s[k] := by
    rw [List.getD_eq_getElem?_getD, List.getElem?_eq_getElem (by simpa using hk)]; rfl
  have R := runN_step s.data.toList k (by simpa using hk) h
  rw [e] at R
  exact ⟨R.1, fun h => (R.2 h).symm⟩
set_option maxHeartbeats 1000000 in
theorem run_any (s : ByteArray) (w : World) (hs : s.size ≤ maxLen) :
    Calls Try.prog 71 #[.string s, .func (.func 72) #[] #[]] w fun e w' => e = .returned (.int .i64 (runN s.data.toList)) ∧ w = w' := by
  unfold maxLen at hs
  go_enter Try.func71, Try.ntmps71
  go_wp2
  go_loop [5] (fun i => ∃ k : Nat, k ≤ s.size ∧ k ≤ runN s.data.toList ∧ i = .int .i64 k) (fun i => s.size - (intOf i).toNat)
  case atStart => exact ⟨0, by omega, by omega, rfl⟩
  case round =>
    obtain ⟨k, hk, hr, rfl⟩ := hrel
    by_cases hlt : k < s.size
    · have R := runN_step2 s k hlt hr
      rcases Bool.eq_false_or_eq_true (innB (s[k].toNat : Int)) with hb | hb
      · have h1 := R.1 hb
        clear R
        go_wp2_with ((go_at_call 72; refine (inner_any _ _).mono ?_; rintro e w' ⟨rfl, rfl⟩))
        go_round
        case rel => exact ⟨k + 1, by omega, by omega, by go_num⟩
        case measure => simp [intOf]; omega
      · have h1 := Lib.hid (R.2 hb)
        clear R
        go_wp2_with ((go_at_call 72; refine (inner_any _ _).mono ?_; rintro e w' ⟨rfl, rfl⟩))
        go_ret
        exact ⟨ret_i (by have := h1.out; omega), rfl⟩
    · have h1 := runN_le s.data.toList
      have h2 := Lib.hid (show (k : Int) = runN s.data.toList by have e : s.data.toList.length = s.size := (by simp); omega)
      clear h1
      go_wp2_with fail
      go_ret
      exact ⟨ret_i h2.out, rfl⟩
theorem nameB_false1 (s : ByteArray) (h : s.size = 0 ∨ 16 < s.size) : nameB s = false := by
  unfold nameB; rw [Bool.and_eq_false_iff]; left; simp; omega
theorem nameB_let (s : ByteArray) (h0 : 0 < s.size) (h : letB (s[0].toNat : Int) = false) : nameB s = false := by
  have e : s.data.toList.getD 0 0 = s[0] := by
    rw [List.getD_eq_getElem?_getD, List.getElem?_eq_getElem (by simpa using h0)]; rfl
  unfold nameB; rw [e, h]; simp
theorem nameB_run (s : ByteArray) (h0 : 0 < s.size) (h1 : s.size ≤ 16) (h : letB (s[0].toNat : Int) = true) : nameB s = ((runN s.data.toList : Int) == (s.size : Int)) := by
  have e : s.data.toList.getD 0 0 = s[0] := by
    rw [List.getD_eq_getElem?_getD, List.getElem?_eq_getElem (by simpa using h0)]; rfl
  have r := runN_all s.data.toList
  have l : s.data.toList.length = s.size := by simp
  rw [l] at r
  unfold nameB; rw [e, h, decide_eq_true (by omega), Bool.true_and, Bool.true_and, Bool.eq_iff_iff, ← r]
  simp only [beq_iff_eq]; omega
theorem list_empty (s : ByteArray) : s.toList.isEmpty = true ↔ s.size = 0 := by
  rw [List.isEmpty_iff_length_eq_zero, ByteArray.toList_eq, show s.data.toList.length = s.size by simp]
set_option maxHeartbeats 1000000 in
theorem name_any (s : ByteArray) (w : World) (hs : s.size ≤ maxLen) :
    Calls Try.prog 50 #[.string s] w fun e w' => e = .returned (.bool (nameB s)) ∧ w = w' := by
  have hs' := hs
  unfold maxLen at hs'
  by_cases h0 : s.size = 0
  · have T := Lib.hid (nameB_false1 s (.inl h0))
    have he : s.toList.isEmpty = true := (list_empty s).2 h0
    clear h0 hs
    go_enter Try.func50, Try.ntmps50
    go_wp2
    go_ret
    exact ⟨ret_b T.out.symm, rfl⟩
  have hne : s.toList.isEmpty = false := by
    rw [← Bool.not_eq_true, list_empty]; exact h0
  have h1 : 0 < s.size := by omega
  clear h0
  by_cases h16 : s.size ≤ 16
  · rcases Bool.eq_false_or_eq_true (letB (s[0].toNat : Int)) with hl | hl
    · have T := Lib.hid (nameB_run s h1 h16 hl)
      go_enter Try.func50, Try.ntmps50
      go_wp2_with (first | (go_at_call 70; refine (letter_any _ _).mono ?_; rintro e w' ⟨rfl, rfl⟩) | (go_at_call 71; refine (run_any _ _ hs).mono ?_; rintro e w' ⟨rfl, rfl⟩))
      go_ret
      exact ⟨ret_b T.out.symm, rfl⟩
    · have T := Lib.hid (nameB_let s h1 hl)
      go_enter Try.func50, Try.ntmps50
      go_wp2_with (first | (go_at_call 70; refine (letter_any _ _).mono ?_; rintro e w' ⟨rfl, rfl⟩) | (go_at_call 71; refine (run_any _ _ hs).mono ?_; rintro e w' ⟨rfl, rfl⟩))
      go_ret
      exact ⟨ret_b T.out.symm, rfl⟩
  · have T := Lib.hid (nameB_false1 s (.inr (by omega)))
    have h17 : 16 < s.size := by omega
    go_enter Try.func50, Try.ntmps50
    go_wp2_with (first | (go_at_call 70; refine (letter_any _ _).mono ?_; rintro e w' ⟨rfl, rfl⟩) | (go_at_call 71; refine (run_any _ _ hs).mono ?_; rintro e w' ⟨rfl, rfl⟩))
    go_ret
    exact ⟨ret_b T.out.symm, rfl⟩
end Go.Proofs.Yteppoghpfcmhhaa
