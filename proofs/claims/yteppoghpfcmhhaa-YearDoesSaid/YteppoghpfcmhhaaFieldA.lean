/- Contracts of the packages field and lex: numbers and signs. -/
import Derived.Test.YteppoghpfcmhhaaKitU
import Derived.Test.YteppoghpfcmhhaaMathI
namespace Go.Proofs.Yteppoghpfcmhhaa
set_option linter.unusedVariables false
set_option linter.unusedSimpArgs false
open Go.RowKit
/-- a calendar as a value -/
abbrev calA (c : CalI) : Value := .agg #[.string c.name, .int .i64 c.kind, .int .i64 c.day, .int .i64 c.month, .int .i64 c.shift, .int .i64 c.shape, .int .i64 c.p0, .int .i64 c.p1, .int .i64 c.p2, .int .i64 c.cycle, .int .i64 c.extra, .int .i64 c.first, .int .i64 c.last, .int .i64 c.policy]
def btwB (n a b : Int) : Bool := decide (a ≤ n ∧ n ≤ b)
theorem btw_true {n a b : Int} (h1 : a ≤ n) (h2 : n ≤ b) : btwB n a b = true := by unfold btwB; simp [h1, h2]
theorem btw_false {n a b : Int} (h : n < a ∨ b < n) : btwB n a b = false := by unfold btwB; simp; omega
theorem btw_cases (n a b : Int) : (btwB n a b = true ∧ a ≤ n ∧ n ≤ b) ∨ (btwB n a b = false ∧ (n < a ∨ (a ≤ n ∧ b < n))) := by
  by_cases h : a ≤ n ∧ n ≤ b
  · exact .inl ⟨btw_true h.1 h.2, h.1, h.2⟩
  · exact .inr ⟨btw_false (by omega), by omega⟩
set_option maxHeartbeats 400000 in
theorem between_any (n a b : Int) (w : World) :
    Calls Try.prog 49 #[.int .i64 n, .int .i64 a, .int .i64 b] w fun e w' => e = .returned (.bool (btwB n a b)) ∧ w = w' := by
  have T := Lib.hid (show btwB n a b = decide (a ≤ n ∧ n ≤ b) from rfl)
  by_cases h1 : a ≤ n
  all_goals
    go_enter Try.func49, Try.ntmps49
    go_wp2
    go_ret
    exact ⟨ret_b (by rw [T.out]; first | (simp [h1]; done) | (simp [h1]; omega)), rfl⟩
def manyI (shape cycle : Int) : Int := if shape = 2 then 13 else if shape = 3 ∧ 0 < cycle then 52 / cycle else if 1 ≤ shape ∧ shape ≤ 5 then 12 else 0
set_option maxHeartbeats 400000 in
theorem many_p (s c : Int) (w : World) :
    Calls Try.prog 83 #[.int .i64 s, .int .i64 c] w fun e w' => e = .returned (.int .i64 (manyI s c)) ∧ w = w' := by
  by_cases h2 : s = 2
  · subst h2
    have T := Lib.hid (show manyI 2 c = 13 from rfl)
    go_enter Try.func83, Try.ntmps83
    go_wp2
    go_ret
    exact ⟨ret_i T.out.symm, rfl⟩
  have b2 : (s == 2) = false := by simpa using h2
  by_cases h3 : s = 3
  · subst h3
    by_cases hc : 0 < c
    · have T := Lib.hid (show manyI 3 c = 52 / c by unfold manyI; rw [if_neg (by decide), if_pos ⟨rfl, hc⟩])
      clear b2 h2
      go_enter Try.func83, Try.ntmps83
      go_wp2
      go_ret
      exact ⟨ret_i T.out.symm, rfl⟩
    · have T := Lib.hid (show manyI 3 c = 12 by unfold manyI; rw [if_neg (by decide), if_neg (fun h => hc h.2)]; rfl)
      clear b2 h2
      go_enter Try.func83, Try.ntmps83
      go_wp2
      go_ret
      exact ⟨ret_i T.out.symm, rfl⟩
  have b3 : (s == 3) = false := by simpa using h3
  have T := Lib.hid (show manyI s c = if 1 ≤ s ∧ s ≤ 5 then 12 else 0 by unfold manyI; rw [if_neg h2, if_neg (fun h => h3 h.1)])
  clear h2 h3
  by_cases h1 : 1 ≤ s
  · by_cases h5 : s ≤ 5
    all_goals
      go_enter Try.func83, Try.ntmps83
      go_wp2
      go_ret
      exact ⟨ret_i (by rw [T.out]; first | rw [if_pos (by omega)] | rw [if_neg (by omega)]), rfl⟩
  · go_enter Try.func83, Try.ntmps83
    go_wp2
    go_ret
    exact ⟨ret_i (by rw [T.out]; first | rw [if_pos (by omega)] | rw [if_neg (by omega)]), rfl⟩
set_option maxHeartbeats 400000 in
theorem letter_any (b : Int) (w : World) :
    Calls Try.prog 70 #[.int .u8 b] w fun e w' => e = .returned (.bool (letB b)) ∧ w = w' := by
  have T := Lib.hid (show letB b = decide (97 ≤ b ∧ b ≤ 122) from rfl)
  by_cases h1 : 97 ≤ b
  all_goals
    go_enter Try.func70, Try.ntmps70
    go_wp2
    go_ret
    exact ⟨ret_b (by rw [T.out]; first | (simp [h1]; done) | (simp [h1]; omega)), rfl⟩
def digB (b : Int) : Bool := decide (48 ≤ b ∧ b ≤ 57)
set_option maxHeartbeats 400000 in
theorem digit_any (b : Int) (w : World) :
    Calls Try.prog 80 #[.int .u8 b] w fun e w' => e = .returned (.bool (digB b)) ∧ w = w' := by
  have T := Lib.hid (show digB b = decide (48 ≤ b ∧ b ≤ 57) from rfl)
  by_cases h1 : 48 ≤ b
  all_goals
    go_enter Try.func80, Try.ntmps80
    go_wp2
    go_ret
    exact ⟨ret_b (by rw [T.out]; first | (simp [h1]; done) | (simp [h1]; omega)), rfl⟩
theorem inn_ways (b : Int) : (letB b = true ∧ innB b = true) ∨ (letB b = false ∧ digB b = true ∧ innB b = true) ∨ (letB b = false ∧ digB b = false ∧ innB b = decide (b = 45)) := by
  unfold letB digB innB
  by_cases h1 : 97 ≤ b ∧ b ≤ 122
  · exact .inl ⟨by simp [h1], by simp [h1]⟩
  · by_cases h2 : 48 ≤ b ∧ b ≤ 57
    · exact .inr (.inl ⟨by simp; omega, by simp [h2], by simp [h2]⟩)
    · exact .inr (.inr ⟨by simp; omega, by simp; omega, by simp only [h1, h2, false_or]⟩)
set_option maxHeartbeats 400000 in
theorem inner_any (b : Int) (w : World) :
    Calls Try.prog 72 #[.int .u8 b] w fun e w' => e = .returned (.bool (innB b)) ∧ w = w' := by
  rcases inn_ways b with ⟨h1, h2⟩ | ⟨h1, h2, h3⟩ | ⟨h1, h2, h3⟩
  · have T := Lib.hid h2
    clear h2
    go_enter Try.func72, Try.ntmps72
    go_wp2_with (first | (go_at_call 70; refine (letter_any _ _).mono ?_; rintro e w' ⟨rfl, rfl⟩) | (go_at_call 80; refine (digit_any _ _).mono ?_; rintro e w' ⟨rfl, rfl⟩))
    go_ret
    exact ⟨ret_b T.out.symm, rfl⟩
  · have T := Lib.hid h3
    clear h3
    go_enter Try.func72, Try.ntmps72
    go_wp2_with (first | (go_at_call 70; refine (letter_any _ _).mono ?_; rintro e w' ⟨rfl, rfl⟩) | (go_at_call 80; refine (digit_any _ _).mono ?_; rintro e w' ⟨rfl, rfl⟩))
    go_ret
    exact ⟨ret_b T.out.symm, rfl⟩
  · have T := Lib.hid h3
    clear h3
    go_enter Try.func72, Try.ntmps72
    go_wp2_with (first | (go_at_call 70; refine (letter_any _ _).mono ?_; rintro e w' ⟨rfl, rfl⟩) | (go_at_call 80; refine (digit_any _ _).mono ?_; rintro e w' ⟨rfl, rfl⟩))
    go_ret
    exact ⟨ret_b (by rw [T.out]; first | rfl | (rw [Bool.eq_iff_iff]; simp)), rfl⟩
end Go.Proofs.Yteppoghpfcmhhaa
