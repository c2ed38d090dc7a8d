/- A quotient bit by bit, in plain numbers: no program in sight. -/
import Derived.Test.YtkejohmghacdhaaMathM
import Derived.Test.YtkejohmghacdhaaMathX
namespace Go.Proofs.Ytkejohmghacdhaa
set_option linter.unusedVariables false
set_option linter.unusedSimpArgs false
open Go Go.RowKit
/-- 2 to the t, up to 16 -/
def p2 : Nat → Int
  | 0 => 1
  | t + 1 => 2 * p2 t
theorem p2_pos (t : Nat) : 0 < p2 t := by induction t with
  | zero => decide
  | succ t ih => show 0 < 2 * p2 t; omega
theorem p2_le : ∀ t : Nat, t ≤ 16 → p2 t ≤ 65536 := by
  intro t ht
  have : t = 0 ∨ t = 1 ∨ t = 2 ∨ t = 3 ∨ t = 4 ∨ t = 5 ∨ t = 6 ∨ t = 7 ∨ t = 8 ∨ t = 9 ∨ t = 10 ∨ t = 11 ∨ t = 12 ∨ t = 13 ∨ t = 14 ∨ t = 15 ∨ t = 16 := by omega
  rcases this with rfl | rfl | rfl | rfl | rfl | rfl | rfl | rfl | rfl | rfl | rfl | rfl | rfl | rfl | rfl | rfl | rfl <;> decide
/-- the bit of round t -/
def bt (t : Nat) : Int := if t < 16 then p2 (15 - t) else 0
theorem lt16 {t : Nat} (h : t < 16) : t = 0 ∨ t = 1 ∨ t = 2 ∨ t = 3 ∨ t = 4 ∨ t = 5 ∨ t = 6 ∨ t = 7 ∨ t = 8 ∨ t = 9 ∨ t = 10 ∨ t = 11 ∨ t = 12 ∨ t = 13 ∨ t = 14 ∨ t = 15 := by omega
theorem bt_next (t : Nat) (h : t < 16) : bt t / 2 = bt (t + 1) := by
  rcases lt16 h with rfl | rfl | rfl | rfl | rfl | rfl | rfl | rfl | rfl | rfl | rfl | rfl | rfl | rfl | rfl | rfl <;> decide
theorem bt_bd (t : Nat) : 0 ≤ bt t ∧ bt t ≤ 32768 ∧ (t < 16 → 0 < bt t) := by
  by_cases h : t < 16
  · rcases lt16 h with rfl | rfl | rfl | rfl | rfl | rfl | rfl | rfl | rfl | rfl | rfl | rfl | rfl | rfl | rfl | rfl <;> decide
  · unfold bt; rw [if_neg h]; exact ⟨by decide, by decide, fun h' => absurd h' h⟩
/-- what has been brought down when t bits of digit i are through -/
def PB (n : Int) (i t : Nat) : Int := n / pw i / p2 (16 - t)
theorem PB_zero (n : Int) (i : Nat) (hi : i < 8) : PB n i 0 = n / pw (i + 1) := by
  unfold PB; show n / pw i / 65536 = _; exact word_div i hi
theorem PB_end (n : Int) (i : Nat) : PB n i 16 = n / pw i := by unfold PB; show n / pw i / 1 = _; omega
theorem PB_nonneg {n : Int} (h : 0 ≤ n) (i t : Nat) (hi : i ≤ 8) : 0 ≤ PB n i t := Int.ediv_nonneg (Int.ediv_nonneg h (Int.le_of_lt (pw_pos i hi))) (Int.le_of_lt (p2_pos _))
theorem PB_succ {n : Int} (i t : Nat) (ht : t < 16) : PB n i (t + 1) = 2 * PB n i t + dg n i / bt t % 2 := by
  unfold PB dg
  generalize n / pw i = m
  rcases lt16 ht with rfl | rfl | rfl | rfl | rfl | rfl | rfl | rfl | rfl | rfl | rfl | rfl | rfl | rfl | rfl | rfl
  · rw [show bt 0 = 32768 by decide, show p2 (16 - 0) = 65536 by decide, show p2 (16 - (0 + 1)) = 32768 by decide]; omega
  · rw [show bt 1 = 16384 by decide, show p2 (16 - 1) = 32768 by decide, show p2 (16 - (1 + 1)) = 16384 by decide]; omega
  · rw [show bt 2 = 8192 by decide, show p2 (16 - 2) = 16384 by decide, show p2 (16 - (2 + 1)) = 8192 by decide]; omega
  · rw [show bt 3 = 4096 by decide, show p2 (16 - 3) = 8192 by decide, show p2 (16 - (3 + 1)) = 4096 by decide]; omega
  · rw [show bt 4 = 2048 by decide, show p2 (16 - 4) = 4096 by decide, show p2 (16 - (4 + 1)) = 2048 by decide]; omega
  · rw [show bt 5 = 1024 by decide, show p2 (16 - 5) = 2048 by decide, show p2 (16 - (5 + 1)) = 1024 by decide]; omega
  · rw [show bt 6 = 512 by decide, show p2 (16 - 6) = 1024 by decide, show p2 (16 - (6 + 1)) = 512 by decide]; omega
  · rw [show bt 7 = 256 by decide, show p2 (16 - 7) = 512 by decide, show p2 (16 - (7 + 1)) = 256 by decide]; omega
  · rw [show bt 8 = 128 by decide, show p2 (16 - 8) = 256 by decide, show p2 (16 - (8 + 1)) = 128 by decide]; omega
  · rw [show bt 9 = 64 by decide, show p2 (16 - 9) = 128 by decide, show p2 (16 - (9 + 1)) = 64 by decide]; omega
  · rw [show bt 10 = 32 by decide, show p2 (16 - 10) = 64 by decide, show p2 (16 - (10 + 1)) = 32 by decide]; omega
  · rw [show bt 11 = 16 by decide, show p2 (16 - 11) = 32 by decide, show p2 (16 - (11 + 1)) = 16 by decide]; omega
  · rw [show bt 12 = 8 by decide, show p2 (16 - 12) = 16 by decide, show p2 (16 - (12 + 1)) = 8 by decide]; omega
  · rw [show bt 13 = 4 by decide, show p2 (16 - 13) = 8 by decide, show p2 (16 - (13 + 1)) = 4 by decide]; omega
  · rw [show bt 14 = 2 by decide, show p2 (16 - 14) = 4 by decide, show p2 (16 - (14 + 1)) = 2 by decide]; omega
  · rw [show bt 15 = 1 by decide, show p2 (16 - 15) = 2 by decide, show p2 (16 - (15 + 1)) = 1 by decide]; omega
/-- the digit so far -/
def DB (n b : Int) (i t : Nat) : Int := PB n i t / b - PB n i 0 / b * p2 t
theorem DB_zero (n b : Int) (i : Nat) : DB n b i 0 = 0 := by unfold DB; show _ - _ * 1 = _; omega
theorem bit_step {n b : Int} (i t : Nat) (ht : t < 16) (hb : 0 < b) :
    (b ≤ PB n i t % b * 2 + dg n i / bt t % 2 → PB n i (t + 1) % b = PB n i t % b * 2 + dg n i / bt t % 2 - b ∧ DB n b i (t + 1) = DB n b i t * 2 + 1) ∧
    (PB n i t % b * 2 + dg n i / bt t % 2 < b → PB n i (t + 1) % b = PB n i t % b * 2 + dg n i / bt t % 2 ∧ DB n b i (t + 1) = DB n b i t * 2) := by
  have e := PB_succ (n := n) i t ht
  have v0 : 0 ≤ dg n i / bt t % 2 := by omega
  have v1 : dg n i / bt t % 2 ≤ 1 := by omega
  generalize dg n i / bt t % 2 = v at *
  have r0 : 0 ≤ PB n i t % b := Int.emod_nonneg _ (by omega)
  have r1 : PB n i t % b < b := Int.emod_lt_of_pos _ hb
  have q := Int.mul_ediv_add_emod (PB n i t) b
  have z : PB n i 0 / b * p2 (t + 1) = 2 * (PB n i 0 / b * p2 t) := by show _ * (2 * p2 t) = _; rw [Int.mul_left_comm]
  unfold DB
  rw [z]
  generalize PB n i 0 / b * p2 t = W
  generalize PB n i t / b = Q at *
  generalize PB n i t % b = R at *
  refine ⟨fun h => ?_, fun h => ?_⟩
  · obtain ⟨a1, a2⟩ := ediv_one (a := PB n i (t + 1)) (c := b) (q := 2 * Q + 1) (r := R * 2 + v - b) hb (by rw [e, Int.mul_add, Int.mul_left_comm]; omega) (by omega)
    rw [a1, a2]; exact ⟨rfl, by omega⟩
  · obtain ⟨a1, a2⟩ := ediv_one (a := PB n i (t + 1)) (c := b) (q := 2 * Q) (r := R * 2 + v) hb (by rw [e, Int.mul_left_comm]; omega) (by omega)
    rw [a1, a2]; exact ⟨rfl, by omega⟩
theorem DB_end {n b : Int} (i : Nat) (hi : i < 8) (hb : 0 < b) (h0 : 0 ≤ DB n b i 16) (h1 : DB n b i 16 < 65536) : DB n b i 16 = dg (n / b) i := by
  have e1 : n / b / pw i = n / pw i / b := by rw [Int.ediv_ediv_of_nonneg (Int.le_of_lt hb), Int.ediv_ediv_of_nonneg (Int.le_of_lt (pw_pos i (by omega))), Int.mul_comm]
  have e2 : PB n i 0 / b = n / pw i / b / 65536 := by
    rw [PB_zero n i hi, ← word_div i hi, Int.ediv_ediv_of_nonneg (by decide), Int.mul_comm, ← Int.ediv_ediv_of_nonneg (Int.le_of_lt hb)]
  unfold DB at *
  unfold dg
  rw [e2, PB_end] at *
  rw [e1]
  have : p2 16 = 65536 := by decide
  rw [this] at *
  omega
end Go.Proofs.Ytkejohmghacdhaa
