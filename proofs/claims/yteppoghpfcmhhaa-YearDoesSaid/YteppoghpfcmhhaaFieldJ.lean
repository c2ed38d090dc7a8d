/- Contracts of the references' chapters 8 and 11: names, and whether a calendar may be. -/
import Derived.Test.YteppoghpfcmhhaaFieldI
namespace Go.Proofs.Yteppoghpfcmhhaa
set_option linter.unusedVariables false
set_option linter.unusedSimpArgs false
open Go.RowKit
set_option maxHeartbeats 400000 in
theorem rletter_any (b : Int) (w : World) :
    Calls Try.prog 78 #[.int .u8 b] w fun e w' => e = .returned (.bool (letB b)) ∧ w = w' := by
  have T := Lib.hid (show letB b = decide (97 ≤ b ∧ b ≤ 122) from rfl)
  by_cases h1 : 97 ≤ b
  all_goals
    go_enter Try.func78, Try.ntmps78
    go_wp2
    go_ret
    exact ⟨ret_b (by rw [T.out]; first | (simp [h1]; done) | (simp [h1]; omega)), rfl⟩
set_option maxHeartbeats 400000 in
theorem rdigit_any (b : Int) (w : World) :
    Calls Try.prog 84 #[.int .u8 b] w fun e w' => e = .returned (.bool (digB b)) ∧ w = w' := by
  have T := Lib.hid (show digB b = decide (48 ≤ b ∧ b ≤ 57) from rfl)
  by_cases h1 : 48 ≤ b
  all_goals
    go_enter Try.func84, Try.ntmps84
    go_wp2
    go_ret
    exact ⟨ret_b (by rw [T.out]; first | (simp [h1]; done) | (simp [h1]; omega)), rfl⟩
set_option maxHeartbeats 400000 in
theorem rinner_any (b : Int) (w : World) :
    Calls Try.prog 79 #[.int .u8 b] w fun e w' => e = .returned (.bool (innB b)) ∧ w = w' := by
  rcases inn_ways b with ⟨h1, h2⟩ | ⟨h1, h2, h3⟩ | ⟨h1, h2, h3⟩
  · have T := Lib.hid h2
    clear h2
    go_enter Try.func79, Try.ntmps79
    go_wp2_with (first | (go_at_call 78; refine (rletter_any _ _).mono ?_; rintro e w' ⟨rfl, rfl⟩) | (go_at_call 84; refine (rdigit_any _ _).mono ?_; rintro e w' ⟨rfl, rfl⟩))
    go_ret
    exact ⟨ret_b T.out.symm, rfl⟩
  · have T := Lib.hid h3
    clear h3
    go_enter Try.func79, Try.ntmps79
    go_wp2_with (first | (go_at_call 78; refine (rletter_any _ _).mono ?_; rintro e w' ⟨rfl, rfl⟩) | (go_at_call 84; refine (rdigit_any _ _).mono ?_; rintro e w' ⟨rfl, rfl⟩))
    go_ret
    exact ⟨ret_b T.out.symm, rfl⟩
  · have T := Lib.hid h3
    clear h3
    go_enter Try.func79, Try.ntmps79
    go_wp2_with (first | (go_at_call 78; refine (rletter_any _ _).mono ?_; rintro e w' ⟨rfl, rfl⟩) | (go_at_call 84; refine (rdigit_any _ _).mono ?_; rintro e w' ⟨rfl, rfl⟩))
    go_ret
    exact ⟨ret_b (by rw [T.out]; first | rfl | (rw [Bool.eq_iff_iff]; simp)), rfl⟩
theorem nameB_at (s : ByteArray) (k : Nat) (hk : k < s.size) (hr : k ≤ runN s.data.toList) (h : innB (s[k].toNat : Int) = false) : nameB s = false := by
  have e := (runN_step2 s k hk hr).2 h
  have r := runN_all s.data.toList
  have l : s.data.toList.length = s.size := by simp
  unfold nameB
  rw [Bool.and_eq_false_iff]; right
  rw [Bool.and_eq_false_iff]; right
  rw [← Bool.not_eq_true, ← r]; omega
theorem nameB_end (s : ByteArray) (h0 : 0 < s.size) (h1 : s.size ≤ 16) (h : letB (s[0].toNat : Int) = true) (hr : s.size ≤ runN s.data.toList) : nameB s = true := by
  rw [nameB_run s h0 h1 h]
  have := runN_le s.data.toList
  have l : s.data.toList.length = s.size := by simp
  simp only [beq_iff_eq]; omega
set_option maxHeartbeats 1000000 in
theorem rname_any (s : ByteArray) (w : World) (hs : s.size ≤ maxLen) :
    Calls Try.prog 63 #[.string s] w fun e w' => e = .returned (.bool (nameB s)) ∧ w = w' := by
  unfold maxLen at hs
  by_cases h0 : s.size < 1
  · have T := Lib.hid (nameB_false1 s (.inl (by omega)))
    have h0' : (s.size : Int) < 1 := by omega
    clear h0
    go_enter Try.func63, Try.ntmps63
    go_wp2
    go_ret
    exact ⟨ret_b T.out.symm, rfl⟩
  have h1 : 0 < s.size := by omega
  have h1' : ¬ (s.size : Int) < 1 := by omega
  clear h0
  by_cases h16 : 16 < s.size
  · have T := Lib.hid (nameB_false1 s (.inr h16))
    have h16' : (16 : Int) < s.size := by omega
    go_enter Try.func63, Try.ntmps63
    go_wp2
    go_ret
    exact ⟨ret_b T.out.symm, rfl⟩
  have g16 : s.size ≤ 16 := by omega
  have h16' : ¬ (16 : Int) < s.size := by omega
  clear h16
  rcases Bool.eq_false_or_eq_true (letB (s[0].toNat : Int)) with hl | hl
  · have HL := Lib.hid hl
    go_enter Try.func63, Try.ntmps63
    go_wp2_with (go_at_call 78; refine (rletter_any _ _).mono ?_; rintro e w' ⟨rfl, rfl⟩)
    go_loop [20] (fun i => ∃ k : Nat, k ≤ s.size ∧ k ≤ runN s.data.toList ∧ i = .int .i64 k) (fun i => s.size - (intOf i).toNat)
    case atStart => exact ⟨0, by omega, by omega, rfl⟩
    case round =>
      obtain ⟨k, hk, hr, rfl⟩ := hrel
      by_cases hlt : k < s.size
      · have R := runN_step2 s k hlt hr
        rcases Bool.eq_false_or_eq_true (innB (s[k].toNat : Int)) with hb | hb
        · have g1 := R.1 hb
          clear R
          go_wp2_with (go_at_call 79; refine (rinner_any _ _).mono ?_; rintro e w' ⟨rfl, rfl⟩)
          go_round
          case rel => exact ⟨k + 1, by omega, by omega, by go_num⟩
          case measure => simp [intOf]; omega
        · have T := Lib.hid (nameB_at s k hlt hr hb)
          clear R
          go_wp2_with (go_at_call 79; refine (rinner_any _ _).mono ?_; rintro e w' ⟨rfl, rfl⟩)
          go_ret
          exact ⟨ret_b T.out.symm, rfl⟩
      · have T := Lib.hid (nameB_end s h1 g16 HL.out (by omega))
        go_wp2_with fail
        go_ret
        exact ⟨ret_b T.out.symm, rfl⟩
  · have T := Lib.hid (nameB_let s h1 hl)
    go_enter Try.func63, Try.ntmps63
    go_wp2_with (go_at_call 78; refine (rletter_any _ _).mono ?_; rintro e w' ⟨rfl, rfl⟩)
    go_ret
    exact ⟨ret_b T.out.symm, rfl⟩
def many11 (c : CalI) : Int := if c.shape = 1 ∨ c.shape = 4 ∨ c.shape = 5 then 12 else if c.shape = 2 then 13 else if c.shape = 3 ∧ 0 < c.cycle then 52 / c.cycle else 0
set_option maxHeartbeats 2000000 in
theorem rmany_any (c : CalI) (w : World) :
    Calls Try.prog 65 #[calA c] w fun e w' => e = .returned (.int .i64 (many11 c)) ∧ Below w.heap.size w w' := by
  by_cases h1 : c.shape = 1 ∨ c.shape = 4 ∨ c.shape = 5
  · have T := Lib.hid (show many11 c = 12 by unfold many11; rw [if_pos h1])
    rcases h1 with h | h | h
    all_goals
      go_enter Try.func65, Try.ntmps65
      go_wp2
      go_ret
      exact ⟨ret_i T.out.symm, (by repeat (with_reducible (first | exact Below.refl _ _ | assumption | refine bl_alloc ?_ _ | refine bl_drewN ?_ _ | refine bl_drew ?_ | refine bl_call ?_ (by assumption) | (refine bl_setCell ?_ _ (Nat.le_refl _)) | (refine bl_setCell ?_ _ (by simp)))))⟩
  by_cases h2 : c.shape = 2
  · have T := Lib.hid (show many11 c = 13 by unfold many11; rw [if_neg h1, if_pos h2])
    clear h1
    go_enter Try.func65, Try.ntmps65
    go_wp2
    go_ret
    exact ⟨ret_i T.out.symm, (by repeat (with_reducible (first | exact Below.refl _ _ | assumption | refine bl_alloc ?_ _ | refine bl_drewN ?_ _ | refine bl_drew ?_ | refine bl_call ?_ (by assumption) | (refine bl_setCell ?_ _ (Nat.le_refl _)) | (refine bl_setCell ?_ _ (by simp)))))⟩
  by_cases h3 : c.shape = 3
  · by_cases hc : 0 < c.cycle
    · have T := Lib.hid (show many11 c = 52 / c.cycle by unfold many11; rw [if_neg h1, if_neg h2, if_pos ⟨h3, hc⟩])
      clear h1 h2
      go_enter Try.func65, Try.ntmps65
      go_wp2
      go_ret
      exact ⟨ret_i T.out.symm, (by repeat (with_reducible (first | exact Below.refl _ _ | assumption | refine bl_alloc ?_ _ | refine bl_drewN ?_ _ | refine bl_drew ?_ | refine bl_call ?_ (by assumption) | (refine bl_setCell ?_ _ (Nat.le_refl _)) | (refine bl_setCell ?_ _ (by simp)))))⟩
    · have T := Lib.hid (show many11 c = 0 by unfold many11; rw [if_neg h1, if_neg h2, if_neg (fun h => hc h.2)])
      clear h1 h2
      go_enter Try.func65, Try.ntmps65
      go_wp2
      go_ret
      exact ⟨ret_i T.out.symm, (by repeat (with_reducible (first | exact Below.refl _ _ | assumption | refine bl_alloc ?_ _ | refine bl_drewN ?_ _ | refine bl_drew ?_ | refine bl_call ?_ (by assumption) | (refine bl_setCell ?_ _ (Nat.le_refl _)) | (refine bl_setCell ?_ _ (by simp)))))⟩
  · have T := Lib.hid (show many11 c = 0 by unfold many11; rw [if_neg h1, if_neg h2, if_neg (fun h => h3 h.1)])
    have b1 : (c.shape == 1) = false := by simp; omega
    have b2 : (c.shape == 2) = false := by simp; omega
    have b3 : (c.shape == 3) = false := by simp; omega
    have b4 : (c.shape == 4) = false := by simp; omega
    have b5 : (c.shape == 5) = false := by simp; omega
    clear h1 h2 h3
    go_enter Try.func65, Try.ntmps65
    go_wp2
    go_ret
    exact ⟨ret_i T.out.symm, (by repeat (with_reducible (first | exact Below.refl _ _ | assumption | refine bl_alloc ?_ _ | refine bl_drewN ?_ _ | refine bl_drew ?_ | refine bl_call ?_ (by assumption) | (refine bl_setCell ?_ _ (Nat.le_refl _)) | (refine bl_setCell ?_ _ (by simp)))))⟩
def shapedB (c : CalI) : Bool := decide ((c.shape = 1 ∨ (c.p0 = 0 ∧ c.p1 = 0 ∧ c.p2 = 0)) ∧ (c.shape = 3 ∨ c.cycle = 0) ∧ ((c.shape = 1 ∧ ((c.p0 = 4 ∧ c.p1 = 4 ∧ c.p2 = 5) ∨ (c.p0 = 4 ∧ c.p1 = 5 ∧ c.p2 = 4) ∨ (c.p0 = 5 ∧ c.p1 = 4 ∧ c.p2 = 4))) ∨ c.shape = 2 ∨ (c.shape = 3 ∧ (c.cycle = 1 ∨ c.cycle = 2 ∨ c.cycle = 4))))
theorem weeks_shaped (c : CalI) : weeksB c = (shapedB c && (decide (1 ≤ c.extra) && decide (c.extra ≤ many11 c))) := by
  rw [Bool.eq_iff_iff]; unfold weeksB shapedB many11; simp only [Bool.and_eq_true, decide_eq_true_eq]
  by_cases h1 : c.shape = 1
  · simp only [h1]; simp; omega
  by_cases h2 : c.shape = 2
  · simp only [h2]; simp; omega
  by_cases h3 : c.shape = 3
  · simp only [h3]
    by_cases z1 : c.cycle = 1
    · rw [z1]; simp; omega
    by_cases z2 : c.cycle = 2
    · rw [z2]; simp; omega
    by_cases z4 : c.cycle = 4
    · rw [z4]; simp; omega
    simp [z1, z2, z4]
  simp [h1, h2, h3]
theorem pat_ways (a b c : Int) : (((a = 4 ∧ b = 4 ∧ c = 5) ∨ (a = 4 ∧ b = 5 ∧ c = 4) ∨ (a = 5 ∧ b = 4 ∧ c = 4)) ∧ eq3B a b c 4 4 5 = true) ∨ (((a = 4 ∧ b = 4 ∧ c = 5) ∨ (a = 4 ∧ b = 5 ∧ c = 4) ∨ (a = 5 ∧ b = 4 ∧ c = 4)) ∧ eq3B a b c 4 4 5 = false ∧ eq3B a b c 4 5 4 = true) ∨
    (eq3B a b c 4 4 5 = false ∧ eq3B a b c 4 5 4 = false ∧ (((a = 4 ∧ b = 4 ∧ c = 5) ∨ (a = 4 ∧ b = 5 ∧ c = 4) ∨ (a = 5 ∧ b = 4 ∧ c = 4)) ↔ eq3B a b c 5 4 4 = true)) := by
  simp only [← Bool.not_eq_true, eq3B_iff]; omega
set_option maxHeartbeats 4000000 in
theorem shaped_any (c : CalI) (w : World) :
    Calls Try.prog 64 #[calA c] w fun e w' => e = .returned (.bool (shapedB c)) ∧ Below w.heap.size w w' := by
  by_cases h1 : c.shape = 1
  · rcases Bool.eq_false_or_eq_true (c.cycle == 0) with hc | hc
    · have hc' : (c.cycle != 0) = false := by simpa using hc
      have hz : c.cycle = 0 := by simpa using hc
      rcases pat_ways c.p0 c.p1 c.p2 with ⟨P, a1⟩ | ⟨P, a1, a2⟩ | ⟨a1, a2, P⟩
      · have T := Lib.hid (show shapedB c = true by unfold shapedB; simp only [decide_eq_true_eq]; omega)
        clear P hz hc
        go_enter Try.func64, Try.ntmps64
        go_wp2
        go_ret
        exact ⟨ret_b (by rw [T.out]; first | done | rfl | simp), (by repeat (with_reducible (first | exact Below.refl _ _ | assumption | refine bl_alloc ?_ _ | refine bl_drewN ?_ _ | refine bl_drew ?_ | refine bl_call ?_ (by assumption) | (refine bl_setCell ?_ _ (Nat.le_refl _)) | (refine bl_setCell ?_ _ (by simp)))))⟩
      · have T := Lib.hid (show shapedB c = true by unfold shapedB; simp only [decide_eq_true_eq]; omega)
        clear P hz hc
        go_enter Try.func64, Try.ntmps64
        go_wp2
        go_ret
        exact ⟨ret_b (by rw [T.out]; first | done | rfl | simp), (by repeat (with_reducible (first | exact Below.refl _ _ | assumption | refine bl_alloc ?_ _ | refine bl_drewN ?_ _ | refine bl_drew ?_ | refine bl_call ?_ (by assumption) | (refine bl_setCell ?_ _ (Nat.le_refl _)) | (refine bl_setCell ?_ _ (by simp)))))⟩
      · have T := Lib.hid (show shapedB c = eq3B c.p0 c.p1 c.p2 5 4 4 by rw [Bool.eq_iff_iff]; unfold shapedB; simp only [decide_eq_true_eq]; rw [← P]; omega)
        clear P hz hc
        go_enter Try.func64, Try.ntmps64
        go_wp2
        go_ret
        exact ⟨ret_b (by rw [T.out]; first | done | rfl | simp), (by repeat (with_reducible (first | exact Below.refl _ _ | assumption | refine bl_alloc ?_ _ | refine bl_drewN ?_ _ | refine bl_drew ?_ | refine bl_call ?_ (by assumption) | (refine bl_setCell ?_ _ (Nat.le_refl _)) | (refine bl_setCell ?_ _ (by simp)))))⟩
    · have hc' : (c.cycle != 0) = true := by simpa using hc
      have hz : c.cycle ≠ 0 := by simpa using hc
      have T := Lib.hid (show shapedB c = false by unfold shapedB; simp only [decide_eq_false_iff_not]; omega)
      clear hz hc
      go_enter Try.func64, Try.ntmps64
      go_wp2
      go_ret
      exact ⟨ret_b (by rw [T.out]; first | done | rfl | simp), (by repeat (with_reducible (first | exact Below.refl _ _ | assumption | refine bl_alloc ?_ _ | refine bl_drewN ?_ _ | refine bl_drew ?_ | refine bl_call ?_ (by assumption) | (refine bl_setCell ?_ _ (Nat.le_refl _)) | (refine bl_setCell ?_ _ (by simp)))))⟩
  have b1 : (c.shape == 1) = false := by simpa using h1
  have n1 : (c.shape != 1) = true := by simpa using h1
  rcases Bool.eq_false_or_eq_true (eq3B c.p0 c.p1 c.p2 0 0 0) with hp | hp
  · have P := (eq3B_iff _ _ _ _ _ _).1 hp
    by_cases h3 : c.shape = 3
    · rcases cyc_ways c.cycle with ⟨z, h⟩ | ⟨z, g1, h⟩ | ⟨z, g1, g2, h⟩ | ⟨z, g1, g2, h⟩
      all_goals
        have T := Lib.hid (show shapedB c = cycB c.cycle by unfold shapedB cycB; rw [Bool.eq_iff_iff]; simp only [decide_eq_true_eq]; omega)
        have Z := Lib.hid z
        have m1 : (c.shape == 1) = false := b1
        clear z P h1 n1 b1 m1
        go_enter Try.func64, Try.ntmps64
        go_wp2
        go_ret
        exact ⟨ret_b (by rw [T.out, Z.out]; first | done | rfl | simp), (by repeat (with_reducible (first | exact Below.refl _ _ | assumption | refine bl_alloc ?_ _ | refine bl_drewN ?_ _ | refine bl_drew ?_ | refine bl_call ?_ (by assumption) | (refine bl_setCell ?_ _ (Nat.le_refl _)) | (refine bl_setCell ?_ _ (by simp)))))⟩
    have b3 : (c.shape == 3) = false := by simpa using h3
    have n3 : (c.shape != 3) = true := by simpa using h3
    rcases Bool.eq_false_or_eq_true (c.cycle == 0) with hc | hc
    · have hc' : (c.cycle != 0) = false := by simpa using hc
      have hz : c.cycle = 0 := by simpa using hc
      rcases Bool.eq_false_or_eq_true (c.shape == 2) with h2 | h2
      · have e2 : c.shape = 2 := by simpa using h2
        have T := Lib.hid (show shapedB c = true by unfold shapedB; simp only [decide_eq_true_eq]; omega)
        clear P hz hc e2 h1 h3
        go_enter Try.func64, Try.ntmps64
        go_wp2
        go_ret
        exact ⟨ret_b (by rw [T.out]; first | done | rfl | simp), (by repeat (with_reducible (first | exact Below.refl _ _ | assumption | refine bl_alloc ?_ _ | refine bl_drewN ?_ _ | refine bl_drew ?_ | refine bl_call ?_ (by assumption) | (refine bl_setCell ?_ _ (Nat.le_refl _)) | (refine bl_setCell ?_ _ (by simp)))))⟩
      · have e2 : c.shape ≠ 2 := by simpa using h2
        have T := Lib.hid (show shapedB c = false by unfold shapedB; simp only [decide_eq_false_iff_not]; omega)
        clear P hz hc e2 h1 h3
        go_enter Try.func64, Try.ntmps64
        go_wp2
        go_ret
        exact ⟨ret_b (by rw [T.out]; first | done | rfl | simp), (by repeat (with_reducible (first | exact Below.refl _ _ | assumption | refine bl_alloc ?_ _ | refine bl_drewN ?_ _ | refine bl_drew ?_ | refine bl_call ?_ (by assumption) | (refine bl_setCell ?_ _ (Nat.le_refl _)) | (refine bl_setCell ?_ _ (by simp)))))⟩
    · have hc' : (c.cycle != 0) = true := by simpa using hc
      have hz : c.cycle ≠ 0 := by simpa using hc
      have T := Lib.hid (show shapedB c = false by unfold shapedB; simp only [decide_eq_false_iff_not]; omega)
      clear P hz hc h1 h3
      go_enter Try.func64, Try.ntmps64
      go_wp2
      go_ret
      exact ⟨ret_b (by rw [T.out]; first | done | rfl | simp), (by repeat (with_reducible (first | exact Below.refl _ _ | assumption | refine bl_alloc ?_ _ | refine bl_drewN ?_ _ | refine bl_drew ?_ | refine bl_call ?_ (by assumption) | (refine bl_setCell ?_ _ (Nat.le_refl _)) | (refine bl_setCell ?_ _ (by simp)))))⟩
  · have P : ¬ (c.p0 = 0 ∧ c.p1 = 0 ∧ c.p2 = 0) := by rw [← eq3B_iff]; simp [hp]
    have T := Lib.hid (show shapedB c = false by unfold shapedB; simp only [decide_eq_false_iff_not]; omega)
    clear P h1
    go_enter Try.func64, Try.ntmps64
    go_wp2
    go_ret
    exact ⟨ret_b (by rw [T.out]; first | done | rfl | simp), (by repeat (with_reducible (first | exact Below.refl _ _ | assumption | refine bl_alloc ?_ _ | refine bl_drewN ?_ _ | refine bl_drew ?_ | refine bl_call ?_ (by assumption) | (refine bl_setCell ?_ _ (Nat.le_refl _)) | (refine bl_setCell ?_ _ (by simp)))))⟩
end Go.Proofs.Yteppoghpfcmhhaa
