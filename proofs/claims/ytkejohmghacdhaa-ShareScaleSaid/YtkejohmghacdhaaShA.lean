/- share.all: the weights together. -/
import Derived.Test.YtkejohmghacdhaaSumA
namespace Go.Proofs.Ytkejohmghacdhaa
set_option linter.unusedVariables false
set_option linter.unusedSimpArgs false
open Go.RowKit
/-- one is below 0 -/
def negB (xs : List Int) : Bool := xs.any fun x => decide (x < 0)
def allE (xs : List Int) : Int := if 4096 < xs.length then 6 else if negB xs = true then 1 else if errN (sumI xs) = 0 then (if sumI xs = 0 then 3 else 0) else errN (sumI xs)
def allN (xs : List Int) : Int := if 4096 < xs.length then 0 else if negB xs = true then 0 else capN (sumI xs)
theorem negB_true {xs : List Int} (h : negB xs = true) : ∃ p, p < xs.length ∧ xs.getD p 0 < 0 ∧ ∀ j, j < p → 0 ≤ xs.getD j 0 := by
  induction xs with
  | nil => simp [negB] at h
  | cons x r ih =>
    by_cases hx : x < 0
    · exact ⟨0, by simp, by simpa using hx, fun j hj => by omega⟩
    · have : negB r = true := by
        unfold negB at h ⊢
        rw [List.any_cons, decide_eq_false hx, Bool.false_or] at h
        exact h
      obtain ⟨p, h1, h2, h3⟩ := ih this
      refine ⟨p + 1, by simp; omega, by simpa using h2, fun j hj => ?_⟩
      cases j with
      | zero => simp; omega
      | succ j => have := h3 j (by omega); simpa using this
theorem negB_false {xs : List Int} (h : negB xs = false) (j : Nat) : 0 ≤ xs.getD j 0 := by
  by_cases hj : j < xs.length
  · unfold negB at h
    rw [List.any_eq_false] at h
    have := h xs[j] (List.getElem_mem hj)
    simp [List.getD, hj]
    simpa using this
  · simp [List.getD, Nat.le_of_not_lt hj]
theorem allNeg_any (x : Int) (w : World) : Calls Try.prog 71 #[.int .i64 x] w fun e w' => e = .returned (.bool (decide (x < 0))) ∧ w = w' := by
  go_enter Try.func71, Try.ntmps71
  go_wp2
  go_ret
  exact ⟨rfl, rfl⟩
theorem allNeg_yes (x : Int) (w : World) (h : x < 0) : Calls Try.prog 71 #[.int .i64 x] w fun e w' => e = .returned (.bool true) ∧ w = w' := by
  have := allNeg_any x w
  rwa [decide_eq_true h] at this
theorem allNeg_no (x : Int) (w : World) (h : ¬ x < 0) : Calls Try.prog 71 #[.int .i64 x] w fun e w' => e = .returned (.bool false) ∧ w = w' := by
  have := allNeg_any x w
  rwa [decide_eq_false h] at this
/-- where the first one stands that is below 0 (m: none of n, where p = n) -/
theorem index_any (xs : List Int) (b off cap n p : Nat) (w : World) (hn : n ≤ 9223372036854775807) (hl : xs.length = n) (hp : p ≤ n) (hpos : ∀ j, j < p → ¬ xs.getD j 0 < 0) (hneg : p < n → xs.getD p 0 < 0) (hc : ∀ j, j < n → w.cell? ⟨b, off + j, none⟩ = some (.int .i64 (xs.getD j 0))) :
    Calls Try.prog 85 #[.slice (some ⟨b, off, none⟩) n cap, .func (.func 71) #[] #[]] w fun e w' => e = .returned (.int .i64 (if p < n then (p : Int) else -1)) ∧ w = w' := by
  have HP := Lib.hid hpos
  have HNG := Lib.hid hneg
  have HC := Lib.hid hc
  have eg : ∀ args w, (callFunc 71 args).run Try.prog w = .ok (.enter 71 args) w := enters_of Try.func71 (by kernel_rfl) rfl
  clear hpos hneg hc hl
  go_enter Try.func85, Try.ntmps85
  go_wp2
  go_loop [8] (fun i => ∃ k : Nat, k ≤ p ∧ i = .int .i64 k) (fun i => n - (intOf i).toNat)
  case atStart => exact ⟨0, by omega, rfl⟩
  case round =>
    obtain ⟨k, hk, rfl⟩ := hrel
    by_cases hlt : k < p
    · have hz : (k : Int) < (n : Int) := by omega
      have hcell := HC.out k (by omega)
      have hx := HP.out k hlt
      generalize xs.getD k 0 = x at *
      go_wp2_with fail
      refine (allNeg_no _ _ (by omega)).mono ?_
      rintro e w' ⟨rfl, rfl⟩
      go_wp2
      go_round
      case rel => exact ⟨k + 1, by omega, by go_num⟩
      case measure => simp [intOf]; omega
    · obtain rfl : k = p := by omega
      by_cases hkn : k < n
      · have hz : (k : Int) < (n : Int) := by omega
        have hcell := HC.out k hkn
        have hx := HNG.out hkn
        generalize xs.getD k 0 = x at *
        go_wp2_with fail
        refine (allNeg_yes _ _ (by omega)).mono ?_
        rintro e w' ⟨rfl, rfl⟩
        go_wp2
        go_ret
        exact ⟨ret_i (by first | rfl | rw [if_pos hkn] | simp [hkn]), rfl⟩
      · have hz : ¬ (k : Int) < (n : Int) := by omega
        go_wp2
        go_ret
        exact ⟨ret_i (by first | rfl | rw [if_neg hkn] | simp [hkn]), rfl⟩
theorem index_empty (a : Option Addr) (cap : Nat) (v : Value) (w : World) :
    Calls Try.prog 85 #[.slice a 0 cap, v] w fun e w' => e = .returned (.int .i64 (-1)) ∧ w = w' := by
  go_enter Try.func85, Try.ntmps85
  go_wp2
  refine wp_loop_rounds 1 ?_
  rw [rounds_succ]
  go_wp2
  go_ret
  exact ⟨rfl, rfl⟩
theorem index_sl (xs : List Int) (a : Option Addr) (cap : Nat) (w : World) (hn : xs.length ≤ 9223372036854775807) (hs : SlI .i64 w a xs) :
    Calls Try.prog 85 #[.slice a xs.length cap, .func (.func 71) #[] #[]] w fun e w' => (∃ q : Int, (0 ≤ q ↔ negB xs = true) ∧ e = .returned (.int .i64 q)) ∧ w = w' := by
  by_cases h : xs = []
  · subst h
    exact (index_empty a cap _ w).mono fun _ _ ⟨he, hw⟩ => ⟨⟨-1, by simp [negB], he⟩, hw⟩
  · have hl : 0 < xs.length := by cases xs; exact absurd rfl h; simp
    obtain ⟨b, off, rfl, hb, hc⟩ := hs.at 0 hl
    rcases hN : negB xs with _ | _
    · exact (index_any xs b off cap xs.length xs.length w hn rfl (Nat.le_refl _) (fun j _ => by have := negB_false hN j; omega) (fun h => absurd h (Nat.lt_irrefl _)) hc).mono fun _ _ ⟨he, hw⟩ => ⟨⟨-1, by simp, by rw [he, if_neg (Nat.lt_irrefl _)]⟩, hw⟩
    · obtain ⟨p, h1, h2, h3⟩ := negB_true hN
      exact (index_any xs b off cap xs.length p w hn rfl (Nat.le_of_lt h1) (fun j hj => by have := h3 j hj; omega) (fun _ => h2) hc).mono fun _ _ ⟨he, hw⟩ => ⟨⟨p, by simp, by rw [he, if_pos h1]⟩, hw⟩
/-- a test's answer, kept whole -/
def NegIs (xs : List Int) (q : Int) : Prop := 0 ≤ q ↔ negB xs = true
theorem contains_any (xs : List Int) (a : Option Addr) (cap : Nat) (w : World) (hn : xs.length ≤ 9223372036854775807) (hs : SlI .i64 w a xs) :
    Calls Try.prog 70 #[.slice a xs.length cap, .func (.func 71) #[] #[]] w fun e w' => e = .returned (.bool (negB xs)) ∧ w = w' := by
  have C := index_sl xs a cap w hn hs
  clear hs
  generalize xs.length = n at *
  go_enter Try.func70, Try.ntmps70
  go_wp2_with fail
  refine C.mono ?_
  rintro e w' ⟨⟨q, hq, rfl⟩, rfl⟩
  have HQ : Hid (decide (0 ≤ q) = negB xs) := by
    show _ = _
    by_cases h : 0 ≤ q
    · rw [decide_eq_true h, hq.1 h]
    · rw [decide_eq_false h]; cases h2 : negB xs; rfl; exact absurd (hq.2 h2) h
  clear hq C
  go_wp2
  go_ret
  exact ⟨ret_b HQ.out, rfl⟩
set_option maxHeartbeats 1000000 in
theorem all_any (xs : List Int) (a : Option Addr) (cap : Nat) (w : World) (hn : xs.length ≤ 9223372036854775807) (hx : ∀ k, k < xs.length → In (xs.getD k 0)) (hs : SlI .i64 w a xs) :
    Calls Try.prog 48 #[.slice a xs.length cap] w fun e w' => e = .returned (.tuple #[.int .i64 (allN xs), .int .i64 (allE xs)]) ∧ Below w.heap.size w w' := by
  have A := Lib.hid (fun w hs => contains_any xs a cap w hn hs)
  have B := Lib.hid (fun w hs => wsum_any xs a cap w hn hx hs)
  have HS := Lib.hid hs
  have E := Lib.hid (show allE xs = if 4096 < xs.length then 6 else if negB xs = true then 1 else if errN (sumI xs) = 0 then (if sumI xs = 0 then 3 else 0) else errN (sumI xs) from rfl)
  have N := Lib.hid (show allN xs = if 4096 < xs.length then 0 else if negB xs = true then 0 else capN (sumI xs) from rfl)
  have F : Hid (errN (sumI xs) = 0 → capN (sumI xs) = sumI xs) := fun h => by unfold errN at h; unfold capN; split at h; rw [if_pos ‹_›]; omega
  clear hx hs
  generalize allE xs = ae at *
  generalize allN xs = an at *
  generalize capN (sumI xs) = v at *
  generalize errN (sumI xs) = u at *
  generalize sumI xs = s at *
  generalize hb : negB xs = nb at *
  generalize xs.length = n at *
  by_cases h : 4096 < n
  · have hz : (4096 : Int) < (n : Int) := by omega
    go_enter Try.func48, Try.ntmps48
    go_wp2
    go_ret2
    exact ⟨ret_ii (by rw [N.out]; simp [h]) (by rw [E.out]; simp_all), Below.refl _ _⟩
  · have hz : ¬ (4096 : Int) < (n : Int) := by omega
    cases nb
    · by_cases hu : u = 0
      · by_cases hs0 : s = 0
        · have hv : v = 0 := by rw [F.out hu, hs0]
          subst hu
          subst hv
          go_enter Try.func48, Try.ntmps48
          go_wp2_with fail
          refine (A.out _ HS.out).mono ?_
          rintro e w1 ⟨rfl, rfl⟩
          go_wp2_with fail
          refine (B.out _ HS.out).mono ?_
          rintro e w2 ⟨rfl, hb2⟩
          go_wp2
          go_ret2
          exact ⟨ret_ii (by rw [N.out]; simp [h]) (by rw [E.out]; simp_all), hb2⟩
        · have hv : (v == 0) = false := by rw [F.out hu]; simp [hs0]
          subst hu
          go_enter Try.func48, Try.ntmps48
          go_wp2_with fail
          refine (A.out _ HS.out).mono ?_
          rintro e w1 ⟨rfl, rfl⟩
          go_wp2_with fail
          refine (B.out _ HS.out).mono ?_
          rintro e w2 ⟨rfl, hb2⟩
          go_wp2
          go_ret2
          exact ⟨ret_ii (by rw [N.out]; simp [h]) (by rw [E.out]; simp_all), hb2⟩
      · have hv : (u == 0) = false := by simp [hu]
        go_enter Try.func48, Try.ntmps48
        go_wp2_with fail
        refine (A.out _ HS.out).mono ?_
        rintro e w1 ⟨rfl, rfl⟩
        go_wp2_with fail
        refine (B.out _ HS.out).mono ?_
        rintro e w2 ⟨rfl, hb2⟩
        go_wp2
        go_ret2
        exact ⟨ret_ii (by rw [N.out]; simp [h]) (by rw [E.out]; simp [h, hu]), hb2⟩
    · go_enter Try.func48, Try.ntmps48
      go_wp2_with fail
      refine (A.out _ HS.out).mono ?_
      rintro e w1 ⟨rfl, rfl⟩
      go_wp2
      go_ret2
      exact ⟨ret_ii (by rw [N.out]; simp [h]) (by rw [E.out]; simp_all), Below.refl _ _⟩
end Go.Proofs.Ytkejohmghacdhaa
