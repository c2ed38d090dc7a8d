/- Several texts in one (a claim has room for sixty files): ShA ShM ShB Row ShC ShD ShF ShQ. -/
import Derived.Test.YtkejohmghacdhaaDoorSumA
import Derived.Test.YtkejohmghacdhaaDoorDzA
import Derived.Test.YtkejohmghacdhaaDoorSl
import Derived.OwnWalk
import Derived.Laws.OwnMore
import Derived.Test.YtkejohmghacdhaaDoorDivD
import Derived.Deep.DeepCutAuto
import Derived.RegionTactic
import Derived.BigRegion
import Derived.Deep.QuietTactic
import Derived.Test.YtkejohmghacdhaaDoorRatF
/- share.all: the weights together. -/
namespace Go.Proofs.YtkejohmghacdhaaDoor
set_option linter.unusedVariables false
set_option linter.unusedSimpArgs false
open Go.RowKit
/-- one is below 0 -/
def negB (xs : List Int) : Bool := xs.any fun x => decide (x < 0)
def allE (xs : List Int) : Int := if 4096 < xs.length then 6 else if negB xs = true then 1 else if errN (sumI xs) = 0 then (if sumI xs = 0 then 3 else 0) else errN (sumI xs)
def allN (xs : List Int) : Int := if 4096 < xs.length then 0 else if negB xs = true then 0 else capN (sumI xs)
theorem negB_true {xs : List Int} (h : negB xs = true) : ∃ p, p < xs.length ∧ xs.getD p 0 < 0 ∧ ∀ j, j < p → 0 ≤ xs.getD j 0 := by
  induction xs with
  | nil => simp [negB] at h
  | cons x r ih =>
    by_cases hx : x < 0
    · exact ⟨0, by simp, by simpa using hx, fun j hj => by omega⟩
    · have : negB r = true := by
        unfold negB at h ⊢
        rw [List.any_cons, decide_eq_false hx, Bool.false_or] at h
        exact h
      obtain ⟨p, h1, h2, h3⟩ := ih this
      refine ⟨p + 1, by simp; omega, by simpa using h2, fun j hj => ?_⟩
      cases j with
      | zero => simp; omega
      | succ j => have := h3 j (by omega); simpa using this
theorem negB_false {xs : List Int} (h : negB xs = false) (j : Nat) : 0 ≤ xs.getD j 0 := by
  by_cases hj : j < xs.length
  · unfold negB at h
    rw [List.any_eq_false] at h
    have := h xs[j] (List.getElem_mem hj)
    simp [List.getD, hj]
    simpa using this
  · simp [List.getD, Nat.le_of_not_lt hj]
theorem allNeg_any (x : Int) (w : World) : Calls Tryd.prog 70 #[.int .i64 x] w fun e w' => e = .returned (.bool (decide (x < 0))) ∧ w = w' := by
  go_enter Tryd.func70, Tryd.ntmps70
  go_wp2
  go_ret
  exact ⟨rfl, rfl⟩
theorem allNeg_yes (x : Int) (w : World) (h : x < 0) : Calls Tryd.prog 70 #[.int .i64 x] w fun e w' => e = .returned (.bool true) ∧ w = w' := by
  have := allNeg_any x w
  rwa [decide_eq_true h] at this
theorem allNeg_no (x : Int) (w : World) (h : ¬ x < 0) : Calls Tryd.prog 70 #[.int .i64 x] w fun e w' => e = .returned (.bool false) ∧ w = w' := by
  have := allNeg_any x w
  rwa [decide_eq_false h] at this
/-- where the first one stands that is below 0 (m: none of n, where p = n) -/
theorem index_any (xs : List Int) (b off cap n p : Nat) (w : World) (hn : n ≤ 9223372036854775807) (hl : xs.length = n) (hp : p ≤ n) (hpos : ∀ j, j < p → ¬ xs.getD j 0 < 0) (hneg : p < n → xs.getD p 0 < 0) (hc : ∀ j, j < n → w.cell? ⟨b, off + j, none⟩ = some (.int .i64 (xs.getD j 0))) :
    Calls Tryd.prog 84 #[.slice (some ⟨b, off, none⟩) n cap, .func (.func 70) #[] #[]] w fun e w' => e = .returned (.int .i64 (if p < n then (p : Int) else -1)) ∧ w = w' := by
  have HP := Lib.hid hpos
  have HNG := Lib.hid hneg
  have HC := Lib.hid hc
  have eg : ∀ args w, (callFunc 70 args).run Tryd.prog w = .ok (.enter 70 args) w := enters_of Tryd.func70 (by kernel_rfl) rfl
  clear hpos hneg hc hl
  go_enter Tryd.func84, Tryd.ntmps84
  go_wp2
  go_loop [8] (fun i => ∃ k : Nat, k ≤ p ∧ i = .int .i64 k) (fun i => n - (intOf i).toNat)
  case atStart => exact ⟨0, by omega, rfl⟩
  case round =>
    obtain ⟨k, hk, rfl⟩ := hrel
    by_cases hlt : k < p
    · have hz : (k : Int) < (n : Int) := by omega
      have hcell := HC.out k (by omega)
      have hx := HP.out k hlt
      generalize xs.getD k 0 = x at *
      go_wp2_with fail
      refine (allNeg_no _ _ (by omega)).mono ?_
      rintro e w' ⟨rfl, rfl⟩
      go_wp2
      go_round
      case rel => exact ⟨k + 1, by omega, by go_num⟩
      case measure => simp [intOf]; omega
    · obtain rfl : k = p := by omega
      by_cases hkn : k < n
      · have hz : (k : Int) < (n : Int) := by omega
        have hcell := HC.out k hkn
        have hx := HNG.out hkn
        generalize xs.getD k 0 = x at *
        go_wp2_with fail
        refine (allNeg_yes _ _ (by omega)).mono ?_
        rintro e w' ⟨rfl, rfl⟩
        go_wp2
        go_ret
        exact ⟨ret_i (by first | rfl | rw [if_pos hkn] | simp [hkn]), rfl⟩
      · have hz : ¬ (k : Int) < (n : Int) := by omega
        go_wp2
        go_ret
        exact ⟨ret_i (by first | rfl | rw [if_neg hkn] | simp [hkn]), rfl⟩
theorem index_empty (a : Option Addr) (cap : Nat) (v : Value) (w : World) :
    Calls Tryd.prog 84 #[.slice a 0 cap, v] w fun e w' => e = .returned (.int .i64 (-1)) ∧ w = w' := by
  go_enter Tryd.func84, Tryd.ntmps84
  go_wp2
  refine wp_loop_rounds 1 ?_
  rw [rounds_succ]
  go_wp2
  go_ret
  exact ⟨rfl, rfl⟩
theorem index_sl (xs : List Int) (a : Option Addr) (cap : Nat) (w : World) (hn : xs.length ≤ 9223372036854775807) (hs : SlI .i64 w a xs) :
    Calls Tryd.prog 84 #[.slice a xs.length cap, .func (.func 70) #[] #[]] w fun e w' => (∃ q : Int, (0 ≤ q ↔ negB xs = true) ∧ e = .returned (.int .i64 q)) ∧ w = w' := by
  by_cases h : xs = []
  · subst h
    exact (index_empty a cap _ w).mono fun _ _ ⟨he, hw⟩ => ⟨⟨-1, by simp [negB], he⟩, hw⟩
  · have hl : 0 < xs.length := by cases xs; exact absurd rfl h; simp
    obtain ⟨b, off, rfl, hb, hc⟩ := hs.at 0 hl
    rcases hN : negB xs with _ | _
    · exact (index_any xs b off cap xs.length xs.length w hn rfl (Nat.le_refl _) (fun j _ => by have := negB_false hN j; omega) (fun h => absurd h (Nat.lt_irrefl _)) hc).mono fun _ _ ⟨he, hw⟩ => ⟨⟨-1, by simp, by rw [he, if_neg (Nat.lt_irrefl _)]⟩, hw⟩
    · obtain ⟨p, h1, h2, h3⟩ := negB_true hN
      exact (index_any xs b off cap xs.length p w hn rfl (Nat.le_of_lt h1) (fun j hj => by have := h3 j hj; omega) (fun _ => h2) hc).mono fun _ _ ⟨he, hw⟩ => ⟨⟨p, by simp, by rw [he, if_pos h1]⟩, hw⟩
/-- a test's answer, kept whole -/
def NegIs (xs : List Int) (q : Int) : Prop := 0 ≤ q ↔ negB xs = true
theorem contains_any (xs : List Int) (a : Option Addr) (cap : Nat) (w : World) (hn : xs.length ≤ 9223372036854775807) (hs : SlI .i64 w a xs) :
    Calls Tryd.prog 69 #[.slice a xs.length cap, .func (.func 70) #[] #[]] w fun e w' => e = .returned (.bool (negB xs)) ∧ w = w' := by
  have C := index_sl xs a cap w hn hs
  clear hs
  generalize xs.length = n at *
  go_enter Tryd.func69, Tryd.ntmps69
  go_wp2_with fail
  refine C.mono ?_
  rintro e w' ⟨⟨q, hq, rfl⟩, rfl⟩
  have HQ : Hid (decide (0 ≤ q) = negB xs) := by
    show _ = _
    by_cases h : 0 ≤ q
    · rw [decide_eq_true h, hq.1 h]
    · rw [decide_eq_false h]; cases h2 : negB xs; rfl; exact absurd (hq.2 h2) h
  clear hq C
  go_wp2
  go_ret
  exact ⟨ret_b HQ.out, rfl⟩
set_option maxHeartbeats 1000000 in
theorem all_any (xs : List Int) (a : Option Addr) (cap : Nat) (w : World) (hn : xs.length ≤ 9223372036854775807) (hx : ∀ k, k < xs.length → In (xs.getD k 0)) (hs : SlI .i64 w a xs) :
    Calls Tryd.prog 42 #[.slice a xs.length cap] w fun e w' => e = .returned (.tuple #[.int .i64 (allN xs), .int .i64 (allE xs)]) ∧ Below w.heap.size w w' := by
  have A := Lib.hid (fun w hs => contains_any xs a cap w hn hs)
  have B := Lib.hid (fun w hs => wsum_any xs a cap w hn hx hs)
  have HS := Lib.hid hs
  have E := Lib.hid (show allE xs = if 4096 < xs.length then 6 else if negB xs = true then 1 else if errN (sumI xs) = 0 then (if sumI xs = 0 then 3 else 0) else errN (sumI xs) from rfl)
  have N := Lib.hid (show allN xs = if 4096 < xs.length then 0 else if negB xs = true then 0 else capN (sumI xs) from rfl)
  have F : Hid (errN (sumI xs) = 0 → capN (sumI xs) = sumI xs) := fun h => by unfold errN at h; unfold capN; split at h; rw [if_pos ‹_›]; omega
  clear hx hs
  generalize allE xs = ae at *
  generalize allN xs = an at *
  generalize capN (sumI xs) = v at *
  generalize errN (sumI xs) = u at *
  generalize sumI xs = s at *
  generalize hb : negB xs = nb at *
  generalize xs.length = n at *
  by_cases h : 4096 < n
  · have hz : (4096 : Int) < (n : Int) := by omega
    go_enter Tryd.func42, Tryd.ntmps42
    go_wp2
    go_ret2
    exact ⟨ret_ii (by rw [N.out]; simp [h]) (by rw [E.out]; simp_all), Below.refl _ _⟩
  · have hz : ¬ (4096 : Int) < (n : Int) := by omega
    cases nb
    · by_cases hu : u = 0
      · by_cases hs0 : s = 0
        · have hv : v = 0 := by rw [F.out hu, hs0]
          subst hu
          subst hv
          go_enter Tryd.func42, Tryd.ntmps42
          go_wp2_with fail
          refine (A.out _ HS.out).mono ?_
          rintro e w1 ⟨rfl, rfl⟩
          go_wp2_with fail
          refine (B.out _ HS.out).mono ?_
          rintro e w2 ⟨rfl, hb2⟩
          go_wp2
          go_ret2
          exact ⟨ret_ii (by rw [N.out]; simp [h]) (by rw [E.out]; simp_all), hb2⟩
        · have hv : (v == 0) = false := by rw [F.out hu]; simp [hs0]
          subst hu
          go_enter Tryd.func42, Tryd.ntmps42
          go_wp2_with fail
          refine (A.out _ HS.out).mono ?_
          rintro e w1 ⟨rfl, rfl⟩
          go_wp2_with fail
          refine (B.out _ HS.out).mono ?_
          rintro e w2 ⟨rfl, hb2⟩
          go_wp2
          go_ret2
          exact ⟨ret_ii (by rw [N.out]; simp [h]) (by rw [E.out]; simp_all), hb2⟩
      · have hv : (u == 0) = false := by simp [hu]
        go_enter Tryd.func42, Tryd.ntmps42
        go_wp2_with fail
        refine (A.out _ HS.out).mono ?_
        rintro e w1 ⟨rfl, rfl⟩
        go_wp2_with fail
        refine (B.out _ HS.out).mono ?_
        rintro e w2 ⟨rfl, hb2⟩
        go_wp2
        go_ret2
        exact ⟨ret_ii (by rw [N.out]; simp [h]) (by rw [E.out]; simp [h, hu]), hb2⟩
    · go_enter Tryd.func42, Tryd.ntmps42
      go_wp2_with fail
      refine (A.out _ HS.out).mono ?_
      rintro e w1 ⟨rfl, rfl⟩
      go_wp2
      go_ret2
      exact ⟨ret_ii (by rw [N.out]; simp [h]) (by rw [E.out]; simp_all), Below.refl _ _⟩
end Go.Proofs.YtkejohmghacdhaaDoor
/- Shares in plain numbers: who comes first, how many have one more. -/
namespace Go.Proofs.YtkejohmghacdhaaDoor
set_option linter.unusedVariables false
set_option linter.unusedSimpArgs false
open Go Go.RowKit
/-- who comes first: whose exact share lies further above, then who stands further ahead -/
def key (rs : List Int) (i : Nat) : Int := (i : Int) - rs.getD i 0 * 4096
def rank (rs : List Int) (i : Nat) : Nat := (List.range rs.length).countP fun j => decide (key rs j < key rs i)
theorem key_inj {rs : List Int} {i j : Nat} (hi : i < 4096) (hj : j < 4096) (h : key rs i = key rs j) : i = j := by
  unfold key at h; omega
theorem rank_at {rs : List Int} {p : List Nat} (hp : p.Perm (List.range rs.length)) (hs : p.Pairwise fun i j => key rs i < key rs j) {t i : Nat} (ht : p[t]? = some i) : rank rs i = t := by
  obtain ⟨hl, hi⟩ := List.getElem?_eq_some_iff.1 ht
  have hs' := List.pairwise_iff_getElem.1 hs
  unfold rank
  rw [← hp.countP_eq]
  conv => lhs; rw [← List.take_append_drop t p]
  rw [List.countP_append]
  have h1 : (p.take t).countP (fun j => decide (key rs j < key rs i)) = (p.take t).length := by
    rw [List.countP_eq_length]
    intro x hx
    obtain ⟨s, hs1, hs2⟩ := List.getElem_of_mem hx
    have hst : s < t := by simp at hs1; omega
    rw [List.getElem_take] at hs2
    have := hs' s t (by omega) hl hst
    rw [hs2, hi] at this
    simpa using this
  have h2 : (p.drop t).countP (fun j => decide (key rs j < key rs i)) = 0 := by
    rw [List.countP_eq_zero]
    intro x hx
    obtain ⟨s, hs1, hs2⟩ := List.getElem_of_mem hx
    rw [List.getElem_drop] at hs2
    have hts : t + s < p.length := by simp at hs1; omega
    rw [decide_eq_true_eq]
    intro hlt
    rcases Nat.eq_zero_or_pos s with h0 | h0
    · subst h0
      simp only [Nat.add_zero] at hs2
      rw [← hs2, hi] at hlt
      omega
    · have := hs' t (t + s) hl hts (by omega)
      rw [hs2, hi] at this
      omega
  rw [h1, h2]
  simp; omega
theorem order_ex (rs : List Int) (h : rs.length ≤ 4096) : ∃ p : List Nat, p.Perm (List.range rs.length) ∧ p.Pairwise fun i j => key rs i < key rs j := by
  refine ⟨(List.range rs.length).mergeSort (fun i j => decide (key rs i ≤ key rs j)), List.mergeSort_perm _ _, ?_⟩
  have hp := List.mergeSort_perm (List.range rs.length) (fun i j => decide (key rs i ≤ key rs j))
  have hs := List.pairwise_mergeSort (le := fun i j => decide (key rs i ≤ key rs j)) (fun a b c h1 h2 => by simp at *; omega) (fun a b => by simp; omega) (List.range rs.length)
  have hn : ((List.range rs.length).mergeSort (fun i j => decide (key rs i ≤ key rs j))).Nodup := hp.nodup_iff.2 List.nodup_range
  generalize (List.range rs.length).mergeSort (fun i j => decide (key rs i ≤ key rs j)) = p at *
  rw [List.pairwise_iff_getElem] at *
  intro i j hi hj hij
  have h1 := hs i j hi hj hij
  have h2 := List.pairwise_iff_getElem.1 hn i j hi hj hij
  have m1 : p[i] < rs.length := by have := hp.mem_iff.1 (List.getElem_mem hi); simpa using this
  have m2 : p[j] < rs.length := by have := hp.mem_iff.1 (List.getElem_mem hj); simpa using this
  simp at h1
  rcases Int.lt_or_eq_of_le h1 with h3 | h3
  · exact h3
  · exact absurd (key_inj (by omega) (by omega) h3) h2
theorem rank_lt {rs : List Int} (h : rs.length ≤ 4096) {i : Nat} (hi : i < rs.length) : rank rs i < rs.length := by
  obtain ⟨p, hp, hs⟩ := order_ex rs h
  have hm : i ∈ p := hp.mem_iff.2 (by simpa using hi)
  obtain ⟨t, ht, he⟩ := List.getElem_of_mem hm
  have := rank_at hp hs (t := t) (i := i) (by rw [List.getElem?_eq_getElem ht, he])
  have := hp.length_eq
  simp at this
  omega
theorem rank_inj {rs : List Int} (h : rs.length ≤ 4096) {i j : Nat} (hi : i < rs.length) (hj : j < rs.length) (he : rank rs i = rank rs j) : i = j := by
  obtain ⟨p, hp, hs⟩ := order_ex rs h
  obtain ⟨t, ht, e1⟩ := List.getElem_of_mem (hp.mem_iff.2 (show i ∈ List.range rs.length by simpa using hi))
  obtain ⟨u, hu, e2⟩ := List.getElem_of_mem (hp.mem_iff.2 (show j ∈ List.range rs.length by simpa using hj))
  have r1 := rank_at hp hs (t := t) (i := i) (by rw [List.getElem?_eq_getElem ht, e1])
  have r2 := rank_at hp hs (t := u) (i := j) (by rw [List.getElem?_eq_getElem hu, e2])
  have : t = u := by omega
  subst this
  rw [← e1, ← e2]
theorem rank_ex {rs : List Int} (h : rs.length ≤ 4096) {t : Nat} (ht : t < rs.length) : ∃ i, i < rs.length ∧ rank rs i = t := by
  obtain ⟨p, hp, hs⟩ := order_ex rs h
  have hl : p.length = rs.length := by have := hp.length_eq; simpa using this
  have hl' : t < p.length := by omega
  refine ⟨p[t], ?_, rank_at hp hs (by rw [List.getElem?_eq_getElem hl'])⟩
  have := hp.mem_iff.1 (List.getElem_mem hl')
  simpa using this
theorem countP_mono {α : Type} {p q : α → Bool} (l : List α) (h : ∀ x ∈ l, p x = true → q x = true) : l.countP p ≤ l.countP q := List.countP_mono_left h
theorem rank_mono {rs : List Int} {i j : Nat} (h : key rs i ≤ key rs j) : rank rs i ≤ rank rs j :=
  countP_mono _ fun x _ hx => by simp at hx ⊢; omega
/-- whose rank is less comes first -/
theorem key_of_rank {rs : List Int} {i j : Nat} (h : rank rs i < rank rs j) : key rs i < key rs j := by
  rcases Int.lt_or_le (key rs i) (key rs j) with h1 | h1
  · exact h1
  · have := rank_mono h1; omega
def took (rs : List Int) (m : Nat) (i : Nat) : Int := if rank rs i < m then 1 else 0
theorem sum_ones (l : List Nat) (P : Nat → Bool) : sumI (l.map fun i => if P i = true then (1 : Int) else 0) = l.countP P := by
  induction l with
  | nil => rfl
  | cons x r ih =>
    rw [List.map_cons, List.countP_cons]
    show _ + sumI _ = _
    rw [ih]
    split <;> simp_all
    omega
theorem sum_took {rs : List Int} (h : rs.length ≤ 4096) {m : Nat} (hm : m ≤ rs.length) : sumI ((List.range rs.length).map (took rs m)) = m := by
  have e : (took rs m) = fun i => if (fun i => decide (rank rs i < m)) i = true then (1 : Int) else 0 := by
    funext i; unfold took; simp
  rw [e, sum_ones]
  obtain ⟨p, hp, hs⟩ := order_ex rs h
  have hl : p.length = rs.length := by have := hp.length_eq; simpa using this
  rw [← hp.countP_eq]
  conv => lhs; rw [← List.take_append_drop m p]
  rw [List.countP_append]
  have h1 : (p.take m).countP (fun i => decide (rank rs i < m)) = (p.take m).length := by
    rw [List.countP_eq_length]
    intro x hx
    obtain ⟨s, hs1, hs2⟩ := List.getElem_of_mem hx
    have hsm : s < m := by simp at hs1; omega
    rw [List.getElem_take] at hs2
    have := rank_at hp hs (t := s) (i := x) (by rw [List.getElem?_eq_getElem (by omega), hs2])
    simpa [this] using hsm
  have h2 : (p.drop m).countP (fun i => decide (rank rs i < m)) = 0 := by
    rw [List.countP_eq_zero]
    intro x hx
    obtain ⟨s, hs1, hs2⟩ := List.getElem_of_mem hx
    rw [List.getElem_drop] at hs2
    have hts : m + s < p.length := by simp at hs1; omega
    have := rank_at hp hs (t := m + s) (i := x) (by rw [List.getElem?_eq_getElem hts, hs2])
    simp [this]
  rw [h1, h2]
  simp; omega
/-- .. the parts -/
def shQ (a : Int) (ws : List Int) : List Int := ws.map fun x => a * x / sumI ws
def shR (a : Int) (ws : List Int) : List Int := ws.map fun x => a * x % sumI ws
def shM (a : Int) (ws : List Int) : Int := a - sumI (shQ a ws)
def shL (a : Int) (ws : List Int) : List Int := (List.range ws.length).map fun i => (shQ a ws).getD i 0 + took (shR a ws) (shM a ws).toNat i
def spL (a : Int) (ws : List Int) : List Int := if allE ws = 0 then shL a ws else []
/-- Weights that may be. -/
structure WOk (ws : List Int) : Prop where
  len : ws.length ≤ 4096
  pos : ∀ x ∈ ws, 0 ≤ x
  sum : 0 < sumI ws
  fit : sumI ws ≤ 9223372036854775807
theorem sumI_nonneg {ws : List Int} (h : ∀ x ∈ ws, 0 ≤ x) : 0 ≤ sumI ws := by
  induction ws with
  | nil => exact Int.le_refl _
  | cons x r ih =>
    have := ih fun y hy => h y (List.mem_cons_of_mem _ hy)
    have := h x List.mem_cons_self
    show 0 ≤ x + sumI r
    omega
theorem le_sumI {ws : List Int} (h : ∀ x ∈ ws, 0 ≤ x) {x : Int} (hx : x ∈ ws) : x ≤ sumI ws := by
  induction ws with
  | nil => cases hx
  | cons y r ih =>
    have n := sumI_nonneg fun z hz => h z (List.mem_cons_of_mem _ hz)
    have := h y List.mem_cons_self
    show x ≤ y + sumI r
    rcases List.mem_cons.1 hx with rfl | hx
    · omega
    · have := ih (fun z hz => h z (List.mem_cons_of_mem _ hz)) hx; omega
theorem wok_of {ws : List Int} (h : allE ws = 0) : WOk ws ∧ allN ws = sumI ws := by
  unfold allE at h
  unfold allN
  by_cases h1 : 4096 < ws.length
  · rw [if_pos h1] at h; omega
  rw [if_neg h1] at h ⊢
  by_cases h2 : negB ws = true
  · rw [if_pos h2] at h; omega
  rw [if_neg h2] at h ⊢
  by_cases h3 : errN (sumI ws) = 0
  · rw [if_pos h3] at h
    by_cases h4 : sumI ws = 0
    · rw [if_pos h4] at h; omega
    · have pos : ∀ x ∈ ws, 0 ≤ x := fun x hx => by
        unfold negB at h2
        rw [Bool.not_eq_true, List.any_eq_false] at h2
        have := h2 x hx
        simp at this
        exact this
      have := sumI_nonneg pos
      unfold errN at h3
      split at h3
      · rename_i hf
        have hf' := hf
        unfold fitB at hf'
        simp at hf'
        exact ⟨⟨by omega, pos, by omega, hf'.2⟩, by unfold capN; rw [if_pos hf]⟩
      · omega
  · rw [if_neg h3] at h; exact absurd h h3
theorem WOk.nonempty {ws : List Int} (h : WOk ws) : 0 < ws.length := by
  rcases ws with _ | ⟨x, r⟩
  · have := h.sum; simp [sumI] at this
  · simp
theorem sum_qr (a S : Int) (ws : List Int) : S * sumI (ws.map fun x => a * x / S) + sumI (ws.map fun x => a * x % S) = a * sumI ws := by
  induction ws with
  | nil => simp [sumI]
  | cons x r ih =>
    show S * (a * x / S + sumI _) + (a * x % S + sumI _) = a * (x + sumI r)
    have := Int.mul_ediv_add_emod (a * x) S
    rw [Int.mul_add, Int.mul_add]
    omega
theorem WOk.sumR {ws : List Int} (h : WOk ws) (a : Int) : sumI (shR a ws) = sumI ws * shM a ws := by
  have := sum_qr a (sumI ws) ws
  unfold shM shR shQ
  rw [Int.mul_sub, Int.mul_comm _ a]
  omega
theorem sum_le {f : Int → Int} {c : Int} (ws : List Int) (h : ∀ x ∈ ws, f x ≤ c) : sumI (ws.map f) ≤ c * ws.length := by
  induction ws with
  | nil => simp [sumI]
  | cons x r ih =>
    have := ih fun y hy => h y (List.mem_cons_of_mem _ hy)
    have := h x List.mem_cons_self
    show f x + sumI _ ≤ c * ((r.length + 1 : Nat) : Int)
    rw [Int.natCast_add, Int.mul_add]
    simp
    omega
theorem WOk.r_bd {ws : List Int} (h : WOk ws) (a x : Int) : 0 ≤ a * x % sumI ws ∧ a * x % sumI ws < sumI ws := by
  have := h.sum
  exact ⟨Int.emod_nonneg _ (by omega), Int.emod_lt_of_pos _ (by omega)⟩
theorem WOk.m_bd {ws : List Int} (h : WOk ws) (a : Int) : 0 ≤ shM a ws ∧ shM a ws < ws.length := by
  have hS := h.sum
  have e := h.sumR a
  have h0 : 0 ≤ sumI (shR a ws) := sumI_nonneg fun x hx => by
    unfold shR at hx
    obtain ⟨y, _, rfl⟩ := List.mem_map.1 hx
    exact (h.r_bd a y).1
  have h1 : sumI (shR a ws) ≤ (sumI ws - 1) * ws.length := by
    unfold shR
    exact sum_le ws fun x _ => by have := (h.r_bd a x).2; omega
  have hn := h.nonempty
  generalize sumI (shR a ws) = R at *
  generalize shM a ws = M at *
  generalize sumI ws = S at *
  constructor
  · rcases Int.lt_or_le M 0 with h2 | h2
    · have := Int.mul_le_mul_of_nonneg_left (show M ≤ -1 by omega) (Int.le_of_lt hS); omega
    · exact h2
  · rcases Int.lt_or_le M ws.length with h2 | h2
    · exact h2
    · have := Int.mul_le_mul_of_nonneg_left h2 (Int.le_of_lt hS)
      rw [Int.sub_mul] at h1
      omega
@[simp] theorem len_shQ (a : Int) (ws : List Int) : (shQ a ws).length = ws.length := by simp [shQ]
@[simp] theorem len_shR (a : Int) (ws : List Int) : (shR a ws).length = ws.length := by simp [shR]
@[simp] theorem len_shL (a : Int) (ws : List Int) : (shL a ws).length = ws.length := by simp [shL]
theorem at_shQ {a : Int} {ws : List Int} {i : Nat} (h : i < ws.length) : (shQ a ws).getD i 0 = a * ws.getD i 0 / sumI ws := by simp [shQ, List.getD, h]
theorem at_shR {a : Int} {ws : List Int} {i : Nat} (h : i < ws.length) : (shR a ws).getD i 0 = a * ws.getD i 0 % sumI ws := by simp [shR, List.getD, h]
theorem at_shL {a : Int} {ws : List Int} {i : Nat} (h : i < ws.length) : (shL a ws).getD i 0 = (shQ a ws).getD i 0 + took (shR a ws) (shM a ws).toNat i := by simp [shL, List.getD, h]
theorem took_01 (rs : List Int) (m i : Nat) : took rs m i = 0 ∨ took rs m i = 1 := by unfold took; split; exact .inr rfl; exact .inl rfl
theorem WOk.x_bd {ws : List Int} (h : WOk ws) {i : Nat} (hi : i < ws.length) : 0 ≤ ws.getD i 0 ∧ ws.getD i 0 ≤ sumI ws := by
  have : ws.getD i 0 = ws[i] := by simp [List.getD, hi]
  rw [this]
  exact ⟨h.pos _ (List.getElem_mem hi), le_sumI h.pos (List.getElem_mem hi)⟩
/-- the whole part lies between 0 and the amount; below the amount, or 0, if anything is left over -/
theorem q_bd {a x S : Int} (hS : 0 < S) (h0 : 0 ≤ x) (h1 : x ≤ S) : (0 ≤ a → 0 ≤ a * x / S ∧ a * x / S ≤ a ∧ (0 < a * x % S → a * x / S < a)) ∧ (a ≤ 0 → a ≤ a * x / S ∧ a * x / S ≤ 0 ∧ (0 < a * x % S → a * x / S < 0)) := by
  have e := Int.mul_ediv_add_emod (a * x) S
  have r0 := Int.emod_nonneg (a * x) (b := S) (by omega)
  have r1 := Int.emod_lt_of_pos (a * x) hS
  generalize hq : a * x / S = q at *
  generalize a * x % S = r at *
  constructor
  · intro ha
    have m0 := Int.mul_nonneg ha h0
    have m1 := Int.mul_le_mul_of_nonneg_left h1 ha
    rw [Int.mul_comm a S] at m1
    refine ⟨?_, ?_, fun hr => ?_⟩
    · rcases Int.lt_or_le q 0 with h2 | h2
      · have := Int.mul_le_mul_of_nonneg_left (show q ≤ -1 by omega) (Int.le_of_lt hS); omega
      · exact h2
    · rcases Int.lt_or_le a q with h2 | h2
      · have := Int.mul_le_mul_of_nonneg_left (show a + 1 ≤ q by omega) (Int.le_of_lt hS); rw [Int.mul_add] at this; omega
      · exact h2
    · rcases Int.lt_or_le q a with h2 | h2
      · exact h2
      · have := Int.mul_le_mul_of_nonneg_left h2 (Int.le_of_lt hS); omega
  · intro ha
    have m0 := Int.mul_le_mul_of_nonneg_right ha h0
    have m1 := Int.mul_le_mul_of_nonpos_left ha h1
    rw [Int.mul_comm a S] at m1
    refine ⟨?_, ?_, fun hr => ?_⟩
    · rcases Int.lt_or_le q a with h2 | h2
      · have := Int.mul_le_mul_of_nonneg_left (show q ≤ a - 1 by omega) (Int.le_of_lt hS); rw [Int.mul_sub] at this; omega
      · exact h2
    · rcases Int.lt_or_le 0 q with h2 | h2
      · have := Int.mul_le_mul_of_nonneg_left (show 1 ≤ q by omega) (Int.le_of_lt hS); omega
      · exact h2
    · rcases Int.lt_or_le q 0 with h2 | h2
      · exact h2
      · have := Int.mul_nonneg (Int.le_of_lt hS) h2; omega
theorem WOk.q_in {ws : List Int} (h : WOk ws) {a : Int} (ha : In a) {i : Nat} (hi : i < ws.length) : In ((shQ a ws).getD i 0) := by
  rw [at_shQ hi]
  have b := q_bd (a := a) h.sum (h.x_bd hi).1 (h.x_bd hi).2
  unfold In at *
  by_cases h0 : 0 ≤ a
  · have := b.1 h0; omega
  · have := b.2 (by omega); omega
/-- who has one more: something is left over there -/
theorem took_pos {ws : List Int} (h : WOk ws) (a : Int) {i : Nat} (hi : i < ws.length) (ht : rank (shR a ws) i < (shM a ws).toNat) : 0 < (shR a ws).getD i 0 := by
  have hR := h.sumR a
  have hm := h.m_bd a
  have hS := h.sum
  rcases Int.lt_or_le 0 ((shR a ws).getD i 0) with h1 | h1
  · exact h1
  · exfalso
    have hr0 : (shR a ws).getD i 0 = 0 := by
      have := (h.r_bd a (ws.getD i 0)).1
      rw [at_shR hi] at h1 ⊢; omega
    -- the positive ones all come first
    have c : (List.range (shR a ws).length).countP (fun j => decide (0 < (shR a ws).getD j 0)) ≤ rank (shR a ws) i := countP_mono _ fun j hj hp => by
      have hj' : j < ws.length := by simpa using hj
      have := h.len
      simp at hp ⊢
      unfold key
      rw [hr0]
      have : (shR a ws)[j]?.getD 0 = (shR a ws).getD j 0 := rfl
      rw [this] at hp
      omega
    -- .. and what is left over is less than S at each
    have b : ∀ l : List Int, (∀ x ∈ l, 0 ≤ x ∧ x < sumI ws) → sumI l ≤ (sumI ws - 1) * (l.countP (fun x => decide (0 < x)) : Int) := by
      intro l
      induction l with
      | nil => intro _; simp [sumI]
      | cons x r ih =>
        intro hl
        have h1 := ih fun y hy => hl y (List.mem_cons_of_mem _ hy)
        have h2 := hl x List.mem_cons_self
        rw [List.countP_cons]
        show x + sumI r ≤ _
        by_cases hx : 0 < x
        · simp only [decide_eq_true hx, if_true]
          rw [Int.natCast_add, Int.mul_add]
          simp
          omega
        · simp only [decide_eq_false hx]
          simp
          omega
    have b' := b (shR a ws) (fun x hx => by
      unfold shR at hx
      obtain ⟨y, _, rfl⟩ := List.mem_map.1 hx
      exact h.r_bd a y)
    have ec : (shR a ws).countP (fun x => decide (0 < x)) = (List.range (shR a ws).length).countP (fun j => decide (0 < (shR a ws).getD j 0)) := by
      generalize shR a ws = l
      have : l = (List.range l.length).map fun j => l.getD j 0 := by
        apply List.ext_getElem (by simp)
        intro k h1 h2
        simp [List.getD, h1]
      conv => lhs; rw [this]
      rw [List.countP_map]
      rfl
    rw [ec] at b'
    generalize (List.range (shR a ws).length).countP (fun j => decide (0 < (shR a ws).getD j 0)) = C at *
    generalize shM a ws = M at *
    have : (C : Int) + 1 ≤ M := by omega
    have := Int.mul_le_mul_of_nonneg_left this (Int.le_of_lt hS)
    rw [Int.mul_add] at this
    rw [Int.sub_mul] at b'
    omega
theorem WOk.l_in {ws : List Int} (h : WOk ws) {a : Int} (ha : In a) {i : Nat} (hi : i < ws.length) : In ((shL a ws).getD i 0) := by
  have hq := h.q_in ha hi
  rw [at_shL hi]
  by_cases ht : rank (shR a ws) i < (shM a ws).toNat
  · have hp := took_pos h a hi ht
    have e : took (shR a ws) (shM a ws).toNat i = 1 := by unfold took; rw [if_pos ht]
    rw [e]
    rw [at_shR hi] at hp
    rw [at_shQ hi] at hq ⊢
    have b := q_bd (a := a) h.sum (h.x_bd hi).1 (h.x_bd hi).2
    unfold In at *
    by_cases h0 : 0 ≤ a
    · have := (b.1 h0).2.2 hp; omega
    · have := (b.2 (by omega)).2.2 hp; omega
  · have e : took (shR a ws) (shM a ws).toNat i = 0 := by unfold took; rw [if_neg ht]
    rw [e, Int.add_zero]
    exact hq
theorem sumI_map_add {ι : Type} (l : List ι) (f g : ι → Int) : sumI (l.map fun i => f i + g i) = sumI (l.map f) + sumI (l.map g) := by
  induction l with
  | nil => rfl
  | cons x r ih => show (f x + g x) + sumI (r.map fun i => f i + g i) = (f x + sumI (r.map f)) + (g x + sumI (r.map g)); rw [ih]; omega
theorem list_range (l : List Int) : (List.range l.length).map (fun j => l.getD j 0) = l := by
  apply List.ext_getElem (by simp)
  intro k h1 h2
  simp [List.getD, h2]
/-- ALL PARTS TOGETHER ARE THE AMOUNT. -/
theorem WOk.sumL {ws : List Int} (h : WOk ws) (a : Int) : sumI (shL a ws) = a := by
  have hm := h.m_bd a
  unfold shL
  rw [sumI_map_add]
  have e1 : sumI ((List.range ws.length).map fun i => (shQ a ws).getD i 0) = sumI (shQ a ws) := by
    have := list_range (shQ a ws)
    rw [len_shQ] at this
    rw [this]
  have e2 := sum_took (rs := shR a ws) (by rw [len_shR]; exact h.len) (m := (shM a ws).toNat) (by rw [len_shR]; omega)
  rw [len_shR] at e2
  rw [e1, e2]
  have : shM a ws = a - sumI (shQ a ws) := rfl
  omega
end Go.Proofs.YtkejohmghacdhaaDoor
/- The parts sorted: slices.SortStableFunc at share's closure. -/
namespace Go.Proofs.YtkejohmghacdhaaDoor
set_option linter.unusedVariables false
set_option linter.unusedSimpArgs false
open Go Go.Shelf Go.RowKit Go.Lib Go.Sort
/-- which one, and how far its exact share lies above -/
abbrev PartI := Fin 4096 × Int
def encP (x : PartI) : List Value := [.int .i64 (x.1.val : Int), .int .i64 x.2]
def cfP (x y : PartI) : Int := cmpI y.2 x.2
def keyP (x : PartI) : Int := (x.1.val : Int) - x.2 * 4096
def atP (x : PartI) : Nat := x.1.val
theorem crP (x y : PartI) (h : atP x < atP y) : Cr cfP keyP x y := by
  unfold atP at h
  have h1 := x.1.isLt
  have h2 := y.1.isLt
  unfold Cr cfP keyP cmpI
  constructor
  · constructor
    · intro h3; split at h3
      · omega
      · split at h3 <;> omega
    · intro h3; rw [if_pos (by omega)]; omega
  · omega
theorem aggP (w : World) : (isAgg 67).run Tryd.prog w = .ok true w := by kernel_rfl
theorem sizeP (w : World) : (Go.sizeOf 67).run Tryd.prog w = .ok 2 w := by kernel_rfl
set_option maxHeartbeats 1000000 in
theorem closure_any (x y : PartI) (W : World) : Calls Tryd.prog 49 #[.agg #[.int .i64 (x.1.val : Int), .int .i64 x.2], .agg #[.int .i64 (y.1.val : Int), .int .i64 y.2]] W fun e w' => e = .returned (.int .i64 (cfP x y)) ∧ ∃ q os', w' = grow (W.drewN q) os' := by
  have C := fun w => cmp_i64 y.2 x.2 w
  have e : cfP x y = cmpI y.2 x.2 := rfl
  rw [e]
  clear e
  generalize cmpI y.2 x.2 = r at C ⊢
  go_enter Tryd.func49, Tryd.ntmps49
  go_wp2_with fail
  refine (C _).mono ?_
  rintro e w' ⟨rfl, rfl⟩
  go_wp2
  go_ret
  exact ⟨rfl, 0, _, by rw [alloc_eq_grow, alloc_eq_grow, grow_grow]; rfl⟩
theorem cmpLaysP (blk off size : Nat) (w : World) : CmpLays Tryd.prog 49 #[] encP 2 cfP blk off size w :=
  fun _ _ _ _ x y => closure_any x y _
set_option maxHeartbeats 1000000 in
theorem sort_any (blk cap n : Nat) (d0 : Array PartI) (w : World) (hn : d0.size = n) (hsz : n ≤ 4096) (hA : ∀ i, i < n → atP d0[i]! = i) (hH : HoldsK encP 2 w blk 0 d0) (hb : blk < w.heap.size) :
    Calls Tryd.prog 48 #[.slice (some ⟨blk, 0, none⟩) n cap, .func (.func 49) #[] #[]] w fun e w' => e = .returned (.tuple #[]) ∧ ∃ d', d'.size = n ∧ SWK encP 2 w blk 0 d' w' ∧ PermIn 0 n d0 d' ∧ Inc keyP 0 n d' := by
  have eg : ∀ args w, (callFunc 49 args).run Tryd.prog w = .ok (.enter 49 args) w := enters_of Tryd.func49 (by kernel_rfl) rfl
  have C := stable_any 2 aggP sizeP encP cfP keyP atP 49 #[] blk 0 cap n d0 w eg hn (cmpLaysP _ _ _ _) ⟨fun _ => rfl, fun x v hv => by simp [encP] at hv; rcases hv with rfl | rfl <;> rfl, hH, hb⟩ hsz hA crP w (SWK.start hH)
  have C := Lib.hid C
  clear hH hA eg
  go_enter Tryd.func48, Tryd.ntmps48
  go_wp2_with fail
  refine C.out.mono ?_
  rintro e w' ⟨rfl, d', h1, h2, h3, h4⟩
  have H := Lib.hid (And.intro h1 (And.intro h2 (And.intro h3 h4)))
  clear h1 h2 h3 h4
  go_wp2
  go_end0
  exact ⟨rfl, d', H.out.1, H.out.2.1, H.out.2.2.1, H.out.2.2.2⟩
/-- What the sort leaves, told of places: who comes t-th. -/
structure Sorted (rs : List Int) (n : Nat) (d' : Array PartI) : Prop where
  size : d'.size = n
  at_ : ∀ t, t < n → atP d'[t]! < n ∧ rank rs (atP d'[t]!) = t
theorem extract_whole (d : Array PartI) (n : Nat) (h : d.size = n) : (d.extract 0 n).toList = d.toList := by
  subst h; simp
theorem toList_get (d : Array PartI) (t : Nat) (h : t < d.size) : d.toList[t]? = some d[t]! := by
  rw [Array.getElem?_toList, Array.getElem?_eq_getElem h, getElem!_pos d t h]
theorem sorted_of (rs : List Int) (n : Nat) (d0 d' : Array PartI) (hl : rs.length = n) (h0 : d0.size = n) (hA : ∀ i, i < n → atP d0[i]! = i ∧ d0[i]!.2 = rs.getD i 0) (P : PermIn 0 n d0 d') (I : Inc keyP 0 n d') : Sorted rs n d' := by
  have hs : d'.size = n := P.1.trans h0
  have hk : ∀ t, t < n → atP d'[t]! < n ∧ keyP d'[t]! = key rs (atP d'[t]!) := fun t ht =>
    permIn_all d0 d' 0 n (fun x => atP x < n ∧ keyP x = key rs (atP x)) (by omega) P (fun i _ hi => by
      obtain ⟨h1, h2⟩ := hA i hi
      rw [h1]
      refine ⟨hi, ?_⟩
      show (atP d0[i]! : Int) - d0[i]!.2 * 4096 = _
      rw [h1, h2]; rfl) t (Nat.zero_le _) ht
  have hp : (d'.toList.map atP).Perm (List.range rs.length) := by
    have p := P.2.2
    rw [extract_whole _ _ hs, extract_whole _ _ h0] at p
    refine (p.map atP).trans ?_
    have : d0.toList.map atP = List.range rs.length := by
      apply List.ext_getElem?
      intro i
      rw [List.getElem?_map]
      by_cases hi : i < n
      · rw [toList_get _ _ (by omega), Option.map_some, (hA i hi).1, List.getElem?_range (by omega)]
      · rw [List.getElem?_eq_none (by simp; omega), List.getElem?_eq_none (by simp; omega)]; rfl
    rw [this]
  have hsrt : (d'.toList.map atP).Pairwise fun i j => key rs i < key rs j := by
    rw [List.pairwise_iff_getElem]
    intro i j hi hj hij
    have hi' : i < n := by simp at hi; omega
    have hj' : j < n := by simp at hj; omega
    have e : ∀ t (ht : t < n) (hq : t < (d'.toList.map atP).length), (d'.toList.map atP)[t] = atP d'[t]! := fun t ht hq => by
      rw [List.getElem_map, Array.getElem_toList, getElem!_pos d' t (by omega)]
    rw [e i hi', e j hj', ← (hk i hi').2, ← (hk j hj').2]
    exact I i j (Nat.zero_le _) hij hj'
  refine ⟨hs, fun t ht => ⟨(hk t ht).1, rank_at hp hsrt ?_⟩⟩
  rw [List.getElem?_map, toList_get _ _ (by omega)]
  rfl
end Go.Proofs.YtkejohmghacdhaaDoor
/- Rows of numbers that a call has made and writes. -/
namespace Go.Proofs.YtkejohmghacdhaaDoor
set_option linter.unusedVariables false
set_option linter.unusedSimpArgs false
open Go.RowKit
/-- Block b's first n cells hold f, and may be written. -/
def RowF (w : World) (b n : Nat) (f : Nat → Int) : Prop := ∀ j, j < n → w.cell? ⟨b, j, none⟩ = some (.int .i64 (f j)) ∧ w.frozen? ⟨b, j, none⟩ = false
theorem RowF.go {w w' : World} {b n : Nat} {f : Nat → Int} (h : RowF w b n f) (hb : Below w.heap.size w w') : RowF w' b n f := fun j hj => by
  obtain ⟨h1, h2⟩ := h j hj
  have hl := World.block_lt_of_cell? w ⟨b, j, none⟩ h1
  exact ⟨(hb.cell (p := ⟨b, j, none⟩) hl).trans h1, (hb.frozen (p := ⟨b, j, none⟩) hl).trans h2⟩
theorem RowF.lt {w : World} {b n : Nat} {f : Nat → Int} (h : RowF w b n f) (hn : 0 < n) : b < w.heap.size := World.block_lt_of_cell? w ⟨b, 0, none⟩ (h 0 hn).1
theorem RowF.set {w : World} {b n : Nat} {f : Nat → Int} (h : RowF w b n f) (k : Nat) (hk : k < n) (v : Int) : RowF (w.setCell ⟨b, k, none⟩ (.int .i64 v)) b n (fun j => if j = k then v else f j) := fun j hj => by
  obtain ⟨h1, h2⟩ := h j hj
  refine ⟨?_, by rw [World.frozen?_setCell]; exact h2⟩
  by_cases e : j = k
  · subst e; simp only [if_true]; exact World.cell?_setCell_same w _ _ h1
  · simp only [e, if_false]; rw [World.cell?_setCell_other w _ _ _ (fun h => e (by cases h; rfl))]; exact h1
theorem RowF.other {w : World} {b n : Nat} {f : Nat → Int} (h : RowF w b n f) {p : Addr} (hp : p.block ≠ b) (v : Value) : RowF (w.setCell p v) b n f := fun j hj => by
  obtain ⟨h1, h2⟩ := h j hj
  exact ⟨by rw [World.cell?_setCell_other w _ _ _ (fun h => hp (by rw [h]))]; exact h1, by rw [World.frozen?_setCell]; exact h2⟩
theorem RowF.congr {w : World} {b n : Nat} {f g : Nat → Int} (h : RowF w b n f) (e : ∀ j, j < n → g j = f j) : RowF w b n g := fun j hj => by rw [e j hj]; exact h j hj
theorem RowF.sl {w : World} {b : Nat} {xs : List Int} (h : RowF w b xs.length (fun j => xs.getD j 0)) : SlI .i64 w (some ⟨b, 0, none⟩) xs :=
  .inr ⟨b, 0, rfl, fun j hj => by rw [Nat.zero_add]; exact (h j hj).1⟩
/-- A new row of zeros. -/
theorem row_made (w : World) (n : Nat) (t : TypeId) : RowF (w.alloc (.cells (Array.replicate n (.int .i64 0)) t)) w.heap.size n (fun _ => 0) := fun j hj => by
  refine ⟨?_, by simp⟩
  rw [World.cell?_alloc_new]; simp [hj]
theorem made_row (n : Nat) : madeCells #[.int .i64 0] n = Array.replicate n (.int .i64 0) := by
  apply Array.ext_getElem?
  intro j
  by_cases hj : j < n
  · simp [madeCells, hj, Nat.mod_one]
  · simp [madeCells, hj]
theorem made_pair (n : Nat) : madeCells #[.int .i64 0, .int .i64 0] n = Array.replicate n (.int .i64 0) := by
  apply Array.ext_getElem?
  intro j
  by_cases hj : j < n
  · have : j % 2 = 0 ∨ j % 2 = 1 := by omega
    rcases this with h | h <;> simp [madeCells, hj, h]
  · simp [madeCells, hj]
end Go.Proofs.YtkejohmghacdhaaDoor
/- share.Split. -/
namespace Go.Proofs.YtkejohmghacdhaaDoor
set_option linter.unusedVariables false
set_option linter.unusedSimpArgs false
open Go Go.Shelf Go.RowKit Go.Lib Go.Sort
/-- a part's two cells -/
def cellP (g : Nat → Int) (k : Nat) (t : Nat) : Int := if t < k * 2 then (if t % 2 = 0 then ((t / 2 : Nat) : Int) else g (t / 2)) else 0
/-- the parts as they stand first -/
def rowP (g : Nat → Int) (n : Nat) : Array PartI := (Array.range n).map fun i => (⟨i % 4096, Nat.mod_lt _ (by decide)⟩, g i)
theorem get_rowP (g : Nat → Int) (n i : Nat) (h : i < n) (hn : n ≤ 4096) : atP (rowP g n)[i]! = i ∧ (rowP g n)[i]!.2 = g i := by
  have : (rowP g n)[i]! = (⟨i % 4096, Nat.mod_lt _ (by decide)⟩, g i) := by
    rw [getElem!_pos _ i (by simpa [rowP] using h)]; simp [rowP]
  rw [this]
  exact ⟨Nat.mod_eq_of_lt (by omega), rfl⟩
theorem holds_rowP {w : World} {b n : Nat} {g : Nat → Int} (hn : n ≤ 4096) (h : RowF w b (n * 2) (cellP g n)) : HoldsK encP 2 w b 0 (rowP g n) := fun j hj => by
  have hs : (rowP g n).size = n := by simp [rowP]
  have hj' : j < n * 2 := by rw [size_flatK, hs] at hj; exact hj
  obtain ⟨h1, h2⟩ := h j hj'
  rw [get_flatK _ _ _ _ (by rw [hs]; exact hj'), Nat.zero_add]
  refine ⟨?_, h2⟩
  rw [h1]
  obtain ⟨e1, e2⟩ := get_rowP g n (j / 2) (by omega) hn
  unfold cellP encP
  rw [if_pos hj']
  unfold atP at e1
  have hm : j % 2 = 0 ∨ j % 2 = 1 := by omega
  rcases hm with hm | hm
  · rw [if_pos hm, hm]; show _ = some (Value.int .i64 _); rw [e1]
  · rw [if_neg (by omega), hm]; show _ = some (Value.int .i64 _); rw [e2]
/-- Within the first loop: what the call's own blocks hold. -/
structure SpS (w0 W : World) (bo bp bl n k : Nat) (q r : Nat → Int) (x : Int) : Prop where
  below : Below w0.heap.size w0 W
  out : RowF W bo n (fun j => if j < k then q j else 0)
  parts : RowF W bp (n * 2) (cellP r k)
  l0 : W.cell? ⟨bl, 0, none⟩ = some (.int .i64 (hiW x))
  l1 : W.cell? ⟨bl, 1, none⟩ = some (.int .u64 (loW x))
  lf : ∀ o, W.frozen? ⟨bl, o, none⟩ = false
  o0 : w0.heap.size ≤ bo
  p0 : w0.heap.size ≤ bp
  q0 : w0.heap.size ≤ bl
  op : bo ≠ bp
  ol : bo ≠ bl
  pl : bp ≠ bl
variable {w0 W : World} {bo bp bl n k : Nat} {q r : Nat → Int} {x : Int}
theorem SpS.lt (S : SpS w0 W bo bp bl n k q r x) : bl < W.heap.size := World.block_lt_of_cell? W ⟨bl, 0, none⟩ S.l0
theorem SpS.go (S : SpS w0 W bo bp bl n k q r x) {W' : World} (hb : Below W.heap.size W W') : SpS w0 W' bo bp bl n k q r x :=
  ⟨bl_call S.below hb, S.out.go hb, S.parts.go hb, (hb.cell (p := ⟨bl, 0, none⟩) S.lt).trans S.l0, (hb.cell (p := ⟨bl, 1, none⟩) S.lt).trans S.l1, fun o => (hb.frozen (p := ⟨bl, o, none⟩) S.lt).trans (S.lf o), S.o0, S.p0, S.q0, S.op, S.ol, S.pl⟩
theorem set_far {w : World} {p a : Addr} {v : Value} (h : p.block ≠ a.block) : (w.setCell p v).cell? a = w.cell? a := World.cell?_setCell_other w _ _ _ (fun e => h (by rw [e]))
/-- behind the stores of a round into the parts -/
theorem SpS.put (S : SpS w0 W bo bp bl n k q r x) (hk : k < n) : SpS w0 (((W.setCell ⟨bo, k, none⟩ (.int .i64 (q k))).setCell ⟨bp, k * 2, none⟩ (.int .i64 (k : Int))).setCell ⟨bp, k * 2 + 1, none⟩ (.int .i64 (r k))) bo bp bl n (k + 1) q r x := by
  have o1 := ((S.out.set k hk (q k)).other (p := ⟨bp, k * 2, none⟩) (Ne.symm S.op) (.int .i64 (k : Int))).other (p := ⟨bp, k * 2 + 1, none⟩) (Ne.symm S.op) (.int .i64 (r k))
  have p1 := ((S.parts.other (p := ⟨bo, k, none⟩) S.op (.int .i64 (q k))).set (k * 2) (by omega) (k : Int)).set (k * 2 + 1) (by omega) (r k)
  have c : ∀ o, (((W.setCell ⟨bo, k, none⟩ (.int .i64 (q k))).setCell ⟨bp, k * 2, none⟩ (.int .i64 (k : Int))).setCell ⟨bp, k * 2 + 1, none⟩ (.int .i64 (r k))).cell? ⟨bl, o, none⟩ = W.cell? ⟨bl, o, none⟩ := fun o => by
    rw [set_far S.pl, set_far S.pl, set_far S.ol]
  refine ⟨((S.below.setCell S.o0 _).setCell S.p0 _).setCell S.p0 _, o1.congr fun j hj => ?_, p1.congr fun t ht => ?_, (c 0).trans S.l0, (c 1).trans S.l1, fun o => by simp only [World.frozen?_setCell]; exact S.lf o, S.o0, S.p0, S.q0, S.op, S.ol, S.pl⟩
  · by_cases e : j = k
    · subst e; simp
    · by_cases h : j < k
      · simp [e, h, show j < k + 1 by omega]
      · simp [e, h, show ¬ j < k + 1 by omega]
  · unfold cellP
    by_cases h0 : t < k * 2
    · simp [h0, show t < (k + 1) * 2 by omega, show t ≠ k * 2 by omega, show t ≠ k * 2 + 1 by omega]
    · by_cases h1 : t = k * 2
      · subst h1; simp [show k * 2 < (k + 1) * 2 by omega]
      · by_cases h2 : t = k * 2 + 1
        · subst h2; simp [show k * 2 + 1 < (k + 1) * 2 by omega, show (k * 2 + 1) / 2 = k by omega]
        · simp [h0, h1, h2, show ¬ t < (k + 1) * 2 by omega]
/-- behind the store into what is left -/
theorem SpS.left (S : SpS w0 W bo bp bl n k q r x) (y : Int) : SpS w0 ((W.setCell ⟨bl, 0, none⟩ (.int .i64 (hiW y))).setCell ⟨bl, 1, none⟩ (.int .u64 (loW y))) bo bp bl n k q r y :=
  ⟨(S.below.setCell S.q0 _).setCell S.q0 _, (S.out.other (p := ⟨bl, 0, none⟩) (Ne.symm S.ol) _).other (p := ⟨bl, 1, none⟩) (Ne.symm S.ol) _, (S.parts.other (p := ⟨bl, 0, none⟩) (Ne.symm S.pl) _).other (p := ⟨bl, 1, none⟩) (Ne.symm S.pl) _,
    by rw [World.cell?_setCell_other _ _ _ _ (fun h => by cases h)]; exact World.cell?_setCell_same _ _ _ S.l0,
    World.cell?_setCell_same _ _ _ (u := .int .u64 (loW x)) (by rw [World.cell?_setCell_other _ _ _ _ (fun h => by cases h)]; exact S.l1),
    fun o => by simp only [World.frozen?_setCell]; exact S.lf o, S.o0, S.p0, S.q0, S.op, S.ol, S.pl⟩
theorem wadd_fit (x y : Int) (w : World) (hx : InW x) (hy : InW y) (h : InW (x + y)) :
    Calls Tryd.prog 46 #[wideA x, wideA y] w fun e w' => e = .returned (.tuple #[wideA (x + y), .int .i64 0]) ∧ Below w.heap.size w w' := by
  have := wadd_any x y w hx hy
  obtain ⟨h1, h2⟩ := capW_of h
  rwa [h1, h2] at this
theorem wneg_fit (x : Int) (w : World) (hx : InW x) (h : InW (-x)) :
    Calls Tryd.prog 45 #[wideA x] w fun e w' => e = .returned (.tuple #[wideA (-x), .int .i64 0]) ∧ Below w.heap.size w w' := by
  have := wneg_any x w hx
  obtain ⟨h1, h2⟩ := capW_of h
  rwa [h1, h2] at this
theorem wfit_fit (x : Int) (w : World) (h : In x) :
    Calls Tryd.prog 47 #[wideA x] w fun e w' => e = .returned (.tuple #[.int .i64 x, .int .i64 0]) ∧ Below w.heap.size w w' := by
  have := wfit_any x w (InW_of_In h)
  have hf : fitB x = true := by unfold fitB; exact decide_eq_true h
  unfold capN errN at this
  rwa [if_pos hf, if_pos hf] at this
theorem muldiv_fit (a x c : Int) (w : World) (ha : In a) (hx : In x) (hc : In c) (h0 : 0 < c) (h : In (a * x / c)) :
    Calls Tryd.prog 44 #[.int .i64 a, .int .i64 x, .int .i64 c] w fun e w' => e = .returned (.tuple #[.int .i64 (a * x / c), .int .i64 (a * x % c), .int .i64 0]) ∧ Below w.heap.size w w' := by
  have := muldiv_any a x c w ha hx hc
  have hf : fitB (a * x / c) = true := by unfold fitB; exact decide_eq_true h
  unfold mdQ mdR mdE errN at this
  rwa [if_pos ⟨h0, hf⟩, if_pos ⟨h0, hf⟩, if_pos h0, if_pos hf] at this
/-- what is left over behind k -/
def leftI (a : Int) (ws : List Int) (k : Nat) : Int := a - sumI ((shQ a ws).take k)
set_option maxHeartbeats 1000000 in
theorem split_no (a : Int) (ws : List Int) (ad : Option Addr) (cap : Nat) (w : World) (hn : ws.length ≤ 9223372036854775807) (hx : ∀ k, k < ws.length → In (ws.getD k 0)) (hs : SlI .i64 w ad ws) (hE : allE ws ≠ 0) :
    Calls Tryd.prog 20 #[.int .i64 a, .slice ad ws.length cap] w fun e w' => e = .returned (.tuple #[.slice none 0 0, .int .i64 (allE ws)]) ∧ Below w.heap.size w w' := by
  have A := Lib.hid (all_any ws ad cap w hn hx hs)
  clear hx hs
  have hz : (allE ws == 0) = false := by simpa using hE
  generalize allE ws = u at *
  generalize allN ws = v at *
  generalize ws.length = n at *
  go_enter Tryd.func20, Tryd.ntmps20
  go_wp2_with fail
  refine A.out.mono ?_
  rintro e w1 ⟨rfl, hb1⟩
  go_wp2
  refine bodyPost_ret (v := .tuple #[.slice none 0 0, .int .i64 u]) (by simp [results, Tryd.results20, go_sem]) rfl ⟨rfl, hb1⟩
theorem sum_take_bd (xs : List Int) (h : ∀ k, k < xs.length → In (xs.getD k 0)) (k : Nat) (hk : k ≤ xs.length) : -(9223372036854775808 * (k : Int)) ≤ sumI (xs.take k) ∧ sumI (xs.take k) ≤ 9223372036854775808 * (k : Int) := by
  induction k with
  | zero => simp [sumI]
  | succ k ih =>
    have h1 := ih (by omega)
    have h2 := h k (by omega)
    rw [sumI_take_succ xs k (by omega)]
    unfold In at h2
    omega
theorem leftI_zero (a : Int) (ws : List Int) : leftI a ws 0 = a := by unfold leftI; simp [sumI]
theorem leftI_succ (a : Int) (ws : List Int) (k : Nat) (hk : k < ws.length) : leftI a ws (k + 1) = leftI a ws k + -(a * ws.getD k 0 / sumI ws) := by
  unfold leftI
  rw [sumI_take_succ _ k (by simpa using hk), at_shQ hk]
  omega
theorem leftI_all (a : Int) (ws : List Int) : leftI a ws ws.length = shM a ws := by
  unfold leftI shM
  rw [List.take_of_length_le (by simp)]
theorem leftI_bd {a : Int} {ws : List Int} (h : WOk ws) (ha : In a) (k : Nat) (hk : k ≤ ws.length) : InW (leftI a ws k) := by
  have h1 := sum_take_bd (shQ a ws) (fun j hj => h.q_in ha (by simpa using hj)) k (by simpa using hk)
  have := h.len
  unfold leftI InW
  unfold In at ha
  omega
/-- What Split returns, where weights may be. -/
def SplitOk (a : Int) (ws : List Int) (w : World) (e : Ending) (w' : World) : Prop :=
  ∃ b, w.heap.size ≤ b ∧ e = .returned (.tuple #[.slice (some ⟨b, 0, none⟩) ws.length ws.length, .int .i64 0]) ∧ RowF w' b ws.length (fun j => (shL a ws).getD j 0) ∧ Below w.heap.size w w'
theorem info_part : (Tryd.prog.info? 67).map (fun i => (i.zero, i.size, i.bytes)) = some (some (.agg #[.int .i64 0, .int .i64 0]), 2, 16) := by kernel_rfl
theorem info_i64 : (Tryd.prog.info? 2).map (fun i => (i.zero, i.size, i.bytes)) = some (some (.int .i64 0), 1, 8) := by kernel_rfl
theorem make_i64 (n : Nat) (hn : n ≤ 4096) (w : World) : (Instr.makeSlice 32 (.int .i64 (n : Int)) (.int .i64 (n : Int))).run Tryd.prog w = .ok (.slice (some ⟨w.heap.size, 0, none⟩) n n) (w.alloc (.cells (Array.replicate n (.int .i64 0)) 2)) := by
  obtain ⟨i, hi, h1, h2, h3⟩ := info_parts info_i64
  have := run_makeSlice (P := Tryd.prog) w 32 2 i (.int .i64 0) Tryd.underlying32 hi h1 .i64 .i64 n n (by omega) (by omega) (by rw [h2]; omega) (by rw [h3]; omega) (by omega)
  rw [this, h2]
  show _ = Result.ok _ _
  rw [← made_row]
  simp [Value.cells]
theorem make_part (n : Nat) (hn : n ≤ 4096) (w : World) : (Instr.makeSlice 62 (.int .i64 (n : Int)) (.int .i64 (n : Int))).run Tryd.prog w = .ok (.slice (some ⟨w.heap.size, 0, none⟩) n n) (w.alloc (.cells (Array.replicate (n * 2) (.int .i64 0)) 67)) := by
  obtain ⟨i, hi, h1, h2, h3⟩ := info_parts info_part
  have := run_makeSlice (P := Tryd.prog) w 62 67 i (.agg #[.int .i64 0, .int .i64 0]) Tryd.underlying62 hi h1 .i64 .i64 n n (by omega) (by omega) (by rw [h2]; omega) (by rw [h3]; omega) (by omega)
  rw [this, h2]
  show _ = Result.ok _ _
  rw [← made_pair]
  simp [Value.cells]
end Go.Proofs.YtkejohmghacdhaaDoor
/- share.Split where weights may be. -/
namespace Go.Proofs.YtkejohmghacdhaaDoor
set_option linter.unusedVariables false
set_option linter.unusedSimpArgs false
open Go Go.Shelf Go.RowKit Go.Lib Go.Sort
/-- Behind the first region: two new rows of zeros. -/
structure SpM (w0 W : World) (bo bp n : Nat) : Prop where
  below : Below w0.heap.size w0 W
  out : RowF W bo n (fun _ => 0)
  parts : RowF W bp (n * 2) (fun _ => 0)
  o0 : w0.heap.size ≤ bo
  p0 : w0.heap.size ≤ bp
  o1 : bo < W.heap.size
  p1 : bp < W.heap.size
  op : bo ≠ bp
theorem SpM.one (w0 W : World) (n : Nat) (t u : TypeId) (hb : Below w0.heap.size w0 W) : SpM w0 ((W.alloc (.cells (Array.replicate n (.int .i64 0)) t)).alloc (.cells (Array.replicate (n * 2) (.int .i64 0)) u)) W.heap.size (W.heap.size + 1) n := by
  have h1 := row_made W n t
  have h2 := row_made (W.alloc (.cells (Array.replicate n (.int .i64 0)) t)) (n * 2) u
  rw [World.size_alloc] at h2
  exact ⟨bl_alloc (bl_alloc hb _) _, h1.go (bl_alloc (Below.refl _ _) _), h2, hb.size, Nat.le_trans hb.size (Nat.le_succ _), by simp; omega, by simp, by omega⟩
theorem SpM.two (w0 W : World) (n : Nat) (t u : TypeId) (hb : Below w0.heap.size w0 W) : SpM w0 ((W.alloc (.cells (Array.replicate (n * 2) (.int .i64 0)) u)).alloc (.cells (Array.replicate n (.int .i64 0)) t)) (W.heap.size + 1) W.heap.size n := by
  have h1 := row_made W (n * 2) u
  have h2 := row_made (W.alloc (.cells (Array.replicate (n * 2) (.int .i64 0)) u)) n t
  rw [World.size_alloc] at h2
  exact ⟨bl_alloc (bl_alloc hb _) _, h2, h1.go (bl_alloc (Below.refl _ _) _), Nat.le_trans hb.size (Nat.le_succ _), hb.size, by simp, by simp; omega, by omega⟩
theorem SpM.start {w0 W : World} {bo bp n : Nat} (S : SpM w0 W bo bp n) (x : Int) (q r : Nat → Int) (t : TypeId) : SpS w0 (W.alloc (.cells #[.int .i64 (hiW x), .int .u64 (loW x)] t)) bo bp W.heap.size n 0 q r x :=
  ⟨bl_alloc S.below _, (S.out.go (bl_alloc (Below.refl _ _) _)).congr fun j _ => by simp, (S.parts.go (bl_alloc (Below.refl _ _) _)).congr fun t _ => by unfold cellP; simp, by simp, by simp, fun o => by simp, S.o0, S.p0, S.below.size, S.op, by have := S.o1; omega, by have := S.p1; omega⟩
theorem SpM.go {w0 W W' : World} {bo bp n : Nat} (S : SpM w0 W bo bp n) (hb : Below W.heap.size W W') : SpM w0 W' bo bp n :=
  ⟨bl_call S.below hb, S.out.go hb, S.parts.go hb, S.o0, S.p0, Nat.lt_of_lt_of_le S.o1 hb.size, Nat.lt_of_lt_of_le S.p1 hb.size, S.op⟩
theorem swk_rest {w0 W : World} {bp : Nat} {d' : Array PartI} (S : SWK encP 2 w0 bp 0 d' W) {b : Nat} (hb : b < w0.heap.size) (hne : b ≠ bp) : (∀ o, W.cell? ⟨b, o, none⟩ = w0.cell? ⟨b, o, none⟩) ∧ (∀ o, W.frozen? ⟨b, o, none⟩ = w0.frozen? ⟨b, o, none⟩) := by
  obtain ⟨m, os, rfl⟩ := S
  unfold sortWorldK
  refine ⟨fun o => ?_, fun o => ?_⟩
  · rw [cell?_grow _ _ _ (by rw [size_putRowK]; exact hb), cell?_putRowK_other _ _ _ _ _ _ _ hne]; rfl
  · rw [frozen?_grow _ _ _ (by rw [size_putRowK]; exact hb)]
    show (putRow _ _ _ _ _).frozen? _ = _
    rw [frozen?_putRow]; rfl
theorem swk_below {w0 W w : World} {bp B : Nat} {d' : Array PartI} (S : SWK encP 2 w0 bp 0 d' W) (hB : B ≤ bp) (hs : B ≤ w0.heap.size) (h : Below B w w0) : Below B w W := by
  refine h.trans ?_
  have hle := S.le
  obtain ⟨m, os, rfl⟩ := S
  refine ⟨rfl, rfl, rfl, hle, fun k hk => ?_⟩
  unfold sortWorldK
  rw [heap_grow_old _ _ (by rw [size_putRowK]; show k < w0.heap.size; omega)]
  show ((Sort.ahead w0 m).heap.modify bp _)[k]? = _
  rw [Array.getElem?_modify, if_neg (by omega)]
  rfl
/-- Within the second loop. -/
structure Sp2 (w0 W : World) (bo bp n t : Nat) (q : Nat → Int) (rk : Nat → Nat) (d' : Array PartI) : Prop where
  below : Below w0.heap.size w0 W
  out : RowF W bo n (fun j => q j + if rk j < t then 1 else 0)
  parts : HoldsK encP 2 W bp 0 d'
  o0 : w0.heap.size ≤ bo
  p0 : w0.heap.size ≤ bp
  op : bo ≠ bp
theorem holdsK_go {w w' : World} {b : Nat} {d : Array PartI} (h : HoldsK encP 2 w b 0 d) (hb : Below w.heap.size w w') : HoldsK encP 2 w' b 0 d := fun j hj => by
  obtain ⟨h1, h2⟩ := h j hj
  have hl := World.block_lt_of_cell? w _ h1
  exact ⟨(hb.cell (p := ⟨b, 0 + j, none⟩) hl).trans h1, (hb.frozen (p := ⟨b, 0 + j, none⟩) hl).trans h2⟩
theorem Sp2.go {w0 W W' : World} {bo bp n t : Nat} {q : Nat → Int} {rk : Nat → Nat} {d' : Array PartI} (S : Sp2 w0 W bo bp n t q rk d') (hb : Below W.heap.size W W') : Sp2 w0 W' bo bp n t q rk d' :=
  ⟨bl_call S.below hb, S.out.go hb, holdsK_go S.parts hb, S.o0, S.p0, S.op⟩
theorem Sp2.put {w0 W : World} {bo bp n t i : Nat} {q : Nat → Int} {rk : Nat → Nat} {d' : Array PartI} (S : Sp2 w0 W bo bp n t q rk d') (hi : i < n) (hr : rk i = t) (hj : ∀ j, j < n → rk j = t → j = i) : Sp2 w0 (W.setCell ⟨bo, i, none⟩ (.int .i64 (q i + 1))) bo bp n (t + 1) q rk d' :=
  ⟨S.below.setCell S.o0 _, (S.out.set i hi (q i + 1)).congr fun j h => by
    by_cases e : j = i
    · subst e; simp [hr]
    · have : rk j ≠ t := fun h2 => e (hj j h h2)
      by_cases h3 : rk j < t
      · simp [e, h3, show rk j < t + 1 by omega]
      · simp [e, h3, show ¬ rk j < t + 1 by omega], fun j h => by
    obtain ⟨h1, h2⟩ := S.parts j h
    exact ⟨by rw [set_far S.op]; exact h1, by rw [World.frozen?_setCell]; exact h2⟩, S.o0, S.p0, S.op⟩
theorem Sp2.part {w0 W : World} {bo bp n t : Nat} {q : Nat → Int} {rk : Nat → Nat} {d' : Array PartI} (S : Sp2 w0 W bo bp n t q rk d') {s : Nat} (h : s < d'.size) : W.cell? ⟨bp, s * 2, none⟩ = some (.int .i64 (atP d'[s]! : Int)) ∧ W.cell? ⟨bp, s * 2 + 1, none⟩ = some (.int .i64 d'[s]!.2) := by
  have a := (HoldsK.cell S.parts h (c := 0) (by decide)).1
  have b := (HoldsK.cell S.parts h (c := 1) (by decide)).1
  rw [Nat.zero_add] at a b
  exact ⟨a, b⟩
theorem SpS.turn {w0 W W' : World} {bo bp bl n : Nat} {q r : Nat → Int} {x : Int} {d' : Array PartI} {rk : Nat → Nat} (S : SpS w0 W bo bp bl n n q r x) (hn : n ≤ 4096) (hn0 : 0 < n) (hs : d'.size = n) (T : SWK encP 2 W bp 0 d' W') : Sp2 w0 W' bo bp n 0 q rk d' := by
  have hb := S.parts.lt (by omega)
  have ho := S.out.lt hn0
  refine ⟨swk_below T S.p0 S.below.size S.below, fun j hj => ?_, T.holds hb (holds_rowP hn S.parts) (by simp [rowP, hs]), S.o0, S.p0, S.op⟩
  obtain ⟨h1, h2⟩ := S.out j hj
  obtain ⟨e1, e2⟩ := swk_rest T ho S.op
  exact ⟨by rw [e1, h1]; simp [hj], by rw [e2]; exact h2⟩
def SplitW (n m : Nat) (q : Nat → Int) (rk : Nat → Nat) (w : World) (e : Ending) (w' : World) : Prop :=
  ∃ b, w.heap.size ≤ b ∧ e = .returned (.tuple #[.slice (some ⟨b, 0, none⟩) n n, .int .i64 0]) ∧ RowF w' b n (fun j => q j + if rk j < m then 1 else 0) ∧ Below w.heap.size w w'
set_option maxHeartbeats 4000000 in
set_option maxRecDepth 100000 in
theorem split_walk (a sg : Int) (n m : Nat) (xs q r lf : Nat → Int) (rk : Nat → Nat) (sb so cap : Nat) (w : World) (hn0 : 0 < n) (hn : n ≤ 4096) (hm : m < n) (hsb : sb < w.heap.size)
    (HC : Hid (∀ j, j < n → w.cell? ⟨sb, so + j, none⟩ = some (.int .i64 (xs j))))
    (A : Hid (Calls Tryd.prog 42 #[.slice (some ⟨sb, so, none⟩) n cap] w fun e w' => e = .returned (.tuple #[.int .i64 sg, .int .i64 0]) ∧ Below w.heap.size w w'))
    (C0 : Hid (∀ W, Calls Tryd.prog 43 #[.int .i64 a] W fun e w' => e = .returned (wideA (lf 0)) ∧ Below W.heap.size W w'))
    (CM : Hid (∀ k W, k < n → Calls Tryd.prog 44 #[.int .i64 a, .int .i64 (xs k), .int .i64 sg] W fun e w' => e = .returned (.tuple #[.int .i64 (q k), .int .i64 (r k), .int .i64 0]) ∧ Below W.heap.size W w'))
    (CO : Hid (∀ k W, k < n → Calls Tryd.prog 43 #[.int .i64 (q k)] W fun e w' => e = .returned (wideA (q k)) ∧ Below W.heap.size W w'))
    (CN : Hid (∀ k W, k < n → Calls Tryd.prog 45 #[wideA (q k)] W fun e w' => e = .returned (.tuple #[wideA (-(q k)), .int .i64 0]) ∧ Below W.heap.size W w'))
    (CA : Hid (∀ k W, k < n → Calls Tryd.prog 46 #[wideA (lf k), wideA (-(q k))] W fun e w' => e = .returned (.tuple #[wideA (lf (k + 1)), .int .i64 0]) ∧ Below W.heap.size W w'))
    (CF : Hid (∀ W, Calls Tryd.prog 47 #[wideA (lf n)] W fun e w' => e = .returned (.tuple #[.int .i64 (m : Int), .int .i64 0]) ∧ Below W.heap.size W w'))
    (SRT : Hid (∀ d' : Array PartI, PermIn 0 n (rowP r n) d' → Inc keyP 0 n d' → d'.size = n ∧ ∀ t, t < n → atP d'[t]! < n ∧ rk (atP d'[t]!) = t))
    (INC : Hid (∀ j, j < n → rk j < m → IntKind.i64.wrap (q j + 1) = q j + 1)) (RINJ : Hid (∀ i j, i < n → j < n → rk i = rk j → i = j)) :
    Calls Tryd.prog 20 #[.int .i64 a, .slice (some ⟨sb, so, none⟩) n cap] w (SplitW n m q rk w) := by
  have mk1 := make_i64 n hn
  have mk2 := make_part n hn
  go_enter Tryd.func20, Tryd.ntmps20
  go_wp2_with fail
  refine A.out.mono ?_
  rintro e w1 ⟨rfl, hb1⟩
  have HB1 := Lib.hid hb1
  clear hb1
  go_upto_region 4 with fail
  go_cut [8, 9] (fun s8 s9 wx => ∃ bo bp : Nat, s8 = .slice (some ⟨bo, 0, none⟩) n n ∧ s9 = .slice (some ⟨bp, 0, none⟩) n n ∧ SpM w wx bo bp n)
  case first =>
    go_region
    all_goals (go_wp2_with fail; go_meet; first | exact ⟨_, _, rfl, rfl, SpM.one w w1.drew n _ _ (bl_drew HB1.out)⟩ | exact ⟨_, _, rfl, rfl, SpM.two w w1.drew n _ _ (bl_drew HB1.out)⟩ | skip)
  case rest =>
    clear mk1 mk2
    obtain ⟨bo, bp, rfl, rfl, M1⟩ := hcut
    go_wp2_with fail
    refine (C0.out _).mono ?_
    rintro e w2 ⟨rfl, hb2⟩
    have M2 := Lib.hid (M1.go hb2)
    clear hb2 M1
    go_wp2
    have S0 : Aside (SpS w (w2.alloc (Obj.cells #[Value.int IntKind.i64 (hiW (lf 0)), Value.int IntKind.u64 (loW (lf 0))] 50)) bo bp w2.heap.size n 0 q r (lf 0)) := M2.out.start (lf 0) q r 50
    generalize w2.alloc (Obj.cells #[Value.int IntKind.i64 (hiW (lf 0)), Value.int IntKind.u64 (loW (lf 0))] 50) = w3 at S0 ⊢
    generalize w2.heap.size = bl at S0 ⊢
    clear M2 w2
    go_loopg [38] n (fun kx s38 wr => ∃ k : Nat, s38 = .int .i64 k ∧ k ≤ n ∧ n - k ≤ kx ∧ Aside (SpS w wr bo bp bl n k q r (lf k)))
    case atStart => exact ⟨0, rfl, by omega, by omega, S0⟩
    case round =>
      clear S0
      obtain ⟨k, rfl, hkn, hkx, S1⟩ := hrel
      by_cases hlt : k < n
      · have hltz : (k : Int) < (n : Int) := by omega
        have hcell : wr.cell? ⟨sb, so + k, none⟩ = some (.int .i64 (xs k)) := (S1.out.below.cell (p := ⟨sb, so + k, none⟩) hsb).trans (HC.out k hlt)
        go_wp2_with fail
        refine (CM.out k _ hlt).mono ?_
        rintro e w4 ⟨rfl, hb4⟩
        have S4 := Lib.hid (S1.out.go hb4)
        clear hb4 hcell S1
        obtain ⟨o1, o2⟩ := S4.out.out k hlt
        have PP := S4.out.parts.other (p := ⟨bo, k, none⟩) S4.out.op (.int .i64 (q k))
        obtain ⟨p1, p2⟩ := PP (k * 2) (by omega)
        obtain ⟨p3, p4⟩ := PP (k * 2 + 1) (by omega)
        clear PP
        go_upto_region 13 with fail
        have S5 : Aside (SpS w (((w4.setCell ⟨bo, k, none⟩ (.int .i64 (q k))).setCell ⟨bp, k * 2, none⟩ (.int .i64 (k : Int))).setCell ⟨bp, k * 2 + 1, none⟩ (.int .i64 (r k))) bo bp bl n (k + 1) q r (lf k)) := S4.out.put hlt
        generalize ((w4.setCell ⟨bo, k, none⟩ (.int .i64 (q k))).setCell ⟨bp, k * 2, none⟩ (.int .i64 (k : Int))).setCell ⟨bp, k * 2 + 1, none⟩ (.int .i64 (r k)) = w5 at S5 ⊢
        clear S4 o1 o2 p1 p2 p3 p4
        go_wp2_with fail
        refine (CO.out k _ hlt).mono ?_
        rintro e w6 ⟨rfl, hb6⟩
        have S6 := Lib.hid (S5.out.go hb6)
        clear hb6 S5
        go_wp2_with fail
        refine (CN.out k _ hlt).mono ?_
        rintro e w7 ⟨rfl, hb7⟩
        have S7 := Lib.hid (S6.out.go hb7)
        clear hb7 S6
        have c0 := S7.out.l0
        have c1 := S7.out.l1
        have cl := S7.out.lt
        go_wp2_with fail
        refine (CA.out k _ hlt).mono ?_
        rintro e w9 ⟨rfl, hb9⟩
        have S9 := Lib.hid ((S7.out.go (bl_alloc (Below.refl _ _) _)).go hb9)
        clear hb9 S7 c0 c1 cl
        have c0 := S9.out.l0
        have c1 := S9.out.l1
        have cf := S9.out.lf
        go_upto_region 17 with fail
        have S10 : Aside (SpS w ((w9.setCell ⟨bl, 0, none⟩ (.int .i64 (hiW (lf (k + 1))))).setCell ⟨bl, 1, none⟩ (.int .u64 (loW (lf (k + 1))))) bo bp bl n (k + 1) q r (lf (k + 1))) := S9.out.left (lf (k + 1))
        generalize (w9.setCell ⟨bl, 0, none⟩ (.int .i64 (hiW (lf (k + 1))))).setCell ⟨bl, 1, none⟩ (.int .u64 (loW (lf (k + 1)))) = w10 at S10 ⊢
        clear S9 c0 c1 cf
        go_wp2
        go_roundg (n - (k + 1))
        case measure => omega
        case rel => exact ⟨k + 1, by first | rfl | go_num | simp, by omega, Nat.le_refl _, S10⟩
      · obtain rfl : k = n := by omega
        have hltz : ¬ (k : Int) < (k : Int) := by omega
        have c0 := S1.out.l0
        have c1 := S1.out.l1
        go_wp2_with fail
        refine (CF.out _).mono ?_
        rintro e w4 ⟨rfl, hb4⟩
        have S4 := Lib.hid (S1.out.go hb4)
        clear hb4 S1 c0 c1
        go_wp2_with fail
        refine (sort_any bp k k (rowP r k) _ (by simp [rowP]) hn (fun i hi => (get_rowP r k i hi hn).1) (holds_rowP hn S4.out.parts) (S4.out.parts.lt (by omega))).mono ?_
        rintro e w5 ⟨rfl, d', h1, h2, h3, h4⟩
        have T := Lib.hid (SRT.out d' h3 h4)
        have S5 := Lib.hid h2
        have S6 : Aside (Sp2 w w5 bo bp k 0 q rk d') := S4.out.turn hn hn0 T.out.1 S5.out
        clear h1 h2 h3 h4 S4 S5
        have e1 : min (m : Int) (k : Int) = (m : Int) := by omega
        have e2 : max (m : Int) 0 = (m : Int) := by omega
        go_wp2
        clear e1 e2
        go_loopg [100] k (fun kx s100 wr => ∃ t : Nat, s100 = .int .i64 t ∧ t ≤ m ∧ k - t ≤ kx ∧ Aside (Sp2 w wr bo bp k t q rk d'))
        case atStart => exact ⟨0, rfl, by omega, by omega, S6⟩
        case round =>
          clear S6
          obtain ⟨t, rfl, htm, hkx, S1⟩ := hrel
          by_cases htl : t < m
          · have htz : (t : Int) < (m : Int) := by omega
            obtain ⟨c0, c1⟩ := S1.out.part (s := t) (by have := T.out.1; omega)
            obtain ⟨i1, i2⟩ := T.out.2 t (by omega)
            have RI := Lib.hid i2
            generalize atP d'[t]! = i at c0 i1 RI
            generalize d'[t]!.2 = ab at c1
            clear i2
            have iz : (i : Int) < (k : Int) := by omega
            obtain ⟨o1, o2⟩ := S1.out.out i i1
            simp only [RI.out, Nat.lt_irrefl, if_false, Int.add_zero] at o1
            have wr1 := INC.out i i1 (by rw [RI.out]; exact htl)
            have hbo := S1.out.out.lt hn0
            go_upto_region 28 with fail
            have S2 := Lib.hid ((S1.out.put i1 RI.out (fun j hj h => RINJ.out j i hj i1 (by rw [h, RI.out]))).go (bl_alloc (Below.refl _ _) (Obj.cells #[Value.int IntKind.i64 (i : Int), Value.int IntKind.i64 ab] 67)))
            clear S1 o1 o2 c0 c1 wr1 RI
            go_wp2
            go_roundg (k - (t + 1))
            case measure => omega
            case rel => exact ⟨t + 1, by first | rfl | go_num | simp, by omega, Nat.le_refl _, S2⟩
          · obtain rfl : t = m := by omega
            have htz : ¬ (t : Int) < (t : Int) := by omega
            go_wp2
            refine bodyPost_ret (v := .tuple #[.slice (some ⟨bo, 0, none⟩) k k, .int .i64 0]) (by simp [results, Tryd.results20, go_sem]) rfl ⟨bo, S1.out.o0, rfl, S1.out.out, S1.out.below⟩
set_option maxHeartbeats 4000000 in
set_option maxRecDepth 100000 in
theorem split_yes (a : Int) (ws : List Int) (ad : Option Addr) (cap : Nat) (w : World) (hn : ws.length ≤ 9223372036854775807) (hx : ∀ k, k < ws.length → In (ws.getD k 0)) (hs : SlI .i64 w ad ws) (ha : In a) (hE : allE ws = 0) :
    Calls Tryd.prog 20 #[.int .i64 a, .slice ad ws.length cap] w (SplitOk a ws w) := by
  obtain ⟨WO, hN⟩ := wok_of hE
  have hA := all_any ws ad cap w hn hx hs
  rw [hE, hN] at hA
  have hpos := WO.nonempty
  have hlen := WO.len
  obtain ⟨sb, so, rfl, hsb, hcell⟩ := hs.at 0 hpos
  have hS : In (sumI ws) := ⟨by have := WO.sum; omega, WO.fit⟩
  have hqi : ∀ k, k < ws.length → In (a * ws.getD k 0 / sumI ws) := fun k hk => by rw [← at_shQ hk]; exact WO.q_in ha hk
  have hqn : ∀ k, k < ws.length → InW (-(a * ws.getD k 0 / sumI ws)) := fun k hk => by have := hqi k hk; unfold In at this; unfold InW; omega
  have mb := WO.m_bd a
  obtain ⟨m, hm⟩ : ∃ m : Nat, shM a ws = m := ⟨(shM a ws).toNat, by omega⟩
  have hm' : (shM a ws).toNat = m := by omega
  refine (split_walk a (sumI ws) ws.length m (fun k => ws.getD k 0) (fun k => a * ws.getD k 0 / sumI ws) (fun k => a * ws.getD k 0 % sumI ws) (leftI a ws) (rank (shR a ws)) sb so cap w hpos hlen (by omega) hsb hcell hA
    (fun W => by rw [leftI_zero]; exact wof_any _ W ha)
    (fun k W hk => muldiv_fit a _ _ W ha (hx k hk) hS WO.sum (hqi k hk))
    (fun k W hk => wof_any _ W (hqi k hk))
    (fun k W hk => wneg_fit _ W (InW_of_In (hqi k hk)) (hqn k hk))
    (fun k W hk => by
      have e := leftI_succ a ws k hk
      rw [e]
      exact wadd_fit _ _ W (leftI_bd WO ha k (by omega)) (hqn k hk) (by rw [← e]; exact leftI_bd WO ha (k + 1) hk))
    (fun W => by rw [leftI_all, hm]; exact wfit_fit _ W ⟨by omega, by omega⟩)
    (fun d' P I => by
      have T := sorted_of (shR a ws) ws.length (rowP _ ws.length) d' (by simp) (by simp [rowP]) (fun i hi => by obtain ⟨h1, h2⟩ := get_rowP (fun k => a * ws.getD k 0 % sumI ws) ws.length i hi hlen; exact ⟨h1, by rw [h2, at_shR hi]⟩) P I
      exact ⟨T.size, T.at_⟩)
    (fun j hj hrk => by
      have h1 := WO.l_in ha hj
      rw [at_shL hj, at_shQ hj, hm'] at h1
      unfold took at h1
      rw [if_pos hrk] at h1
      rw [IntKind.wrap_i64]
      unfold In at h1
      omega)
    (fun i j hi hj h => rank_inj (by simpa using hlen) (by simpa using hi) (by simpa using hj) h)).mono ?_
  rintro e w' ⟨b, h1, h2, h3, h4⟩
  refine ⟨b, h1, h2, h3.congr fun j hj => ?_, h4⟩
  rw [at_shL hj, at_shQ hj, hm']
  rfl
end Go.Proofs.YtkejohmghacdhaaDoor
/- ref.Same of two slices that hold the same numbers; the chapter's example. -/
namespace Go.Proofs.YtkejohmghacdhaaDoor
set_option linter.unusedVariables false
set_option linter.unusedSimpArgs false
open Go Go.RowKit
theorem same_empty (a b : Option Addr) (ca cb : Nat) (w : World) :
    Calls Tryd.prog 41 #[.slice a 0 ca, .slice b 0 cb] w fun e w' => e = .returned (.bool true) ∧ Below w.heap.size w w' := by
  go_enter Tryd.func41, Tryd.ntmps41
  go_wp2
  refine wp_loop_rounds 1 ?_
  rw [rounds_succ]
  go_wp2
  go_ret
  exact ⟨rfl, Below.refl _ _⟩
set_option maxHeartbeats 1000000 in
theorem same_some (n : Nat) (f : Nat → Int) (b o c p ca cb : Nat) (w : World) (hn : n ≤ 9223372036854775807) (hb : b < w.heap.size) (hc : c < w.heap.size)
    (h1 : ∀ j, j < n → w.cell? ⟨b, o + j, none⟩ = some (.int .i64 (f j))) (h2 : ∀ j, j < n → w.cell? ⟨c, p + j, none⟩ = some (.int .i64 (f j))) :
    Calls Tryd.prog 41 #[.slice (some ⟨b, o, none⟩) n ca, .slice (some ⟨c, p, none⟩) n cb] w fun e w' => e = .returned (.bool true) ∧ Below w.heap.size w w' := by
  have H1 := Lib.hid h1
  have H2 := Lib.hid h2
  clear h1 h2
  go_enter Tryd.func41, Tryd.ntmps41
  go_wp2
  go_loopw [13] (fun i wr => ∃ k : Nat, k ≤ n ∧ i = .int .i64 k ∧ Aside (Below w.heap.size w wr)) (fun i _ => n - (intOf i).toNat)
  case atStart => exact ⟨0, by omega, rfl, Below.refl _ _⟩
  case round =>
    obtain ⟨k, hk, rfl, HB⟩ := hrel
    by_cases hlt : k < n
    · have hz : (k : Int) < (n : Int) := by omega
      have c1 : wr.cell? ⟨b, o + k, none⟩ = some (.int .i64 (f k)) := (HB.out.cell (p := ⟨b, o + k, none⟩) hb).trans (H1.out k hlt)
      have c2 : wr.cell? ⟨c, p + k, none⟩ = some (.int .i64 (f k)) := (HB.out.cell (p := ⟨c, p + k, none⟩) hc).trans (H2.out k hlt)
      generalize f k = x at c1 c2
      go_wp2
      go_quiet (fail)
      go_wp2
      go_roundw
      case rel => exact ⟨k + 1, by omega, by go_num, bl_drewN HB.out _⟩
      case measure => simp [intOf]; omega
    · have hz : ¬ (k : Int) < (n : Int) := by omega
      go_wp2
      go_ret
      exact ⟨rfl, HB.out⟩
theorem same_yes (xs : List Int) (a b : Option Addr) (ca cb : Nat) (w : World) (hn : xs.length ≤ 9223372036854775807) (h1 : SlI .i64 w a xs) (h2 : SlI .i64 w b xs) :
    Calls Tryd.prog 41 #[.slice a xs.length ca, .slice b xs.length cb] w fun e w' => e = .returned (.bool true) ∧ Below w.heap.size w w' := by
  by_cases h : xs = []
  · subst h; exact same_empty a b ca cb w
  · have hl : 0 < xs.length := by cases xs; exact absurd rfl h; simp
    obtain ⟨b1, o1, rfl, k1, c1⟩ := h1.at 0 hl
    obtain ⟨b2, o2, rfl, k2, c2⟩ := h2.at 0 hl
    exact same_some xs.length (fun j => xs.getD j 0) b1 o1 b2 o2 ca cb w hn k1 k2 c1 c2
theorem allE_111 : allE [1, 1, 1] = 0 := by decide
theorem shL_111 : shL 10 [1, 1, 1] = [4, 3, 3] := by decide
set_option maxHeartbeats 1000000 in
theorem live4 (w : World) : Calls Tryd.prog 18 #[] w fun e w' => e = .returned (.bool true) ∧ Below w.heap.size w w' := by
  have S := Lib.hid (fun (b : Nat) (w : World) (hs : SlI .i64 w (some ⟨b, 0, none⟩) [1, 1, 1]) => split_yes 10 [1, 1, 1] (some ⟨b, 0, none⟩) 3 w (by decide) (fun k hk => by
    have : k = 0 ∨ k = 1 ∨ k = 2 := by simp at hk; omega
    rcases this with rfl | rfl | rfl <;> exact ⟨by decide, by decide⟩) hs ⟨by decide, by decide⟩ allE_111)
  have T := Lib.hid (fun (a b : Option Addr) (w : World) h1 h2 => same_yes [4, 3, 3] a b 3 3 w (by decide) h1 h2)
  go_enter Tryd.func18, Tryd.ntmps18
  go_wp2_with fail
  refine (S.out w.heap.size _ (.inr ⟨_, 0, rfl, fun j hj => ?_⟩)).mono ?_
  · have : j = 0 ∨ j = 1 ∨ j = 2 := by simp at hj; omega
    rcases this with rfl | rfl | rfl <;> simp
  rintro e w1 ⟨b, hb, rfl, hr, hbl⟩
  rw [shL_111] at hr
  have R := Lib.hid hr
  have HB := Lib.hid hbl
  have hlt := hr.lt (by decide)
  clear hr hbl
  go_wp2_with fail
  refine (T.out (some ⟨b, 0, none⟩) (some ⟨w1.heap.size, 0, none⟩) _ (RowF.sl (R.out.go (bl_alloc (Below.refl _ _) _))) (.inr ⟨_, 0, rfl, fun j hj => ?_⟩)).mono ?_
  · have : j = 0 ∨ j = 1 ∨ j = 2 := by simp at hj; omega
    rcases this with rfl | rfl | rfl <;> simp
  rintro e w2 ⟨rfl, hb2⟩
  go_wp2
  go_ret
  exact ⟨rfl, bl_call (bl_alloc (bl_call (bl_alloc (Below.refl _ _) _) HB.out) _) hb2⟩
end Go.Proofs.YtkejohmghacdhaaDoor
/- Exact shares: the program's, the document's, and whether two lists are the same. -/
namespace Go.Proofs.YtkejohmghacdhaaDoor
set_option linter.unusedVariables false
set_option linter.unusedSimpArgs false
open Go Go.RowKit
def exN (a S x : Int) : Int := arN (a * mkN x S) (1 * mkD x S)
def exD (a S x : Int) : Int := arD (a * mkN x S) (1 * mkD x S)
def exE (a S x : Int) : Int := arE (a * mkN x S) (1 * mkD x S)
theorem exE_02 (a S x : Int) : exE a S x = 0 ∨ exE a S x = 2 := by unfold exE arE; split; exact .inl rfl; exact .inr rfl
section
variable {a S x : Int} (hS : 0 < S) (hS1 : S ≤ 9223372036854775807) (h0 : 0 ≤ x) (h1 : x ≤ S)
include hS hS1 h0 h1
theorem mk_ok : mkOk x S = true := by
  refine decide_eq_true ⟨by omega, ?_, .inl ?_⟩
  · have : mY x S ≤ S.natAbs := Nat.div_le_self _ _
    omega
  · have : mX x S ≤ x.natAbs := Nat.div_le_self _ _
    omega
theorem mk_in : In (mkN x S) ∧ In (mkD x S) := by
  obtain ⟨_, e1, e2, _⟩ := mk_right (mk_ok hS hS1 h0 h1)
  have y : mY x S ≤ S.natAbs := Nat.div_le_self _ _
  have x' : mX x S ≤ x.natAbs := Nat.div_le_self _ _
  have s : mkS x S = false := by unfold mkS; exact decide_eq_false (by omega)
  rw [e1, e2, s]
  unfold sgn In
  simp
  omega
theorem ex_make (w : World) : Calls Tryd.prog 23 #[.int .i64 x, .int .i64 S] w fun e w' => e = .returned (.tuple #[ratA (mkN x S) (mkD x S), .int .i64 0]) ∧ Below w.heap.size w w' := by
  have := rat_make x S w ⟨by omega, by omega⟩ ⟨by omega, by omega⟩
  rwa [(mk_right (mk_ok hS hS1 h0 h1)).2.2.2.1] at this
theorem ex_cp : cpB a 1 (mkN x S) (mkD x S) = true := by
  unfold cpB
  rw [(mk_right (mk_ok hS hS1 h0 h1)).2.2.2.2.1, Bool.and_true]
  exact decide_eq_true ⟨by decide, by unfold gN; simp⟩
theorem ex_mul (ha : In a) (w : World) : Calls Tryd.prog 10 #[ratA a 1, ratA (mkN x S) (mkD x S)] w fun e w' => e = .returned (.tuple #[ratA (exN a S x) (exD a S x), .int .i64 (exE a S x)]) ∧ Below w.heap.size w w' := by
  obtain ⟨i1, i2⟩ := mk_in hS hS1 h0 h1
  have := rat_mul a 1 _ _ w ha ⟨by decide, by decide⟩ i1 i2
  rwa [ex_cp hS hS1 h0 h1, vN_yes, vN_yes, vE_yes] at this
end
/-- the cells of ratios, k of them laid -/
def cellR (f g : Nat → Int) (k t : Nat) : Int := if t < k * 2 then (if t % 2 = 0 then f (t / 2) else g (t / 2)) else 0
theorem cellR_a {f g : Nat → Int} {k j : Nat} (h : j < k) : cellR f g k (j * 2) = f j := by unfold cellR; rw [if_pos (by omega), if_pos (by omega)]; congr 1; omega
theorem cellR_b {f g : Nat → Int} {k j : Nat} (h : j < k) : cellR f g k (j * 2 + 1) = g j := by unfold cellR; rw [if_pos (by omega), if_neg (by omega)]; congr 1; omega
theorem cellR_put {W : World} {b n k : Nat} {f g : Nat → Int} (h : RowF W b (n * 2) (cellR f g k)) (hk : k < n) : RowF ((W.setCell ⟨b, k * 2, none⟩ (.int .i64 (f k))).setCell ⟨b, k * 2 + 1, none⟩ (.int .i64 (g k))) b (n * 2) (cellR f g (k + 1)) :=
  ((h.set (k * 2) (by omega) (f k)).set (k * 2 + 1) (by omega) (g k)).congr fun t ht => by
    unfold cellR
    by_cases h0 : t < k * 2
    · simp [h0, show t < (k + 1) * 2 by omega, show t ≠ k * 2 by omega, show t ≠ k * 2 + 1 by omega]
    · by_cases h1 : t = k * 2
      · subst h1; simp [show k * 2 < (k + 1) * 2 by omega]
      · by_cases h2 : t = k * 2 + 1
        · subst h2; simp [show k * 2 + 1 < (k + 1) * 2 by omega, show (k * 2 + 1) / 2 = k by omega]
        · simp [h0, h1, h2, show ¬ t < (k + 1) * 2 by omega]
theorem info_ratio : (Tryd.prog.info? 23).map (fun i => (i.zero, i.size, i.bytes)) = some (some (.agg #[.int .i64 0, .int .i64 0]), 2, 16) := by kernel_rfl
theorem make_ratio (n : Nat) (hn : n ≤ 4096) (w : World) : (Instr.makeSlice 33 (.int .i64 (n : Int)) (.int .i64 (n : Int))).run Tryd.prog w = .ok (.slice (some ⟨w.heap.size, 0, none⟩) n n) (w.alloc (.cells (Array.replicate (n * 2) (.int .i64 0)) 23)) := by
  obtain ⟨i, hi, h1, h2, h3⟩ := info_parts info_ratio
  have := run_makeSlice (P := Tryd.prog) w 33 23 i (.agg #[.int .i64 0, .int .i64 0]) Tryd.underlying33 hi h1 .i64 .i64 n n (by omega) (by omega) (by rw [h2]; omega) (by rw [h3]; omega) (by omega)
  rw [this, h2]
  show _ = Result.ok _ _
  rw [← made_pair]
  simp [Value.cells]
/-- What Exact returns: p: the first one whose share doesn't fit (n: none). -/
def ExOk (n p : Nat) (f g : Nat → Int) (w : World) (e : Ending) (w' : World) : Prop :=
  Below w.heap.size w w' ∧ ((p < n ∧ e = .returned (.tuple #[.slice none 0 0, .int .i64 2])) ∨ (p = n ∧ ∃ b cap, e = .returned (.tuple #[.slice (some ⟨b, 0, none⟩) n cap, .int .i64 0]) ∧ w.heap.size ≤ b ∧ RowF w' b (n * 2) (cellR f g n)))
set_option maxRecDepth 100000 in
set_option maxHeartbeats 8000000 in
theorem exact_walk (a sg : Int) (n p : Nat) (xs : List Int) (m d f g er : Nat → Int) (ad : Option Addr) (cap : Nat) (w : World) (hn0 : 0 < n) (hn : n ≤ 4096) (hp : p ≤ n)
    (HL : Hid (xs.length = n)) (HS : Hid (SlI .i64 w ad xs)) (E0 : Hid (∀ k, k < p → er k = 0)) (E2 : Hid (p < n → er p = 2))
    (A : Hid (Calls Tryd.prog 42 #[.slice ad n cap] w fun e w' => e = .returned (.tuple #[.int .i64 sg, .int .i64 0]) ∧ Below w.heap.size w w'))
    (CK : Hid (∀ k W, k < n → Calls Tryd.prog 23 #[.int .i64 (xs.getD k 0), .int .i64 sg] W fun e w' => e = .returned (.tuple #[ratA (m k) (d k), .int .i64 0]) ∧ Below W.heap.size W w'))
    (CM : Hid (∀ k W, k < n → Calls Tryd.prog 10 #[ratA a 1, ratA (m k) (d k)] W fun e w' => e = .returned (.tuple #[ratA (f k) (g k), .int .i64 (er k)]) ∧ Below W.heap.size W w')) :
    Calls Tryd.prog 19 #[.int .i64 a, .slice ad n cap] w (ExOk n p f g w) := by
  have mk := make_ratio n hn
  go_enter Tryd.func19, Tryd.ntmps19
  go_wp2_with fail
  refine A.out.mono ?_
  rintro e w1 ⟨rfl, hb1⟩
  have B2 : Aside (Below w.heap.size w (w1.alloc (.cells (Array.replicate (n * 2) (.int .i64 0)) 23))) := bl_alloc hb1 _
  have R2 : Aside (RowF (w1.alloc (.cells (Array.replicate (n * 2) (.int .i64 0)) 23)) w1.heap.size (n * 2) (cellR f g 0)) := (row_made w1 (n * 2) 23).congr fun j _ => by simp [cellR]
  have hbb := hb1.size
  clear hb1
  go_wp2
  clear mk
  generalize w1.alloc (.cells (Array.replicate (n * 2) (.int .i64 0)) 23) = w2 at B2 R2 ⊢
  generalize w1.heap.size = b at R2 hbb ⊢
  go_loopw [26] (fun i wr => ∃ k : Nat, k ≤ p ∧ i = .int .i64 k ∧ Aside (Below w.heap.size w wr) ∧ Aside (RowF wr b (n * 2) (cellR f g k))) (fun i _ => n - (intOf i).toNat)
  case atStart => exact ⟨0, by omega, rfl, B2, R2⟩
  case round =>
    clear B2 R2
    obtain ⟨k, hk, rfl, HB, HR⟩ := hrel
    by_cases hlt : k < n
    · have hz : (k : Int) < (n : Int) := by omega
      obtain ⟨sb, off, ea, hbz, hcc⟩ := HS.out.at k (by rw [HL.out]; exact hlt)
      subst ea
      have hcell : wr.cell? ⟨sb, off + k, none⟩ = some (.int .i64 (xs.getD k 0)) := (HB.out.cell (p := ⟨sb, off + k, none⟩) hbz).trans (hcc k (by rw [HL.out]; exact hlt))
      have MK := CK.out k
      generalize xs.getD k 0 = x at hcell MK
      clear hcc
      go_wp2_with fail
      refine (MK _ hlt).mono ?_
      rintro e w3 ⟨rfl, hb3⟩
      have B3 := Lib.hid (bl_call HB.out hb3)
      have R3 := Lib.hid (HR.out.go hb3)
      clear hb3 HB HR hcell MK
      go_wp2_with fail
      refine (CM.out k _ hlt).mono ?_
      rintro e w4 ⟨rfl, hb4⟩
      have B4 := Lib.hid (bl_call (bl_alloc B3.out _) hb4)
      have R4 := Lib.hid ((R3.out.go (bl_alloc (Below.refl _ _) _)).go hb4)
      clear hb4 B3 R3
      obtain ⟨o1, o2⟩ := R4.out (k * 2) (by omega)
      obtain ⟨o3, o4⟩ := R4.out (k * 2 + 1) (by omega)
      by_cases hkp : k < p
      · have e0 := E0.out k hkp
        rw [e0]
        have R5 := Lib.hid (cellR_put R4.out hlt)
        have B5 : Aside (Below w.heap.size w ((w4.setCell ⟨b, k * 2, none⟩ (.int .i64 (f k))).setCell ⟨b, k * 2 + 1, none⟩ (.int .i64 (g k)))) := (B4.out.setCell hbb _).setCell hbb _
        clear R4 B4 e0
        go_wp2
        go_roundw
        case rel => exact ⟨k + 1, by omega, by go_num, B5, R5⟩
        case measure => simp [intOf]; omega
      · obtain rfl : k = p := by omega
        have e2 := E2.out hlt
        rw [e2]
        have B5 : Aside (Below w.heap.size w ((w4.setCell ⟨b, k * 2, none⟩ (.int .i64 (f k))).setCell ⟨b, k * 2 + 1, none⟩ (.int .i64 (g k)))) := (B4.out.setCell hbb _).setCell hbb _
        clear R4 B4 e2
        go_wp2
        refine bodyPost_ret (v := .tuple #[.slice none 0 0, .int .i64 2]) (by simp [results, Tryd.results19, go_sem]) rfl ⟨B5.out, .inl ⟨hlt, rfl⟩⟩
    · obtain rfl : k = n := by omega
      obtain rfl : p = k := by omega
      have hz : ¬ (p : Int) < (p : Int) := by omega
      go_wp2
      refine bodyPost_ret (v := .tuple #[.slice (some ⟨b, 0, none⟩) p p, .int .i64 0]) (by simp [results, Tryd.results19, go_sem]) rfl ⟨HB.out, .inr ⟨rfl, b, p, rfl, hbb, HR.out⟩⟩
set_option maxRecDepth 100000 in
set_option maxHeartbeats 1000000 in
theorem run_ratEq (a b c d : Int) (w : World) : (Op.equalIn 10000 23 (.agg #[.int .i64 a, .int .i64 b]) (.agg #[.int .i64 c, .int .i64 d])).run Tryd.prog w = .ok ((a == c) && ((b == d) && true)) w := by
  have hp : Tryd.prog.stoodInHeld 23 = false := by kernel_rfl
  have hu := Tryd.underlying23
  have hf : Tryd.prog.underlying 23 = some (.struct (Tryd.prog.fieldsOf 23)) := by unfold Program.fieldsOf; rw [hu]
  have hfs : (Tryd.prog.fieldsOf 23).toList = (match Tryd.prog.underlying 23 with | some (.struct fs) => fs | _ => #[]).toList := rfl
  rw [show (10000 : Nat) = 9999 + 1 from rfl, run_equalIn_agg w 9999 _ _ _ hf hp, hfs, hu]
  have st : ∀ {d : Nat} {xs ys : Array Value} {f : Field} {fs : List Field} {w : World} {a b : Value} {r s : Bool}, f.name ≠ "_" → (part f.type xs f.offset).run Tryd.prog w = .ok a w → (part f.type ys f.offset).run Tryd.prog w = .ok b w →
      (Op.equalIn d f.type a b).run Tryd.prog w = .ok r w → (Op.eqFields d xs ys fs).run Tryd.prog w = .ok s w → (Op.eqFields d xs ys (f :: fs)).run Tryd.prog w = .ok (r && s) w := by
    intro d xs ys f fs w a b r s hn ha hb hr hs
    simp only [Op.eqFields, if_pos hn, Sem.run_bind, ha, hb, hr, Result.andThen_ok, Sem.run_ite, hs]
    cases r <;> simp
  refine st (by decide) (by kernel_rfl) (by kernel_rfl) (run_equalIn_int w 9998 _ .i64 .i64 _ _ Tryd.underlying2) ?_
  refine st (by decide) (by kernel_rfl) (by kernel_rfl) (run_equalIn_int w 9998 _ .i64 .i64 _ _ Tryd.underlying2) ?_
  rfl
theorem run_ratSame (a b : Int) (w : World) : (Op.equalIn 10000 23 (.agg #[.int .i64 a, .int .i64 b]) (.agg #[.int .i64 a, .int .i64 b])).run Tryd.prog w = .ok true w := by
  rw [run_ratEq]; simp
set_option maxRecDepth 100000 in
set_option maxHeartbeats 1000000 in
theorem exact_no (a : Int) (ws : List Int) (ad : Option Addr) (cap : Nat) (w : World) (hn : ws.length ≤ 9223372036854775807) (hx : ∀ k, k < ws.length → In (ws.getD k 0)) (hs : SlI .i64 w ad ws) (hE : allE ws ≠ 0) :
    Calls Tryd.prog 19 #[.int .i64 a, .slice ad ws.length cap] w fun e w' => e = .returned (.tuple #[.slice none 0 0, .int .i64 (allE ws)]) ∧ Below w.heap.size w w' := by
  have A := Lib.hid (all_any ws ad cap w hn hx hs)
  clear hx hs
  have hz : (allE ws == 0) = false := by simpa using hE
  generalize allE ws = u at *
  generalize allN ws = v at *
  generalize ws.length = n at *
  go_enter Tryd.func19, Tryd.ntmps19
  go_wp2_with fail
  refine A.out.mono ?_
  rintro e w1 ⟨rfl, hb1⟩
  go_wp2
  refine bodyPost_ret (v := .tuple #[.slice none 0 0, .int .i64 u]) (by simp [results, Tryd.results19, go_sem]) rfl ⟨rfl, hb1⟩
/-- the first one whose exact share doesn't fit -/
theorem first_bad (er : Nat → Int) (h : ∀ k, er k = 0 ∨ er k = 2) (n : Nat) : ∃ p, p ≤ n ∧ (∀ k, k < p → er k = 0) ∧ (p < n → er p = 2) := by
  induction n with
  | zero => exact ⟨0, Nat.le_refl _, fun k hk => by omega, fun h => by omega⟩
  | succ n ih =>
    obtain ⟨p, h1, h2, h3⟩ := ih
    by_cases hp : p < n
    · exact ⟨p, by omega, h2, fun _ => h3 hp⟩
    · obtain rfl : p = n := by omega
      rcases h p with h4 | h4
      · exact ⟨p + 1, Nat.le_refl _, fun k hk => by
          by_cases e : k = p
          · subst e; exact h4
          · exact h2 k (by omega), fun h => by omega⟩
      · exact ⟨p, by omega, h2, fun _ => h4⟩
theorem WOk.parts {ws : List Int} (h : WOk ws) (a : Int) {k : Nat} (hk : k < ws.length) : (shL a ws).getD k 0 = (shQ a ws).getD k 0 ∨ ((shL a ws).getD k 0 = (shQ a ws).getD k 0 + 1 ∧ 0 < (shR a ws).getD k 0) := by
  rw [at_shL hk]
  by_cases ht : rank (shR a ws) k < (shM a ws).toNat
  · exact .inr ⟨by unfold took; rw [if_pos ht], took_pos h a hk ht⟩
  · exact .inl (by unfold took; rw [if_neg ht]; omega)
end Go.Proofs.YtkejohmghacdhaaDoor
