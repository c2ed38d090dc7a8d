/- Several texts in one (a claim has room for sixty files): ShA ShM ShB Row ShC ShD ShF Own ShH ShJ ShI KitV ShK ShL ShN LawShareDoes. -/
import Derived.Test.YtkejohmghacdhaaSumA
import Derived.Test.YtkejohmghacdhaaDzA
import Derived.Test.YtkejohmghacdhaaSl
import Derived.OwnWalk
import Derived.Laws.OwnMore
import Derived.Test.YtkejohmghacdhaaDivD
import Derived.Deep.DeepCutAuto
import Derived.RegionTactic
import Derived.BigRegion
import Derived.Deep.QuietTactic
import Derived.Test.YtkejohmghacdhaaRwK
import Derived.Maps.AppendAt
import Derived.Test.YtkejohmghacdhaaKit
import Derived.StillTail
import Derived.Test.YtkejohmghacdhaaRatF
import Derived.Test.YtkejohmghacdhaaRatN
import Derived.Laws.AppendOwnNone
/- share.all: the weights together. -/
namespace Go.Proofs.Ytkejohmghacdhaa
set_option linter.unusedVariables false
set_option linter.unusedSimpArgs false
open Go.RowKit
/-- one is below 0 -/
def negB (xs : List Int) : Bool := xs.any fun x => decide (x < 0)
def allE (xs : List Int) : Int := if 4096 < xs.length then 6 else if negB xs = true then 1 else if errN (sumI xs) = 0 then (if sumI xs = 0 then 3 else 0) else errN (sumI xs)
def allN (xs : List Int) : Int := if 4096 < xs.length then 0 else if negB xs = true then 0 else capN (sumI xs)
theorem negB_true {xs : List Int} (h : negB xs = true) : ∃ p, p < xs.length ∧ xs.getD p 0 < 0 ∧ ∀ j, j < p → 0 ≤ xs.getD j 0 := by
  induction xs with
  | nil => simp [negB] at h
  | cons x r ih =>
    by_cases hx : x < 0
    · exact ⟨0, by simp, by simpa using hx, fun j hj => by omega⟩
    · have : negB r = true := by
        unfold negB at h ⊢
        rw [List.any_cons, decide_eq_false hx, Bool.false_or] at h
        exact h
      obtain ⟨p, h1, h2, h3⟩ := ih this
      refine ⟨p + 1, by simp; omega, by simpa using h2, fun j hj => ?_⟩
      cases j with
      | zero => simp; omega
      | succ j => have := h3 j (by omega); simpa using this
theorem negB_false {xs : List Int} (h : negB xs = false) (j : Nat) : 0 ≤ xs.getD j 0 := by
  by_cases hj : j < xs.length
  · unfold negB at h
    rw [List.any_eq_false] at h
    have := h xs[j] (List.getElem_mem hj)
    simp [List.getD, hj]
    simpa using this
  · simp [List.getD, Nat.le_of_not_lt hj]
theorem allNeg_any (x : Int) (w : World) : Calls Try.prog 71 #[.int .i64 x] w fun e w' => e = .returned (.bool (decide (x < 0))) ∧ w = w' := by
  go_enter Try.func71, Try.ntmps71
  go_wp2
  go_ret
  exact ⟨rfl, rfl⟩
theorem allNeg_yes (x : Int) (w : World) (h : x < 0) : Calls Try.prog 71 #[.int .i64 x] w fun e w' => e = .returned (.bool true) ∧ w = w' := by
  have := allNeg_any x w
  rwa [decide_eq_true h] at this
theorem allNeg_no (x : Int) (w : World) (h : ¬ x < 0) : Calls Try.prog 71 #[.int .i64 x] w fun e w' => e = .returned (.bool false) ∧ w = w' := by
  have := allNeg_any x w
  rwa [decide_eq_false h] at this
/-- where the first one stands that is below 0 (m: none of n, where p = n) -/
theorem index_any (xs : List Int) (b off cap n p : Nat) (w : World) (hn : n ≤ 9223372036854775807) (hl : xs.length = n) (hp : p ≤ n) (hpos : ∀ j, j < p → ¬ xs.getD j 0 < 0) (hneg : p < n → xs.getD p 0 < 0) (hc : ∀ j, j < n → w.cell? ⟨b, off + j, none⟩ = some (.int .i64 (xs.getD j 0))) :
    Calls Try.prog 85 #[.slice (some ⟨b, off, none⟩) n cap, .func (.func 71) #[] #[]] w fun e w' => e = .returned (.int .i64 (if p < n then (p : Int) else -1)) ∧ w = w' := by
  have HP := Lib.hid hpos
  have HNG := Lib.hid hneg
  have HC := Lib.hid hc
  have eg : ∀ args w, (callFunc 71 args).run Try.prog w = .ok (.enter 71 args) w := enters_of Try.func71 (by kernel_rfl) rfl
  clear hpos hneg hc hl
  go_enter Try.func85, Try.ntmps85
  go_wp2
  go_loop [8] (fun i => ∃ k : Nat, k ≤ p ∧ i = .int .i64 k) (fun i => n - (intOf i).toNat)
  case atStart => exact ⟨0, by omega, rfl⟩
  case round =>
    obtain ⟨k, hk, rfl⟩ := hrel
    by_cases hlt : k < p
    · have hz : (k : Int) < (n : Int) := by omega
      have hcell := HC.out k (by omega)
      have hx := HP.out k hlt
      generalize xs.getD k 0 = x at *
      go_wp2_with fail
      refine (allNeg_no _ _ (by omega)).mono ?_
      rintro e w' ⟨rfl, rfl⟩
      go_wp2
      go_round
      case rel => exact ⟨k + 1, by omega, by go_num⟩
      case measure => simp [intOf]; omega
    · obtain rfl : k = p := by omega
      by_cases hkn : k < n
      · have hz : (k : Int) < (n : Int) := by omega
        have hcell := HC.out k hkn
        have hx := HNG.out hkn
        generalize xs.getD k 0 = x at *
        go_wp2_with fail
        refine (allNeg_yes _ _ (by omega)).mono ?_
        rintro e w' ⟨rfl, rfl⟩
        go_wp2
        go_ret
        exact ⟨ret_i (by first | rfl | rw [if_pos hkn] | simp [hkn]), rfl⟩
      · have hz : ¬ (k : Int) < (n : Int) := by omega
        go_wp2
        go_ret
        exact ⟨ret_i (by first | rfl | rw [if_neg hkn] | simp [hkn]), rfl⟩
theorem index_empty (a : Option Addr) (cap : Nat) (v : Value) (w : World) :
    Calls Try.prog 85 #[.slice a 0 cap, v] w fun e w' => e = .returned (.int .i64 (-1)) ∧ w = w' := by
  go_enter Try.func85, Try.ntmps85
  go_wp2
  refine wp_loop_rounds 1 ?_
  rw [rounds_succ]
  go_wp2
  go_ret
  exact ⟨rfl, rfl⟩
theorem index_sl (xs : List Int) (a : Option Addr) (cap : Nat) (w : World) (hn : xs.length ≤ 9223372036854775807) (hs : SlI .i64 w a xs) :
    Calls Try.prog 85 #[.slice a xs.length cap, .func (.func 71) #[] #[]] w fun e w' => (∃ q : Int, (0 ≤ q ↔ negB xs = true) ∧ e = .returned (.int .i64 q)) ∧ w = w' := by
  by_cases h : xs = []
  · subst h
    exact (index_empty a cap _ w).mono fun _ _ ⟨he, hw⟩ => ⟨⟨-1, by simp [negB], he⟩, hw⟩
  · have hl : 0 < xs.length := by cases xs; exact absurd rfl h; simp
    obtain ⟨b, off, rfl, hb, hc⟩ := hs.at 0 hl
    rcases hN : negB xs with _ | _
    · exact (index_any xs b off cap xs.length xs.length w hn rfl (Nat.le_refl _) (fun j _ => by have := negB_false hN j; omega) (fun h => absurd h (Nat.lt_irrefl _)) hc).mono fun _ _ ⟨he, hw⟩ => ⟨⟨-1, by simp, by rw [he, if_neg (Nat.lt_irrefl _)]⟩, hw⟩
    · obtain ⟨p, h1, h2, h3⟩ := negB_true hN
      exact (index_any xs b off cap xs.length p w hn rfl (Nat.le_of_lt h1) (fun j hj => by have := h3 j hj; omega) (fun _ => h2) hc).mono fun _ _ ⟨he, hw⟩ => ⟨⟨p, by simp, by rw [he, if_pos h1]⟩, hw⟩
/-- a test's answer, kept whole -/
def NegIs (xs : List Int) (q : Int) : Prop := 0 ≤ q ↔ negB xs = true
theorem contains_any (xs : List Int) (a : Option Addr) (cap : Nat) (w : World) (hn : xs.length ≤ 9223372036854775807) (hs : SlI .i64 w a xs) :
    Calls Try.prog 70 #[.slice a xs.length cap, .func (.func 71) #[] #[]] w fun e w' => e = .returned (.bool (negB xs)) ∧ w = w' := by
  have C := index_sl xs a cap w hn hs
  clear hs
  generalize xs.length = n at *
  go_enter Try.func70, Try.ntmps70
  go_wp2_with fail
  refine C.mono ?_
  rintro e w' ⟨⟨q, hq, rfl⟩, rfl⟩
  have HQ : Hid (decide (0 ≤ q) = negB xs) := by
    show _ = _
    by_cases h : 0 ≤ q
    · rw [decide_eq_true h, hq.1 h]
    · rw [decide_eq_false h]; cases h2 : negB xs; rfl; exact absurd (hq.2 h2) h
  clear hq C
  go_wp2
  go_ret
  exact ⟨ret_b HQ.out, rfl⟩
set_option maxHeartbeats 1000000 in
theorem all_any (xs : List Int) (a : Option Addr) (cap : Nat) (w : World) (hn : xs.length ≤ 9223372036854775807) (hx : ∀ k, k < xs.length → In (xs.getD k 0)) (hs : SlI .i64 w a xs) :
    Calls Try.prog 48 #[.slice a xs.length cap] w fun e w' => e = .returned (.tuple #[.int .i64 (allN xs), .int .i64 (allE xs)]) ∧ Below w.heap.size w w' := by
  have A := Lib.hid (fun w hs => contains_any xs a cap w hn hs)
  have B := Lib.hid (fun w hs => wsum_any xs a cap w hn hx hs)
  have HS := Lib.hid hs
  have E := Lib.hid (show allE xs = if 4096 < xs.length then 6 else if negB xs = true then 1 else if errN (sumI xs) = 0 then (if sumI xs = 0 then 3 else 0) else errN (sumI xs) from rfl)
  have N := Lib.hid (show allN xs = if 4096 < xs.length then 0 else if negB xs = true then 0 else capN (sumI xs) from rfl)
  have F : Hid (errN (sumI xs) = 0 → capN (sumI xs) = sumI xs) := fun h => by unfold errN at h; unfold capN; split at h; rw [if_pos ‹_›]; omega
  clear hx hs
  generalize allE xs = ae at *
  generalize allN xs = an at *
  generalize capN (sumI xs) = v at *
  generalize errN (sumI xs) = u at *
  generalize sumI xs = s at *
  generalize hb : negB xs = nb at *
  generalize xs.length = n at *
  by_cases h : 4096 < n
  · have hz : (4096 : Int) < (n : Int) := by omega
    go_enter Try.func48, Try.ntmps48
    go_wp2
    go_ret2
    exact ⟨ret_ii (by rw [N.out]; simp [h]) (by rw [E.out]; simp_all), Below.refl _ _⟩
  · have hz : ¬ (4096 : Int) < (n : Int) := by omega
    cases nb
    · by_cases hu : u = 0
      · by_cases hs0 : s = 0
        · have hv : v = 0 := by rw [F.out hu, hs0]
          subst hu
          subst hv
          go_enter Try.func48, Try.ntmps48
          go_wp2_with fail
          refine (A.out _ HS.out).mono ?_
          rintro e w1 ⟨rfl, rfl⟩
          go_wp2_with fail
          refine (B.out _ HS.out).mono ?_
          rintro e w2 ⟨rfl, hb2⟩
          go_wp2
          go_ret2
          exact ⟨ret_ii (by rw [N.out]; simp [h]) (by rw [E.out]; simp_all), hb2⟩
        · have hv : (v == 0) = false := by rw [F.out hu]; simp [hs0]
          subst hu
          go_enter Try.func48, Try.ntmps48
          go_wp2_with fail
          refine (A.out _ HS.out).mono ?_
          rintro e w1 ⟨rfl, rfl⟩
          go_wp2_with fail
          refine (B.out _ HS.out).mono ?_
          rintro e w2 ⟨rfl, hb2⟩
          go_wp2
          go_ret2
          exact ⟨ret_ii (by rw [N.out]; simp [h]) (by rw [E.out]; simp_all), hb2⟩
      · have hv : (u == 0) = false := by simp [hu]
        go_enter Try.func48, Try.ntmps48
        go_wp2_with fail
        refine (A.out _ HS.out).mono ?_
        rintro e w1 ⟨rfl, rfl⟩
        go_wp2_with fail
        refine (B.out _ HS.out).mono ?_
        rintro e w2 ⟨rfl, hb2⟩
        go_wp2
        go_ret2
        exact ⟨ret_ii (by rw [N.out]; simp [h]) (by rw [E.out]; simp [h, hu]), hb2⟩
    · go_enter Try.func48, Try.ntmps48
      go_wp2_with fail
      refine (A.out _ HS.out).mono ?_
      rintro e w1 ⟨rfl, rfl⟩
      go_wp2
      go_ret2
      exact ⟨ret_ii (by rw [N.out]; simp [h]) (by rw [E.out]; simp_all), Below.refl _ _⟩
end Go.Proofs.Ytkejohmghacdhaa
/- Shares in plain numbers: who comes first, how many have one more. -/
namespace Go.Proofs.Ytkejohmghacdhaa
set_option linter.unusedVariables false
set_option linter.unusedSimpArgs false
open Go Go.RowKit
/-- who comes first: whose exact share lies further above, then who stands further ahead -/
def key (rs : List Int) (i : Nat) : Int := (i : Int) - rs.getD i 0 * 4096
def rank (rs : List Int) (i : Nat) : Nat := (List.range rs.length).countP fun j => decide (key rs j < key rs i)
theorem key_inj {rs : List Int} {i j : Nat} (hi : i < 4096) (hj : j < 4096) (h : key rs i = key rs j) : i = j := by
  unfold key at h; omega
theorem rank_at {rs : List Int} {p : List Nat} (hp : p.Perm (List.range rs.length)) (hs : p.Pairwise fun i j => key rs i < key rs j) {t i : Nat} (ht : p[t]? = some i) : rank rs i = t := by
  obtain ⟨hl, hi⟩ := List.getElem?_eq_some_iff.1 ht
  have hs' := List.pairwise_iff_getElem.1 hs
  unfold rank
  rw [← hp.countP_eq]
  conv => lhs; rw [← List.take_append_drop t p]
  rw [List.countP_append]
  have h1 : (p.take t).countP (fun j => decide (key rs j < key rs i)) = (p.take t).length := by
    rw [List.countP_eq_length]
    intro x hx
    obtain ⟨s, hs1, hs2⟩ := List.getElem_of_mem hx
    have hst : s < t := by simp at hs1; omega
    rw [List.getElem_take] at hs2
    have := hs' s t (by omega) hl hst
    rw [hs2, hi] at this
    simpa using this
  have h2 : (p.drop t).countP (fun j => decide (key rs j < key rs i)) = 0 := by
    rw [List.countP_eq_zero]
    intro x hx
    obtain ⟨s, hs1, hs2⟩ := List.getElem_of_mem hx
    rw [List.getElem_drop] at hs2
    have hts : t + s < p.length := by simp at hs1; omega
    rw [decide_eq_true_eq]
    intro hlt
    rcases Nat.eq_zero_or_pos s with h0 | h0
    · subst h0
      simp only [Nat.add_zero] at hs2
      rw [← hs2, hi] at hlt
      omega
    · have := hs' t (t + s) hl hts (by omega)
      rw [hs2, hi] at this
      omega
  rw [h1, h2]
  simp; omega
theorem order_ex (rs : List Int) (h : rs.length ≤ 4096) : ∃ p : List Nat, p.Perm (List.range rs.length) ∧ p.Pairwise fun i j => key rs i < key rs j := by
  refine ⟨(List.range rs.length).mergeSort (fun i j => decide (key rs i ≤ key rs j)), List.mergeSort_perm _ _, ?_⟩
  have hp := List.mergeSort_perm (List.range rs.length) (fun i j => decide (key rs i ≤ key rs j))
  have hs := List.pairwise_mergeSort (le := fun i j => decide (key rs i ≤ key rs j)) (fun a b c h1 h2 => by simp at *; omega) (fun a b => by simp; omega) (List.range rs.length)
  have hn : ((List.range rs.length).mergeSort (fun i j => decide (key rs i ≤ key rs j))).Nodup := hp.nodup_iff.2 List.nodup_range
  generalize (List.range rs.length).mergeSort (fun i j => decide (key rs i ≤ key rs j)) = p at *
  rw [List.pairwise_iff_getElem] at *
  intro i j hi hj hij
  have h1 := hs i j hi hj hij
  have h2 := List.pairwise_iff_getElem.1 hn i j hi hj hij
  have m1 : p[i] < rs.length := by have := hp.mem_iff.1 (List.getElem_mem hi); simpa using this
  have m2 : p[j] < rs.length := by have := hp.mem_iff.1 (List.getElem_mem hj); simpa using this
  simp at h1
  rcases Int.lt_or_eq_of_le h1 with h3 | h3
  · exact h3
  · exact absurd (key_inj (by omega) (by omega) h3) h2
theorem rank_lt {rs : List Int} (h : rs.length ≤ 4096) {i : Nat} (hi : i < rs.length) : rank rs i < rs.length := by
  obtain ⟨p, hp, hs⟩ := order_ex rs h
  have hm : i ∈ p := hp.mem_iff.2 (by simpa using hi)
  obtain ⟨t, ht, he⟩ := List.getElem_of_mem hm
  have := rank_at hp hs (t := t) (i := i) (by rw [List.getElem?_eq_getElem ht, he])
  have := hp.length_eq
  simp at this
  omega
theorem rank_inj {rs : List Int} (h : rs.length ≤ 4096) {i j : Nat} (hi : i < rs.length) (hj : j < rs.length) (he : rank rs i = rank rs j) : i = j := by
  obtain ⟨p, hp, hs⟩ := order_ex rs h
  obtain ⟨t, ht, e1⟩ := List.getElem_of_mem (hp.mem_iff.2 (show i ∈ List.range rs.length by simpa using hi))
  obtain ⟨u, hu, e2⟩ := List.getElem_of_mem (hp.mem_iff.2 (show j ∈ List.range rs.length by simpa using hj))
  have r1 := rank_at hp hs (t := t) (i := i) (by rw [List.getElem?_eq_getElem ht, e1])
  have r2 := rank_at hp hs (t := u) (i := j) (by rw [List.getElem?_eq_getElem hu, e2])
  have : t = u := by omega
  subst this
  rw [← e1, ← e2]
theorem rank_ex {rs : List Int} (h : rs.length ≤ 4096) {t : Nat} (ht : t < rs.length) : ∃ i, i < rs.length ∧ rank rs i = t := by
  obtain ⟨p, hp, hs⟩ := order_ex rs h
  have hl : p.length = rs.length := by have := hp.length_eq; simpa using this
  have hl' : t < p.length := by omega
  refine ⟨p[t], ?_, rank_at hp hs (by rw [List.getElem?_eq_getElem hl'])⟩
  have := hp.mem_iff.1 (List.getElem_mem hl')
  simpa using this
theorem countP_mono {α : Type} {p q : α → Bool} (l : List α) (h : ∀ x ∈ l, p x = true → q x = true) : l.countP p ≤ l.countP q := List.countP_mono_left h
theorem rank_mono {rs : List Int} {i j : Nat} (h : key rs i ≤ key rs j) : rank rs i ≤ rank rs j :=
  countP_mono _ fun x _ hx => by simp at hx ⊢; omega
/-- whose rank is less comes first -/
theorem key_of_rank {rs : List Int} {i j : Nat} (h : rank rs i < rank rs j) : key rs i < key rs j := by
  rcases Int.lt_or_le (key rs i) (key rs j) with h1 | h1
  · exact h1
  · have := rank_mono h1; omega
def took (rs : List Int) (m : Nat) (i : Nat) : Int := if rank rs i < m then 1 else 0
theorem sum_ones (l : List Nat) (P : Nat → Bool) : sumI (l.map fun i => if P i = true then (1 : Int) else 0) = l.countP P := by
  induction l with
  | nil => rfl
  | cons x r ih =>
    rw [List.map_cons, List.countP_cons]
    show _ + sumI _ = _
    rw [ih]
    split <;> simp_all
    omega
theorem sum_took {rs : List Int} (h : rs.length ≤ 4096) {m : Nat} (hm : m ≤ rs.length) : sumI ((List.range rs.length).map (took rs m)) = m := by
  have e : (took rs m) = fun i => if (fun i => decide (rank rs i < m)) i = true then (1 : Int) else 0 := by
    funext i; unfold took; simp
  rw [e, sum_ones]
  obtain ⟨p, hp, hs⟩ := order_ex rs h
  have hl : p.length = rs.length := by have := hp.length_eq; simpa using this
  rw [← hp.countP_eq]
  conv => lhs; rw [← List.take_append_drop m p]
  rw [List.countP_append]
  have h1 : (p.take m).countP (fun i => decide (rank rs i < m)) = (p.take m).length := by
    rw [List.countP_eq_length]
    intro x hx
    obtain ⟨s, hs1, hs2⟩ := List.getElem_of_mem hx
    have hsm : s < m := by simp at hs1; omega
    rw [List.getElem_take] at hs2
    have := rank_at hp hs (t := s) (i := x) (by rw [List.getElem?_eq_getElem (by omega), hs2])
    simpa [this] using hsm
  have h2 : (p.drop m).countP (fun i => decide (rank rs i < m)) = 0 := by
    rw [List.countP_eq_zero]
    intro x hx
    obtain ⟨s, hs1, hs2⟩ := List.getElem_of_mem hx
    rw [List.getElem_drop] at hs2
    have hts : m + s < p.length := by simp at hs1; omega
    have := rank_at hp hs (t := m + s) (i := x) (by rw [List.getElem?_eq_getElem hts, hs2])
    simp [this]
  rw [h1, h2]
  simp; omega
/-- .. the parts -/
def shQ (a : Int) (ws : List Int) : List Int := ws.map fun x => a * x / sumI ws
def shR (a : Int) (ws : List Int) : List Int := ws.map fun x => a * x % sumI ws
def shM (a : Int) (ws : List Int) : Int := a - sumI (shQ a ws)
def shL (a : Int) (ws : List Int) : List Int := (List.range ws.length).map fun i => (shQ a ws).getD i 0 + took (shR a ws) (shM a ws).toNat i
def spL (a : Int) (ws : List Int) : List Int := if allE ws = 0 then shL a ws else []
/-- Weights that may be. -/
structure WOk (ws : List Int) : Prop where
  len : ws.length ≤ 4096
  pos : ∀ x ∈ ws, 0 ≤ x
  sum : 0 < sumI ws
  fit : sumI ws ≤ 9223372036854775807
theorem sumI_nonneg {ws : List Int} (h : ∀ x ∈ ws, 0 ≤ x) : 0 ≤ sumI ws := by
  induction ws with
  | nil => exact Int.le_refl _
  | cons x r ih =>
    have := ih fun y hy => h y (List.mem_cons_of_mem _ hy)
    have := h x List.mem_cons_self
    show 0 ≤ x + sumI r
    omega
theorem le_sumI {ws : List Int} (h : ∀ x ∈ ws, 0 ≤ x) {x : Int} (hx : x ∈ ws) : x ≤ sumI ws := by
  induction ws with
  | nil => cases hx
  | cons y r ih =>
    have n := sumI_nonneg fun z hz => h z (List.mem_cons_of_mem _ hz)
    have := h y List.mem_cons_self
    show x ≤ y + sumI r
    rcases List.mem_cons.1 hx with rfl | hx
    · omega
    · have := ih (fun z hz => h z (List.mem_cons_of_mem _ hz)) hx; omega
theorem wok_of {ws : List Int} (h : allE ws = 0) : WOk ws ∧ allN ws = sumI ws := by
  unfold allE at h
  unfold allN
  by_cases h1 : 4096 < ws.length
  · rw [if_pos h1] at h; omega
  rw [if_neg h1] at h ⊢
  by_cases h2 : negB ws = true
  · rw [if_pos h2] at h; omega
  rw [if_neg h2] at h ⊢
  by_cases h3 : errN (sumI ws) = 0
  · rw [if_pos h3] at h
    by_cases h4 : sumI ws = 0
    · rw [if_pos h4] at h; omega
    · have pos : ∀ x ∈ ws, 0 ≤ x := fun x hx => by
        unfold negB at h2
        rw [Bool.not_eq_true, List.any_eq_false] at h2
        have := h2 x hx
        simp at this
        exact this
      have := sumI_nonneg pos
      unfold errN at h3
      split at h3
      · rename_i hf
        have hf' := hf
        unfold fitB at hf'
        simp at hf'
        exact ⟨⟨by omega, pos, by omega, hf'.2⟩, by unfold capN; rw [if_pos hf]⟩
      · omega
  · rw [if_neg h3] at h; exact absurd h h3
theorem WOk.nonempty {ws : List Int} (h : WOk ws) : 0 < ws.length := by
  rcases ws with _ | ⟨x, r⟩
  · have := h.sum; simp [sumI] at this
  · simp
theorem sum_qr (a S : Int) (ws : List Int) : S * sumI (ws.map fun x => a * x / S) + sumI (ws.map fun x => a * x % S) = a * sumI ws := by
  induction ws with
  | nil => simp [sumI]
  | cons x r ih =>
    show S * (a * x / S + sumI _) + (a * x % S + sumI _) = a * (x + sumI r)
    have := Int.mul_ediv_add_emod (a * x) S
    rw [Int.mul_add, Int.mul_add]
    omega
theorem WOk.sumR {ws : List Int} (h : WOk ws) (a : Int) : sumI (shR a ws) = sumI ws * shM a ws := by
  have := sum_qr a (sumI ws) ws
  unfold shM shR shQ
  rw [Int.mul_sub, Int.mul_comm _ a]
  omega
theorem sum_le {f : Int → Int} {c : Int} (ws : List Int) (h : ∀ x ∈ ws, f x ≤ c) : sumI (ws.map f) ≤ c * ws.length := by
  induction ws with
  | nil => simp [sumI]
  | cons x r ih =>
    have := ih fun y hy => h y (List.mem_cons_of_mem _ hy)
    have := h x List.mem_cons_self
    show f x + sumI _ ≤ c * ((r.length + 1 : Nat) : Int)
    rw [Int.natCast_add, Int.mul_add]
    simp
    omega
theorem WOk.r_bd {ws : List Int} (h : WOk ws) (a x : Int) : 0 ≤ a * x % sumI ws ∧ a * x % sumI ws < sumI ws := by
  have := h.sum
  exact ⟨Int.emod_nonneg _ (by omega), Int.emod_lt_of_pos _ (by omega)⟩
theorem WOk.m_bd {ws : List Int} (h : WOk ws) (a : Int) : 0 ≤ shM a ws ∧ shM a ws < ws.length := by
  have hS := h.sum
  have e := h.sumR a
  have h0 : 0 ≤ sumI (shR a ws) := sumI_nonneg fun x hx => by
    unfold shR at hx
    obtain ⟨y, _, rfl⟩ := List.mem_map.1 hx
    exact (h.r_bd a y).1
  have h1 : sumI (shR a ws) ≤ (sumI ws - 1) * ws.length := by
    unfold shR
    exact sum_le ws fun x _ => by have := (h.r_bd a x).2; omega
  have hn := h.nonempty
  generalize sumI (shR a ws) = R at *
  generalize shM a ws = M at *
  generalize sumI ws = S at *
  constructor
  · rcases Int.lt_or_le M 0 with h2 | h2
    · have := Int.mul_le_mul_of_nonneg_left (show M ≤ -1 by omega) (Int.le_of_lt hS); omega
    · exact h2
  · rcases Int.lt_or_le M ws.length with h2 | h2
    · exact h2
    · have := Int.mul_le_mul_of_nonneg_left h2 (Int.le_of_lt hS)
      rw [Int.sub_mul] at h1
      omega
@[simp] theorem len_shQ (a : Int) (ws : List Int) : (shQ a ws).length = ws.length := by simp [shQ]
@[simp] theorem len_shR (a : Int) (ws : List Int) : (shR a ws).length = ws.length := by simp [shR]
@[simp] theorem len_shL (a : Int) (ws : List Int) : (shL a ws).length = ws.length := by simp [shL]
theorem at_shQ {a : Int} {ws : List Int} {i : Nat} (h : i < ws.length) : (shQ a ws).getD i 0 = a * ws.getD i 0 / sumI ws := by simp [shQ, List.getD, h]
theorem at_shR {a : Int} {ws : List Int} {i : Nat} (h : i < ws.length) : (shR a ws).getD i 0 = a * ws.getD i 0 % sumI ws := by simp [shR, List.getD, h]
theorem at_shL {a : Int} {ws : List Int} {i : Nat} (h : i < ws.length) : (shL a ws).getD i 0 = (shQ a ws).getD i 0 + took (shR a ws) (shM a ws).toNat i := by simp [shL, List.getD, h]
theorem took_01 (rs : List Int) (m i : Nat) : took rs m i = 0 ∨ took rs m i = 1 := by unfold took; split; exact .inr rfl; exact .inl rfl
theorem WOk.x_bd {ws : List Int} (h : WOk ws) {i : Nat} (hi : i < ws.length) : 0 ≤ ws.getD i 0 ∧ ws.getD i 0 ≤ sumI ws := by
  have : ws.getD i 0 = ws[i] := by simp [List.getD, hi]
  rw [this]
  exact ⟨h.pos _ (List.getElem_mem hi), le_sumI h.pos (List.getElem_mem hi)⟩
/-- the whole part lies between 0 and the amount; below the amount, or 0, if anything is left over -/
theorem q_bd {a x S : Int} (hS : 0 < S) (h0 : 0 ≤ x) (h1 : x ≤ S) : (0 ≤ a → 0 ≤ a * x / S ∧ a * x / S ≤ a ∧ (0 < a * x % S → a * x / S < a)) ∧ (a ≤ 0 → a ≤ a * x / S ∧ a * x / S ≤ 0 ∧ (0 < a * x % S → a * x / S < 0)) := by
  have e := Int.mul_ediv_add_emod (a * x) S
  have r0 := Int.emod_nonneg (a * x) (b := S) (by omega)
  have r1 := Int.emod_lt_of_pos (a * x) hS
  generalize hq : a * x / S = q at *
  generalize a * x % S = r at *
  constructor
  · intro ha
    have m0 := Int.mul_nonneg ha h0
    have m1 := Int.mul_le_mul_of_nonneg_left h1 ha
    rw [Int.mul_comm a S] at m1
    refine ⟨?_, ?_, fun hr => ?_⟩
    · rcases Int.lt_or_le q 0 with h2 | h2
      · have := Int.mul_le_mul_of_nonneg_left (show q ≤ -1 by omega) (Int.le_of_lt hS); omega
      · exact h2
    · rcases Int.lt_or_le a q with h2 | h2
      · have := Int.mul_le_mul_of_nonneg_left (show a + 1 ≤ q by omega) (Int.le_of_lt hS); rw [Int.mul_add] at this; omega
      · exact h2
    · rcases Int.lt_or_le q a with h2 | h2
      · exact h2
      · have := Int.mul_le_mul_of_nonneg_left h2 (Int.le_of_lt hS); omega
  · intro ha
    have m0 := Int.mul_le_mul_of_nonneg_right ha h0
    have m1 := Int.mul_le_mul_of_nonpos_left ha h1
    rw [Int.mul_comm a S] at m1
    refine ⟨?_, ?_, fun hr => ?_⟩
    · rcases Int.lt_or_le q a with h2 | h2
      · have := Int.mul_le_mul_of_nonneg_left (show q ≤ a - 1 by omega) (Int.le_of_lt hS); rw [Int.mul_sub] at this; omega
      · exact h2
    · rcases Int.lt_or_le 0 q with h2 | h2
      · have := Int.mul_le_mul_of_nonneg_left (show 1 ≤ q by omega) (Int.le_of_lt hS); omega
      · exact h2
    · rcases Int.lt_or_le q 0 with h2 | h2
      · exact h2
      · have := Int.mul_nonneg (Int.le_of_lt hS) h2; omega
theorem WOk.q_in {ws : List Int} (h : WOk ws) {a : Int} (ha : In a) {i : Nat} (hi : i < ws.length) : In ((shQ a ws).getD i 0) := by
  rw [at_shQ hi]
  have b := q_bd (a := a) h.sum (h.x_bd hi).1 (h.x_bd hi).2
  unfold In at *
  by_cases h0 : 0 ≤ a
  · have := b.1 h0; omega
  · have := b.2 (by omega); omega
/-- who has one more: something is left over there -/
theorem took_pos {ws : List Int} (h : WOk ws) (a : Int) {i : Nat} (hi : i < ws.length) (ht : rank (shR a ws) i < (shM a ws).toNat) : 0 < (shR a ws).getD i 0 := by
  have hR := h.sumR a
  have hm := h.m_bd a
  have hS := h.sum
  rcases Int.lt_or_le 0 ((shR a ws).getD i 0) with h1 | h1
  · exact h1
  · exfalso
    have hr0 : (shR a ws).getD i 0 = 0 := by
      have := (h.r_bd a (ws.getD i 0)).1
      rw [at_shR hi] at h1 ⊢; omega
    -- the positive ones all come first
    have c : (List.range (shR a ws).length).countP (fun j => decide (0 < (shR a ws).getD j 0)) ≤ rank (shR a ws) i := countP_mono _ fun j hj hp => by
      have hj' : j < ws.length := by simpa using hj
      have := h.len
      simp at hp ⊢
      unfold key
      rw [hr0]
      have : (shR a ws)[j]?.getD 0 = (shR a ws).getD j 0 := rfl
      rw [this] at hp
      omega
    -- .. and what is left over is less than S at each
    have b : ∀ l : List Int, (∀ x ∈ l, 0 ≤ x ∧ x < sumI ws) → sumI l ≤ (sumI ws - 1) * (l.countP (fun x => decide (0 < x)) : Int) := by
      intro l
      induction l with
      | nil => intro _; simp [sumI]
      | cons x r ih =>
        intro hl
        have h1 := ih fun y hy => hl y (List.mem_cons_of_mem _ hy)
        have h2 := hl x List.mem_cons_self
        rw [List.countP_cons]
        show x + sumI r ≤ _
        by_cases hx : 0 < x
        · simp only [decide_eq_true hx, if_true]
          rw [Int.natCast_add, Int.mul_add]
          simp
          omega
        · simp only [decide_eq_false hx]
          simp
          omega
    have b' := b (shR a ws) (fun x hx => by
      unfold shR at hx
      obtain ⟨y, _, rfl⟩ := List.mem_map.1 hx
      exact h.r_bd a y)
    have ec : (shR a ws).countP (fun x => decide (0 < x)) = (List.range (shR a ws).length).countP (fun j => decide (0 < (shR a ws).getD j 0)) := by
      generalize shR a ws = l
      have : l = (List.range l.length).map fun j => l.getD j 0 := by
        apply List.ext_getElem (by simp)
        intro k h1 h2
        simp [List.getD, h1]
      conv => lhs; rw [this]
      rw [List.countP_map]
      rfl
    rw [ec] at b'
    generalize (List.range (shR a ws).length).countP (fun j => decide (0 < (shR a ws).getD j 0)) = C at *
    generalize shM a ws = M at *
    have : (C : Int) + 1 ≤ M := by omega
    have := Int.mul_le_mul_of_nonneg_left this (Int.le_of_lt hS)
    rw [Int.mul_add] at this
    rw [Int.sub_mul] at b'
    omega
theorem WOk.l_in {ws : List Int} (h : WOk ws) {a : Int} (ha : In a) {i : Nat} (hi : i < ws.length) : In ((shL a ws).getD i 0) := by
  have hq := h.q_in ha hi
  rw [at_shL hi]
  by_cases ht : rank (shR a ws) i < (shM a ws).toNat
  · have hp := took_pos h a hi ht
    have e : took (shR a ws) (shM a ws).toNat i = 1 := by unfold took; rw [if_pos ht]
    rw [e]
    rw [at_shR hi] at hp
    rw [at_shQ hi] at hq ⊢
    have b := q_bd (a := a) h.sum (h.x_bd hi).1 (h.x_bd hi).2
    unfold In at *
    by_cases h0 : 0 ≤ a
    · have := (b.1 h0).2.2 hp; omega
    · have := (b.2 (by omega)).2.2 hp; omega
  · have e : took (shR a ws) (shM a ws).toNat i = 0 := by unfold took; rw [if_neg ht]
    rw [e, Int.add_zero]
    exact hq
theorem sumI_map_add {ι : Type} (l : List ι) (f g : ι → Int) : sumI (l.map fun i => f i + g i) = sumI (l.map f) + sumI (l.map g) := by
  induction l with
  | nil => rfl
  | cons x r ih => show (f x + g x) + sumI (r.map fun i => f i + g i) = (f x + sumI (r.map f)) + (g x + sumI (r.map g)); rw [ih]; omega
theorem list_range (l : List Int) : (List.range l.length).map (fun j => l.getD j 0) = l := by
  apply List.ext_getElem (by simp)
  intro k h1 h2
  simp [List.getD, h2]
/-- ALL PARTS TOGETHER ARE THE AMOUNT. -/
theorem WOk.sumL {ws : List Int} (h : WOk ws) (a : Int) : sumI (shL a ws) = a := by
  have hm := h.m_bd a
  unfold shL
  rw [sumI_map_add]
  have e1 : sumI ((List.range ws.length).map fun i => (shQ a ws).getD i 0) = sumI (shQ a ws) := by
    have := list_range (shQ a ws)
    rw [len_shQ] at this
    rw [this]
  have e2 := sum_took (rs := shR a ws) (by rw [len_shR]; exact h.len) (m := (shM a ws).toNat) (by rw [len_shR]; omega)
  rw [len_shR] at e2
  rw [e1, e2]
  have : shM a ws = a - sumI (shQ a ws) := rfl
  omega
end Go.Proofs.Ytkejohmghacdhaa
/- The parts sorted: slices.SortStableFunc at share's closure. -/
namespace Go.Proofs.Ytkejohmghacdhaa
set_option linter.unusedVariables false
set_option linter.unusedSimpArgs false
open Go Go.Shelf Go.RowKit Go.Lib Go.Sort
/-- which one, and how far its exact share lies above -/
abbrev PartI := Fin 4096 × Int
def encP (x : PartI) : List Value := [.int .i64 (x.1.val : Int), .int .i64 x.2]
def cfP (x y : PartI) : Int := cmpI y.2 x.2
def keyP (x : PartI) : Int := (x.1.val : Int) - x.2 * 4096
def atP (x : PartI) : Nat := x.1.val
theorem crP (x y : PartI) (h : atP x < atP y) : Cr cfP keyP x y := by
  unfold atP at h
  have h1 := x.1.isLt
  have h2 := y.1.isLt
  unfold Cr cfP keyP cmpI
  constructor
  · constructor
    · intro h3; split at h3
      · omega
      · split at h3 <;> omega
    · intro h3; rw [if_pos (by omega)]; omega
  · omega
theorem aggP (w : World) : (isAgg 73).run Try.prog w = .ok true w := by kernel_rfl
theorem sizeP (w : World) : (Go.sizeOf 73).run Try.prog w = .ok 2 w := by kernel_rfl
set_option maxHeartbeats 1000000 in
theorem closure_any (x y : PartI) (W : World) : Calls Try.prog 54 #[.agg #[.int .i64 (x.1.val : Int), .int .i64 x.2], .agg #[.int .i64 (y.1.val : Int), .int .i64 y.2]] W fun e w' => e = .returned (.int .i64 (cfP x y)) ∧ ∃ q os', w' = grow (W.drewN q) os' := by
  have C := fun w => cmp_i64 y.2 x.2 w
  have e : cfP x y = cmpI y.2 x.2 := rfl
  rw [e]
  clear e
  generalize cmpI y.2 x.2 = r at C ⊢
  go_enter Try.func54, Try.ntmps54
  go_wp2_with fail
  refine (C _).mono ?_
  rintro e w' ⟨rfl, rfl⟩
  go_wp2
  go_ret
  exact ⟨rfl, 0, _, by rw [alloc_eq_grow, alloc_eq_grow, grow_grow]; rfl⟩
theorem cmpLaysP (blk off size : Nat) (w : World) : CmpLays Try.prog 54 #[] encP 2 cfP blk off size w :=
  fun _ _ _ _ x y => closure_any x y _
set_option maxHeartbeats 1000000 in
theorem sort_any (blk cap n : Nat) (d0 : Array PartI) (w : World) (hn : d0.size = n) (hsz : n ≤ 4096) (hA : ∀ i, i < n → atP d0[i]! = i) (hH : HoldsK encP 2 w blk 0 d0) (hb : blk < w.heap.size) :
    Calls Try.prog 53 #[.slice (some ⟨blk, 0, none⟩) n cap, .func (.func 54) #[] #[]] w fun e w' => e = .returned (.tuple #[]) ∧ ∃ d', d'.size = n ∧ SWK encP 2 w blk 0 d' w' ∧ PermIn 0 n d0 d' ∧ Inc keyP 0 n d' := by
  have eg : ∀ args w, (callFunc 54 args).run Try.prog w = .ok (.enter 54 args) w := enters_of Try.func54 (by kernel_rfl) rfl
  have C := stable_any 2 aggP sizeP encP cfP keyP atP 54 #[] blk 0 cap n d0 w eg hn (cmpLaysP _ _ _ _) ⟨fun _ => rfl, fun x v hv => by simp [encP] at hv; rcases hv with rfl | rfl <;> rfl, hH, hb⟩ hsz hA crP w (SWK.start hH)
  have C := Lib.hid C
  clear hH hA eg
  go_enter Try.func53, Try.ntmps53
  go_wp2_with fail
  refine C.out.mono ?_
  rintro e w' ⟨rfl, d', h1, h2, h3, h4⟩
  have H := Lib.hid (And.intro h1 (And.intro h2 (And.intro h3 h4)))
  clear h1 h2 h3 h4
  go_wp2
  go_end0
  exact ⟨rfl, d', H.out.1, H.out.2.1, H.out.2.2.1, H.out.2.2.2⟩
/-- What the sort leaves, told of places: who comes t-th. -/
structure Sorted (rs : List Int) (n : Nat) (d' : Array PartI) : Prop where
  size : d'.size = n
  at_ : ∀ t, t < n → atP d'[t]! < n ∧ rank rs (atP d'[t]!) = t
theorem extract_whole (d : Array PartI) (n : Nat) (h : d.size = n) : (d.extract 0 n).toList = d.toList := by
  subst h; simp
theorem toList_get (d : Array PartI) (t : Nat) (h : t < d.size) : d.toList[t]? = some d[t]! := by
  rw [Array.getElem?_toList, Array.getElem?_eq_getElem h, getElem!_pos d t h]
theorem sorted_of (rs : List Int) (n : Nat) (d0 d' : Array PartI) (hl : rs.length = n) (h0 : d0.size = n) (hA : ∀ i, i < n → atP d0[i]! = i ∧ d0[i]!.2 = rs.getD i 0) (P : PermIn 0 n d0 d') (I : Inc keyP 0 n d') : Sorted rs n d' := by
  have hs : d'.size = n := P.1.trans h0
  have hk : ∀ t, t < n → atP d'[t]! < n ∧ keyP d'[t]! = key rs (atP d'[t]!) := fun t ht =>
    permIn_all d0 d' 0 n (fun x => atP x < n ∧ keyP x = key rs (atP x)) (by omega) P (fun i _ hi => by
      obtain ⟨h1, h2⟩ := hA i hi
      rw [h1]
      refine ⟨hi, ?_⟩
      show (atP d0[i]! : Int) - d0[i]!.2 * 4096 = _
      rw [h1, h2]; rfl) t (Nat.zero_le _) ht
  have hp : (d'.toList.map atP).Perm (List.range rs.length) := by
    have p := P.2.2
    rw [extract_whole _ _ hs, extract_whole _ _ h0] at p
    refine (p.map atP).trans ?_
    have : d0.toList.map atP = List.range rs.length := by
      apply List.ext_getElem?
      intro i
      rw [List.getElem?_map]
      by_cases hi : i < n
      · rw [toList_get _ _ (by omega), Option.map_some, (hA i hi).1, List.getElem?_range (by omega)]
      · rw [List.getElem?_eq_none (by simp; omega), List.getElem?_eq_none (by simp; omega)]; rfl
    rw [this]
  have hsrt : (d'.toList.map atP).Pairwise fun i j => key rs i < key rs j := by
    rw [List.pairwise_iff_getElem]
    intro i j hi hj hij
    have hi' : i < n := by simp at hi; omega
    have hj' : j < n := by simp at hj; omega
    have e : ∀ t (ht : t < n) (hq : t < (d'.toList.map atP).length), (d'.toList.map atP)[t] = atP d'[t]! := fun t ht hq => by
      rw [List.getElem_map, Array.getElem_toList, getElem!_pos d' t (by omega)]
    rw [e i hi', e j hj', ← (hk i hi').2, ← (hk j hj').2]
    exact I i j (Nat.zero_le _) hij hj'
  refine ⟨hs, fun t ht => ⟨(hk t ht).1, rank_at hp hsrt ?_⟩⟩
  rw [List.getElem?_map, toList_get _ _ (by omega)]
  rfl
end Go.Proofs.Ytkejohmghacdhaa
/- Rows of numbers that a call has made and writes. -/
namespace Go.Proofs.Ytkejohmghacdhaa
set_option linter.unusedVariables false
set_option linter.unusedSimpArgs false
open Go.RowKit
/-- Block b's first n cells hold f, and may be written. -/
def RowF (w : World) (b n : Nat) (f : Nat → Int) : Prop := ∀ j, j < n → w.cell? ⟨b, j, none⟩ = some (.int .i64 (f j)) ∧ w.frozen? ⟨b, j, none⟩ = false
theorem RowF.go {w w' : World} {b n : Nat} {f : Nat → Int} (h : RowF w b n f) (hb : Below w.heap.size w w') : RowF w' b n f := fun j hj => by
  obtain ⟨h1, h2⟩ := h j hj
  have hl := World.block_lt_of_cell? w ⟨b, j, none⟩ h1
  exact ⟨(hb.cell (p := ⟨b, j, none⟩) hl).trans h1, (hb.frozen (p := ⟨b, j, none⟩) hl).trans h2⟩
theorem RowF.lt {w : World} {b n : Nat} {f : Nat → Int} (h : RowF w b n f) (hn : 0 < n) : b < w.heap.size := World.block_lt_of_cell? w ⟨b, 0, none⟩ (h 0 hn).1
theorem RowF.set {w : World} {b n : Nat} {f : Nat → Int} (h : RowF w b n f) (k : Nat) (hk : k < n) (v : Int) : RowF (w.setCell ⟨b, k, none⟩ (.int .i64 v)) b n (fun j => if j = k then v else f j) := fun j hj => by
  obtain ⟨h1, h2⟩ := h j hj
  refine ⟨?_, by rw [World.frozen?_setCell]; exact h2⟩
  by_cases e : j = k
  · subst e; simp only [if_true]; exact World.cell?_setCell_same w _ _ h1
  · simp only [e, if_false]; rw [World.cell?_setCell_other w _ _ _ (fun h => e (by cases h; rfl))]; exact h1
theorem RowF.other {w : World} {b n : Nat} {f : Nat → Int} (h : RowF w b n f) {p : Addr} (hp : p.block ≠ b) (v : Value) : RowF (w.setCell p v) b n f := fun j hj => by
  obtain ⟨h1, h2⟩ := h j hj
  exact ⟨by rw [World.cell?_setCell_other w _ _ _ (fun h => hp (by rw [h]))]; exact h1, by rw [World.frozen?_setCell]; exact h2⟩
theorem RowF.congr {w : World} {b n : Nat} {f g : Nat → Int} (h : RowF w b n f) (e : ∀ j, j < n → g j = f j) : RowF w b n g := fun j hj => by rw [e j hj]; exact h j hj
theorem RowF.sl {w : World} {b : Nat} {xs : List Int} (h : RowF w b xs.length (fun j => xs.getD j 0)) : SlI .i64 w (some ⟨b, 0, none⟩) xs :=
  .inr ⟨b, 0, rfl, fun j hj => by rw [Nat.zero_add]; exact (h j hj).1⟩
/-- A new row of zeros. -/
theorem row_made (w : World) (n : Nat) (t : TypeId) : RowF (w.alloc (.cells (Array.replicate n (.int .i64 0)) t)) w.heap.size n (fun _ => 0) := fun j hj => by
  refine ⟨?_, by simp⟩
  rw [World.cell?_alloc_new]; simp [hj]
theorem made_row (n : Nat) : madeCells #[.int .i64 0] n = Array.replicate n (.int .i64 0) := by
  apply Array.ext_getElem?
  intro j
  by_cases hj : j < n
  · simp [madeCells, hj, Nat.mod_one]
  · simp [madeCells, hj]
theorem made_pair (n : Nat) : madeCells #[.int .i64 0, .int .i64 0] n = Array.replicate n (.int .i64 0) := by
  apply Array.ext_getElem?
  intro j
  by_cases hj : j < n
  · have : j % 2 = 0 ∨ j % 2 = 1 := by omega
    rcases this with h | h <;> simp [madeCells, hj, h]
  · simp [madeCells, hj]
end Go.Proofs.Ytkejohmghacdhaa
/- share.Split. -/
namespace Go.Proofs.Ytkejohmghacdhaa
set_option linter.unusedVariables false
set_option linter.unusedSimpArgs false
open Go Go.Shelf Go.RowKit Go.Lib Go.Sort
/-- a part's two cells -/
def cellP (g : Nat → Int) (k : Nat) (t : Nat) : Int := if t < k * 2 then (if t % 2 = 0 then ((t / 2 : Nat) : Int) else g (t / 2)) else 0
/-- the parts as they stand first -/
def rowP (g : Nat → Int) (n : Nat) : Array PartI := (Array.range n).map fun i => (⟨i % 4096, Nat.mod_lt _ (by decide)⟩, g i)
theorem get_rowP (g : Nat → Int) (n i : Nat) (h : i < n) (hn : n ≤ 4096) : atP (rowP g n)[i]! = i ∧ (rowP g n)[i]!.2 = g i := by
  have : (rowP g n)[i]! = (⟨i % 4096, Nat.mod_lt _ (by decide)⟩, g i) := by
    rw [getElem!_pos _ i (by simpa [rowP] using h)]; simp [rowP]
  rw [this]
  exact ⟨Nat.mod_eq_of_lt (by omega), rfl⟩
theorem holds_rowP {w : World} {b n : Nat} {g : Nat → Int} (hn : n ≤ 4096) (h : RowF w b (n * 2) (cellP g n)) : HoldsK encP 2 w b 0 (rowP g n) := fun j hj => by
  have hs : (rowP g n).size = n := by simp [rowP]
  have hj' : j < n * 2 := by rw [size_flatK, hs] at hj; exact hj
  obtain ⟨h1, h2⟩ := h j hj'
  rw [get_flatK _ _ _ _ (by rw [hs]; exact hj'), Nat.zero_add]
  refine ⟨?_, h2⟩
  rw [h1]
  obtain ⟨e1, e2⟩ := get_rowP g n (j / 2) (by omega) hn
  unfold cellP encP
  rw [if_pos hj']
  unfold atP at e1
  have hm : j % 2 = 0 ∨ j % 2 = 1 := by omega
  rcases hm with hm | hm
  · rw [if_pos hm, hm]; show _ = some (Value.int .i64 _); rw [e1]
  · rw [if_neg (by omega), hm]; show _ = some (Value.int .i64 _); rw [e2]
/-- Within the first loop: what the call's own blocks hold. -/
structure SpS (w0 W : World) (bo bp bl n k : Nat) (q r : Nat → Int) (x : Int) : Prop where
  below : Below w0.heap.size w0 W
  out : RowF W bo n (fun j => if j < k then q j else 0)
  parts : RowF W bp (n * 2) (cellP r k)
  l0 : W.cell? ⟨bl, 0, none⟩ = some (.int .i64 (hiW x))
  l1 : W.cell? ⟨bl, 1, none⟩ = some (.int .u64 (loW x))
  lf : ∀ o, W.frozen? ⟨bl, o, none⟩ = false
  o0 : w0.heap.size ≤ bo
  p0 : w0.heap.size ≤ bp
  q0 : w0.heap.size ≤ bl
  op : bo ≠ bp
  ol : bo ≠ bl
  pl : bp ≠ bl
variable {w0 W : World} {bo bp bl n k : Nat} {q r : Nat → Int} {x : Int}
theorem SpS.lt (S : SpS w0 W bo bp bl n k q r x) : bl < W.heap.size := World.block_lt_of_cell? W ⟨bl, 0, none⟩ S.l0
theorem SpS.go (S : SpS w0 W bo bp bl n k q r x) {W' : World} (hb : Below W.heap.size W W') : SpS w0 W' bo bp bl n k q r x :=
  ⟨bl_call S.below hb, S.out.go hb, S.parts.go hb, (hb.cell (p := ⟨bl, 0, none⟩) S.lt).trans S.l0, (hb.cell (p := ⟨bl, 1, none⟩) S.lt).trans S.l1, fun o => (hb.frozen (p := ⟨bl, o, none⟩) S.lt).trans (S.lf o), S.o0, S.p0, S.q0, S.op, S.ol, S.pl⟩
theorem set_far {w : World} {p a : Addr} {v : Value} (h : p.block ≠ a.block) : (w.setCell p v).cell? a = w.cell? a := World.cell?_setCell_other w _ _ _ (fun e => h (by rw [e]))
/-- behind the stores of a round into the parts -/
theorem SpS.put (S : SpS w0 W bo bp bl n k q r x) (hk : k < n) : SpS w0 (((W.setCell ⟨bo, k, none⟩ (.int .i64 (q k))).setCell ⟨bp, k * 2, none⟩ (.int .i64 (k : Int))).setCell ⟨bp, k * 2 + 1, none⟩ (.int .i64 (r k))) bo bp bl n (k + 1) q r x := by
  have o1 := ((S.out.set k hk (q k)).other (p := ⟨bp, k * 2, none⟩) (Ne.symm S.op) (.int .i64 (k : Int))).other (p := ⟨bp, k * 2 + 1, none⟩) (Ne.symm S.op) (.int .i64 (r k))
  have p1 := ((S.parts.other (p := ⟨bo, k, none⟩) S.op (.int .i64 (q k))).set (k * 2) (by omega) (k : Int)).set (k * 2 + 1) (by omega) (r k)
  have c : ∀ o, (((W.setCell ⟨bo, k, none⟩ (.int .i64 (q k))).setCell ⟨bp, k * 2, none⟩ (.int .i64 (k : Int))).setCell ⟨bp, k * 2 + 1, none⟩ (.int .i64 (r k))).cell? ⟨bl, o, none⟩ = W.cell? ⟨bl, o, none⟩ := fun o => by
    rw [set_far S.pl, set_far S.pl, set_far S.ol]
  refine ⟨((S.below.setCell S.o0 _).setCell S.p0 _).setCell S.p0 _, o1.congr fun j hj => ?_, p1.congr fun t ht => ?_, (c 0).trans S.l0, (c 1).trans S.l1, fun o => by simp only [World.frozen?_setCell]; exact S.lf o, S.o0, S.p0, S.q0, S.op, S.ol, S.pl⟩
  · by_cases e : j = k
    · subst e; simp
    · by_cases h : j < k
      · simp [e, h, show j < k + 1 by omega]
      · simp [e, h, show ¬ j < k + 1 by omega]
  · unfold cellP
    by_cases h0 : t < k * 2
    · simp [h0, show t < (k + 1) * 2 by omega, show t ≠ k * 2 by omega, show t ≠ k * 2 + 1 by omega]
    · by_cases h1 : t = k * 2
      · subst h1; simp [show k * 2 < (k + 1) * 2 by omega]
      · by_cases h2 : t = k * 2 + 1
        · subst h2; simp [show k * 2 + 1 < (k + 1) * 2 by omega, show (k * 2 + 1) / 2 = k by omega]
        · simp [h0, h1, h2, show ¬ t < (k + 1) * 2 by omega]
/-- behind the store into what is left -/
theorem SpS.left (S : SpS w0 W bo bp bl n k q r x) (y : Int) : SpS w0 ((W.setCell ⟨bl, 0, none⟩ (.int .i64 (hiW y))).setCell ⟨bl, 1, none⟩ (.int .u64 (loW y))) bo bp bl n k q r y :=
  ⟨(S.below.setCell S.q0 _).setCell S.q0 _, (S.out.other (p := ⟨bl, 0, none⟩) (Ne.symm S.ol) _).other (p := ⟨bl, 1, none⟩) (Ne.symm S.ol) _, (S.parts.other (p := ⟨bl, 0, none⟩) (Ne.symm S.pl) _).other (p := ⟨bl, 1, none⟩) (Ne.symm S.pl) _,
    by rw [World.cell?_setCell_other _ _ _ _ (fun h => by cases h)]; exact World.cell?_setCell_same _ _ _ S.l0,
    World.cell?_setCell_same _ _ _ (u := .int .u64 (loW x)) (by rw [World.cell?_setCell_other _ _ _ _ (fun h => by cases h)]; exact S.l1),
    fun o => by simp only [World.frozen?_setCell]; exact S.lf o, S.o0, S.p0, S.q0, S.op, S.ol, S.pl⟩
theorem wadd_fit (x y : Int) (w : World) (hx : InW x) (hy : InW y) (h : InW (x + y)) :
    Calls Try.prog 51 #[wideA x, wideA y] w fun e w' => e = .returned (.tuple #[wideA (x + y), .int .i64 0]) ∧ Below w.heap.size w w' := by
  have := wadd_any x y w hx hy
  obtain ⟨h1, h2⟩ := capW_of h
  rwa [h1, h2] at this
theorem wneg_fit (x : Int) (w : World) (hx : InW x) (h : InW (-x)) :
    Calls Try.prog 50 #[wideA x] w fun e w' => e = .returned (.tuple #[wideA (-x), .int .i64 0]) ∧ Below w.heap.size w w' := by
  have := wneg_any x w hx
  obtain ⟨h1, h2⟩ := capW_of h
  rwa [h1, h2] at this
theorem wfit_fit (x : Int) (w : World) (h : In x) :
    Calls Try.prog 52 #[wideA x] w fun e w' => e = .returned (.tuple #[.int .i64 x, .int .i64 0]) ∧ Below w.heap.size w w' := by
  have := wfit_any x w (InW_of_In h)
  have hf : fitB x = true := by unfold fitB; exact decide_eq_true h
  unfold capN errN at this
  rwa [if_pos hf, if_pos hf] at this
theorem muldiv_fit (a x c : Int) (w : World) (ha : In a) (hx : In x) (hc : In c) (h0 : 0 < c) (h : In (a * x / c)) :
    Calls Try.prog 28 #[.int .i64 a, .int .i64 x, .int .i64 c] w fun e w' => e = .returned (.tuple #[.int .i64 (a * x / c), .int .i64 (a * x % c), .int .i64 0]) ∧ Below w.heap.size w w' := by
  have := muldiv_any a x c w ha hx hc
  have hf : fitB (a * x / c) = true := by unfold fitB; exact decide_eq_true h
  unfold mdQ mdR mdE errN at this
  rwa [if_pos ⟨h0, hf⟩, if_pos ⟨h0, hf⟩, if_pos h0, if_pos hf] at this
/-- what is left over behind k -/
def leftI (a : Int) (ws : List Int) (k : Nat) : Int := a - sumI ((shQ a ws).take k)
set_option maxHeartbeats 1000000 in
theorem split_no (a : Int) (ws : List Int) (ad : Option Addr) (cap : Nat) (w : World) (hn : ws.length ≤ 9223372036854775807) (hx : ∀ k, k < ws.length → In (ws.getD k 0)) (hs : SlI .i64 w ad ws) (hE : allE ws ≠ 0) :
    Calls Try.prog 26 #[.int .i64 a, .slice ad ws.length cap] w fun e w' => e = .returned (.tuple #[.slice none 0 0, .int .i64 (allE ws)]) ∧ Below w.heap.size w w' := by
  have A := Lib.hid (all_any ws ad cap w hn hx hs)
  clear hx hs
  have hz : (allE ws == 0) = false := by simpa using hE
  generalize allE ws = u at *
  generalize allN ws = v at *
  generalize ws.length = n at *
  go_enter Try.func26, Try.ntmps26
  go_wp2_with fail
  refine A.out.mono ?_
  rintro e w1 ⟨rfl, hb1⟩
  go_wp2
  refine bodyPost_ret (v := .tuple #[.slice none 0 0, .int .i64 u]) (by simp [results, Try.results26, go_sem]) rfl ⟨rfl, hb1⟩
theorem sum_take_bd (xs : List Int) (h : ∀ k, k < xs.length → In (xs.getD k 0)) (k : Nat) (hk : k ≤ xs.length) : -(9223372036854775808 * (k : Int)) ≤ sumI (xs.take k) ∧ sumI (xs.take k) ≤ 9223372036854775808 * (k : Int) := by
  induction k with
  | zero => simp [sumI]
  | succ k ih =>
    have h1 := ih (by omega)
    have h2 := h k (by omega)
    rw [sumI_take_succ xs k (by omega)]
    unfold In at h2
    omega
theorem leftI_zero (a : Int) (ws : List Int) : leftI a ws 0 = a := by unfold leftI; simp [sumI]
theorem leftI_succ (a : Int) (ws : List Int) (k : Nat) (hk : k < ws.length) : leftI a ws (k + 1) = leftI a ws k + -(a * ws.getD k 0 / sumI ws) := by
  unfold leftI
  rw [sumI_take_succ _ k (by simpa using hk), at_shQ hk]
  omega
theorem leftI_all (a : Int) (ws : List Int) : leftI a ws ws.length = shM a ws := by
  unfold leftI shM
  rw [List.take_of_length_le (by simp)]
theorem leftI_bd {a : Int} {ws : List Int} (h : WOk ws) (ha : In a) (k : Nat) (hk : k ≤ ws.length) : InW (leftI a ws k) := by
  have h1 := sum_take_bd (shQ a ws) (fun j hj => h.q_in ha (by simpa using hj)) k (by simpa using hk)
  have := h.len
  unfold leftI InW
  unfold In at ha
  omega
/-- What Split returns, where weights may be. -/
def SplitOk (a : Int) (ws : List Int) (w : World) (e : Ending) (w' : World) : Prop :=
  ∃ b, w.heap.size ≤ b ∧ e = .returned (.tuple #[.slice (some ⟨b, 0, none⟩) ws.length ws.length, .int .i64 0]) ∧ RowF w' b ws.length (fun j => (shL a ws).getD j 0) ∧ Below w.heap.size w w'
theorem info_part : (Try.prog.info? 73).map (fun i => (i.zero, i.size, i.bytes)) = some (some (.agg #[.int .i64 0, .int .i64 0]), 2, 16) := by kernel_rfl
theorem info_i64 : (Try.prog.info? 2).map (fun i => (i.zero, i.size, i.bytes)) = some (some (.int .i64 0), 1, 8) := by kernel_rfl
theorem make_i64 (n : Nat) (hn : n ≤ 4096) (w : World) : (Instr.makeSlice 41 (.int .i64 (n : Int)) (.int .i64 (n : Int))).run Try.prog w = .ok (.slice (some ⟨w.heap.size, 0, none⟩) n n) (w.alloc (.cells (Array.replicate n (.int .i64 0)) 2)) := by
  obtain ⟨i, hi, h1, h2, h3⟩ := info_parts info_i64
  have := run_makeSlice (P := Try.prog) w 41 2 i (.int .i64 0) Try.underlying41 hi h1 .i64 .i64 n n (by omega) (by omega) (by rw [h2]; omega) (by rw [h3]; omega) (by omega)
  rw [this, h2]
  show _ = Result.ok _ _
  rw [← made_row]
  simp [Value.cells]
theorem make_part (n : Nat) (hn : n ≤ 4096) (w : World) : (Instr.makeSlice 70 (.int .i64 (n : Int)) (.int .i64 (n : Int))).run Try.prog w = .ok (.slice (some ⟨w.heap.size, 0, none⟩) n n) (w.alloc (.cells (Array.replicate (n * 2) (.int .i64 0)) 73)) := by
  obtain ⟨i, hi, h1, h2, h3⟩ := info_parts info_part
  have := run_makeSlice (P := Try.prog) w 70 73 i (.agg #[.int .i64 0, .int .i64 0]) Try.underlying70 hi h1 .i64 .i64 n n (by omega) (by omega) (by rw [h2]; omega) (by rw [h3]; omega) (by omega)
  rw [this, h2]
  show _ = Result.ok _ _
  rw [← made_pair]
  simp [Value.cells]
end Go.Proofs.Ytkejohmghacdhaa
/- share.Split where weights may be. -/
namespace Go.Proofs.Ytkejohmghacdhaa
set_option linter.unusedVariables false
set_option linter.unusedSimpArgs false
open Go Go.Shelf Go.RowKit Go.Lib Go.Sort
/-- Behind the first region: two new rows of zeros. -/
structure SpM (w0 W : World) (bo bp n : Nat) : Prop where
  below : Below w0.heap.size w0 W
  out : RowF W bo n (fun _ => 0)
  parts : RowF W bp (n * 2) (fun _ => 0)
  o0 : w0.heap.size ≤ bo
  p0 : w0.heap.size ≤ bp
  o1 : bo < W.heap.size
  p1 : bp < W.heap.size
  op : bo ≠ bp
theorem SpM.one (w0 W : World) (n : Nat) (t u : TypeId) (hb : Below w0.heap.size w0 W) : SpM w0 ((W.alloc (.cells (Array.replicate n (.int .i64 0)) t)).alloc (.cells (Array.replicate (n * 2) (.int .i64 0)) u)) W.heap.size (W.heap.size + 1) n := by
  have h1 := row_made W n t
  have h2 := row_made (W.alloc (.cells (Array.replicate n (.int .i64 0)) t)) (n * 2) u
  rw [World.size_alloc] at h2
  exact ⟨bl_alloc (bl_alloc hb _) _, h1.go (bl_alloc (Below.refl _ _) _), h2, hb.size, Nat.le_trans hb.size (Nat.le_succ _), by simp; omega, by simp, by omega⟩
theorem SpM.two (w0 W : World) (n : Nat) (t u : TypeId) (hb : Below w0.heap.size w0 W) : SpM w0 ((W.alloc (.cells (Array.replicate (n * 2) (.int .i64 0)) u)).alloc (.cells (Array.replicate n (.int .i64 0)) t)) (W.heap.size + 1) W.heap.size n := by
  have h1 := row_made W (n * 2) u
  have h2 := row_made (W.alloc (.cells (Array.replicate (n * 2) (.int .i64 0)) u)) n t
  rw [World.size_alloc] at h2
  exact ⟨bl_alloc (bl_alloc hb _) _, h2, h1.go (bl_alloc (Below.refl _ _) _), Nat.le_trans hb.size (Nat.le_succ _), hb.size, by simp, by simp; omega, by omega⟩
theorem SpM.start {w0 W : World} {bo bp n : Nat} (S : SpM w0 W bo bp n) (x : Int) (q r : Nat → Int) (t : TypeId) : SpS w0 (W.alloc (.cells #[.int .i64 (hiW x), .int .u64 (loW x)] t)) bo bp W.heap.size n 0 q r x :=
  ⟨bl_alloc S.below _, (S.out.go (bl_alloc (Below.refl _ _) _)).congr fun j _ => by simp, (S.parts.go (bl_alloc (Below.refl _ _) _)).congr fun t _ => by unfold cellP; simp, by simp, by simp, fun o => by simp, S.o0, S.p0, S.below.size, S.op, by have := S.o1; omega, by have := S.p1; omega⟩
theorem SpM.go {w0 W W' : World} {bo bp n : Nat} (S : SpM w0 W bo bp n) (hb : Below W.heap.size W W') : SpM w0 W' bo bp n :=
  ⟨bl_call S.below hb, S.out.go hb, S.parts.go hb, S.o0, S.p0, Nat.lt_of_lt_of_le S.o1 hb.size, Nat.lt_of_lt_of_le S.p1 hb.size, S.op⟩
theorem swk_rest {w0 W : World} {bp : Nat} {d' : Array PartI} (S : SWK encP 2 w0 bp 0 d' W) {b : Nat} (hb : b < w0.heap.size) (hne : b ≠ bp) : (∀ o, W.cell? ⟨b, o, none⟩ = w0.cell? ⟨b, o, none⟩) ∧ (∀ o, W.frozen? ⟨b, o, none⟩ = w0.frozen? ⟨b, o, none⟩) := by
  obtain ⟨m, os, rfl⟩ := S
  unfold sortWorldK
  refine ⟨fun o => ?_, fun o => ?_⟩
  · rw [cell?_grow _ _ _ (by rw [size_putRowK]; exact hb), cell?_putRowK_other _ _ _ _ _ _ _ hne]; rfl
  · rw [frozen?_grow _ _ _ (by rw [size_putRowK]; exact hb)]
    show (putRow _ _ _ _ _).frozen? _ = _
    rw [frozen?_putRow]; rfl
theorem swk_below {w0 W w : World} {bp B : Nat} {d' : Array PartI} (S : SWK encP 2 w0 bp 0 d' W) (hB : B ≤ bp) (hs : B ≤ w0.heap.size) (h : Below B w w0) : Below B w W := by
  refine h.trans ?_
  have hle := S.le
  obtain ⟨m, os, rfl⟩ := S
  refine ⟨rfl, rfl, rfl, hle, fun k hk => ?_⟩
  unfold sortWorldK
  rw [heap_grow_old _ _ (by rw [size_putRowK]; show k < w0.heap.size; omega)]
  show ((Sort.ahead w0 m).heap.modify bp _)[k]? = _
  rw [Array.getElem?_modify, if_neg (by omega)]
  rfl
/-- Within the second loop. -/
structure Sp2 (w0 W : World) (bo bp n t : Nat) (q : Nat → Int) (rk : Nat → Nat) (d' : Array PartI) : Prop where
  below : Below w0.heap.size w0 W
  out : RowF W bo n (fun j => q j + if rk j < t then 1 else 0)
  parts : HoldsK encP 2 W bp 0 d'
  o0 : w0.heap.size ≤ bo
  p0 : w0.heap.size ≤ bp
  op : bo ≠ bp
theorem holdsK_go {w w' : World} {b : Nat} {d : Array PartI} (h : HoldsK encP 2 w b 0 d) (hb : Below w.heap.size w w') : HoldsK encP 2 w' b 0 d := fun j hj => by
  obtain ⟨h1, h2⟩ := h j hj
  have hl := World.block_lt_of_cell? w _ h1
  exact ⟨(hb.cell (p := ⟨b, 0 + j, none⟩) hl).trans h1, (hb.frozen (p := ⟨b, 0 + j, none⟩) hl).trans h2⟩
theorem Sp2.go {w0 W W' : World} {bo bp n t : Nat} {q : Nat → Int} {rk : Nat → Nat} {d' : Array PartI} (S : Sp2 w0 W bo bp n t q rk d') (hb : Below W.heap.size W W') : Sp2 w0 W' bo bp n t q rk d' :=
  ⟨bl_call S.below hb, S.out.go hb, holdsK_go S.parts hb, S.o0, S.p0, S.op⟩
theorem Sp2.put {w0 W : World} {bo bp n t i : Nat} {q : Nat → Int} {rk : Nat → Nat} {d' : Array PartI} (S : Sp2 w0 W bo bp n t q rk d') (hi : i < n) (hr : rk i = t) (hj : ∀ j, j < n → rk j = t → j = i) : Sp2 w0 (W.setCell ⟨bo, i, none⟩ (.int .i64 (q i + 1))) bo bp n (t + 1) q rk d' :=
  ⟨S.below.setCell S.o0 _, (S.out.set i hi (q i + 1)).congr fun j h => by
    by_cases e : j = i
    · subst e; simp [hr]
    · have : rk j ≠ t := fun h2 => e (hj j h h2)
      by_cases h3 : rk j < t
      · simp [e, h3, show rk j < t + 1 by omega]
      · simp [e, h3, show ¬ rk j < t + 1 by omega], fun j h => by
    obtain ⟨h1, h2⟩ := S.parts j h
    exact ⟨by rw [set_far S.op]; exact h1, by rw [World.frozen?_setCell]; exact h2⟩, S.o0, S.p0, S.op⟩
theorem Sp2.part {w0 W : World} {bo bp n t : Nat} {q : Nat → Int} {rk : Nat → Nat} {d' : Array PartI} (S : Sp2 w0 W bo bp n t q rk d') {s : Nat} (h : s < d'.size) : W.cell? ⟨bp, s * 2, none⟩ = some (.int .i64 (atP d'[s]! : Int)) ∧ W.cell? ⟨bp, s * 2 + 1, none⟩ = some (.int .i64 d'[s]!.2) := by
  have a := (HoldsK.cell S.parts h (c := 0) (by decide)).1
  have b := (HoldsK.cell S.parts h (c := 1) (by decide)).1
  rw [Nat.zero_add] at a b
  exact ⟨a, b⟩
theorem SpS.turn {w0 W W' : World} {bo bp bl n : Nat} {q r : Nat → Int} {x : Int} {d' : Array PartI} {rk : Nat → Nat} (S : SpS w0 W bo bp bl n n q r x) (hn : n ≤ 4096) (hn0 : 0 < n) (hs : d'.size = n) (T : SWK encP 2 W bp 0 d' W') : Sp2 w0 W' bo bp n 0 q rk d' := by
  have hb := S.parts.lt (by omega)
  have ho := S.out.lt hn0
  refine ⟨swk_below T S.p0 S.below.size S.below, fun j hj => ?_, T.holds hb (holds_rowP hn S.parts) (by simp [rowP, hs]), S.o0, S.p0, S.op⟩
  obtain ⟨h1, h2⟩ := S.out j hj
  obtain ⟨e1, e2⟩ := swk_rest T ho S.op
  exact ⟨by rw [e1, h1]; simp [hj], by rw [e2]; exact h2⟩
def SplitW (n m : Nat) (q : Nat → Int) (rk : Nat → Nat) (w : World) (e : Ending) (w' : World) : Prop :=
  ∃ b, w.heap.size ≤ b ∧ e = .returned (.tuple #[.slice (some ⟨b, 0, none⟩) n n, .int .i64 0]) ∧ RowF w' b n (fun j => q j + if rk j < m then 1 else 0) ∧ Below w.heap.size w w'
set_option maxHeartbeats 4000000 in
set_option maxRecDepth 100000 in
theorem split_walk (a sg : Int) (n m : Nat) (xs q r lf : Nat → Int) (rk : Nat → Nat) (sb so cap : Nat) (w : World) (hn0 : 0 < n) (hn : n ≤ 4096) (hm : m < n) (hsb : sb < w.heap.size)
    (HC : Hid (∀ j, j < n → w.cell? ⟨sb, so + j, none⟩ = some (.int .i64 (xs j))))
    (A : Hid (Calls Try.prog 48 #[.slice (some ⟨sb, so, none⟩) n cap] w fun e w' => e = .returned (.tuple #[.int .i64 sg, .int .i64 0]) ∧ Below w.heap.size w w'))
    (C0 : Hid (∀ W, Calls Try.prog 49 #[.int .i64 a] W fun e w' => e = .returned (wideA (lf 0)) ∧ Below W.heap.size W w'))
    (CM : Hid (∀ k W, k < n → Calls Try.prog 28 #[.int .i64 a, .int .i64 (xs k), .int .i64 sg] W fun e w' => e = .returned (.tuple #[.int .i64 (q k), .int .i64 (r k), .int .i64 0]) ∧ Below W.heap.size W w'))
    (CO : Hid (∀ k W, k < n → Calls Try.prog 49 #[.int .i64 (q k)] W fun e w' => e = .returned (wideA (q k)) ∧ Below W.heap.size W w'))
    (CN : Hid (∀ k W, k < n → Calls Try.prog 50 #[wideA (q k)] W fun e w' => e = .returned (.tuple #[wideA (-(q k)), .int .i64 0]) ∧ Below W.heap.size W w'))
    (CA : Hid (∀ k W, k < n → Calls Try.prog 51 #[wideA (lf k), wideA (-(q k))] W fun e w' => e = .returned (.tuple #[wideA (lf (k + 1)), .int .i64 0]) ∧ Below W.heap.size W w'))
    (CF : Hid (∀ W, Calls Try.prog 52 #[wideA (lf n)] W fun e w' => e = .returned (.tuple #[.int .i64 (m : Int), .int .i64 0]) ∧ Below W.heap.size W w'))
    (SRT : Hid (∀ d' : Array PartI, PermIn 0 n (rowP r n) d' → Inc keyP 0 n d' → d'.size = n ∧ ∀ t, t < n → atP d'[t]! < n ∧ rk (atP d'[t]!) = t))
    (INC : Hid (∀ j, j < n → rk j < m → IntKind.i64.wrap (q j + 1) = q j + 1)) (RINJ : Hid (∀ i j, i < n → j < n → rk i = rk j → i = j)) :
    Calls Try.prog 26 #[.int .i64 a, .slice (some ⟨sb, so, none⟩) n cap] w (SplitW n m q rk w) := by
  have mk1 := make_i64 n hn
  have mk2 := make_part n hn
  go_enter Try.func26, Try.ntmps26
  go_wp2_with fail
  refine A.out.mono ?_
  rintro e w1 ⟨rfl, hb1⟩
  have HB1 := Lib.hid hb1
  clear hb1
  go_upto_region 4 with fail
  go_cut [8, 9] (fun s8 s9 wx => ∃ bo bp : Nat, s8 = .slice (some ⟨bo, 0, none⟩) n n ∧ s9 = .slice (some ⟨bp, 0, none⟩) n n ∧ SpM w wx bo bp n)
  case first =>
    go_region
    all_goals (go_wp2_with fail; go_meet; first | exact ⟨_, _, rfl, rfl, SpM.one w w1.drew n _ _ (bl_drew HB1.out)⟩ | exact ⟨_, _, rfl, rfl, SpM.two w w1.drew n _ _ (bl_drew HB1.out)⟩ | skip)
  case rest =>
    clear mk1 mk2
    obtain ⟨bo, bp, rfl, rfl, M1⟩ := hcut
    go_wp2_with fail
    refine (C0.out _).mono ?_
    rintro e w2 ⟨rfl, hb2⟩
    have M2 := Lib.hid (M1.go hb2)
    clear hb2 M1
    go_wp2
    have S0 : Aside (SpS w (w2.alloc (Obj.cells #[Value.int IntKind.i64 (hiW (lf 0)), Value.int IntKind.u64 (loW (lf 0))] 32)) bo bp w2.heap.size n 0 q r (lf 0)) := M2.out.start (lf 0) q r 32
    generalize w2.alloc (Obj.cells #[Value.int IntKind.i64 (hiW (lf 0)), Value.int IntKind.u64 (loW (lf 0))] 32) = w3 at S0 ⊢
    generalize w2.heap.size = bl at S0 ⊢
    clear M2 w2
    go_loopg [38] n (fun kx s38 wr => ∃ k : Nat, s38 = .int .i64 k ∧ k ≤ n ∧ n - k ≤ kx ∧ Aside (SpS w wr bo bp bl n k q r (lf k)))
    case atStart => exact ⟨0, rfl, by omega, by omega, S0⟩
    case round =>
      clear S0
      obtain ⟨k, rfl, hkn, hkx, S1⟩ := hrel
      by_cases hlt : k < n
      · have hltz : (k : Int) < (n : Int) := by omega
        have hcell : wr.cell? ⟨sb, so + k, none⟩ = some (.int .i64 (xs k)) := (S1.out.below.cell (p := ⟨sb, so + k, none⟩) hsb).trans (HC.out k hlt)
        go_wp2_with fail
        refine (CM.out k _ hlt).mono ?_
        rintro e w4 ⟨rfl, hb4⟩
        have S4 := Lib.hid (S1.out.go hb4)
        clear hb4 hcell S1
        obtain ⟨o1, o2⟩ := S4.out.out k hlt
        have PP := S4.out.parts.other (p := ⟨bo, k, none⟩) S4.out.op (.int .i64 (q k))
        obtain ⟨p1, p2⟩ := PP (k * 2) (by omega)
        obtain ⟨p3, p4⟩ := PP (k * 2 + 1) (by omega)
        clear PP
        go_upto_region 13 with fail
        have S5 : Aside (SpS w (((w4.setCell ⟨bo, k, none⟩ (.int .i64 (q k))).setCell ⟨bp, k * 2, none⟩ (.int .i64 (k : Int))).setCell ⟨bp, k * 2 + 1, none⟩ (.int .i64 (r k))) bo bp bl n (k + 1) q r (lf k)) := S4.out.put hlt
        generalize ((w4.setCell ⟨bo, k, none⟩ (.int .i64 (q k))).setCell ⟨bp, k * 2, none⟩ (.int .i64 (k : Int))).setCell ⟨bp, k * 2 + 1, none⟩ (.int .i64 (r k)) = w5 at S5 ⊢
        clear S4 o1 o2 p1 p2 p3 p4
        go_wp2_with fail
        refine (CO.out k _ hlt).mono ?_
        rintro e w6 ⟨rfl, hb6⟩
        have S6 := Lib.hid (S5.out.go hb6)
        clear hb6 S5
        go_wp2_with fail
        refine (CN.out k _ hlt).mono ?_
        rintro e w7 ⟨rfl, hb7⟩
        have S7 := Lib.hid (S6.out.go hb7)
        clear hb7 S6
        have c0 := S7.out.l0
        have c1 := S7.out.l1
        have cl := S7.out.lt
        go_wp2_with fail
        refine (CA.out k _ hlt).mono ?_
        rintro e w9 ⟨rfl, hb9⟩
        have S9 := Lib.hid ((S7.out.go (bl_alloc (Below.refl _ _) _)).go hb9)
        clear hb9 S7 c0 c1 cl
        have c0 := S9.out.l0
        have c1 := S9.out.l1
        have cf := S9.out.lf
        go_upto_region 17 with fail
        have S10 : Aside (SpS w ((w9.setCell ⟨bl, 0, none⟩ (.int .i64 (hiW (lf (k + 1))))).setCell ⟨bl, 1, none⟩ (.int .u64 (loW (lf (k + 1))))) bo bp bl n (k + 1) q r (lf (k + 1))) := S9.out.left (lf (k + 1))
        generalize (w9.setCell ⟨bl, 0, none⟩ (.int .i64 (hiW (lf (k + 1))))).setCell ⟨bl, 1, none⟩ (.int .u64 (loW (lf (k + 1)))) = w10 at S10 ⊢
        clear S9 c0 c1 cf
        go_wp2
        go_roundg (n - (k + 1))
        case measure => omega
        case rel => exact ⟨k + 1, by first | rfl | go_num | simp, by omega, Nat.le_refl _, S10⟩
      · obtain rfl : k = n := by omega
        have hltz : ¬ (k : Int) < (k : Int) := by omega
        have c0 := S1.out.l0
        have c1 := S1.out.l1
        go_wp2_with fail
        refine (CF.out _).mono ?_
        rintro e w4 ⟨rfl, hb4⟩
        have S4 := Lib.hid (S1.out.go hb4)
        clear hb4 S1 c0 c1
        go_wp2_with fail
        refine (sort_any bp k k (rowP r k) _ (by simp [rowP]) hn (fun i hi => (get_rowP r k i hi hn).1) (holds_rowP hn S4.out.parts) (S4.out.parts.lt (by omega))).mono ?_
        rintro e w5 ⟨rfl, d', h1, h2, h3, h4⟩
        have T := Lib.hid (SRT.out d' h3 h4)
        have S5 := Lib.hid h2
        have S6 : Aside (Sp2 w w5 bo bp k 0 q rk d') := S4.out.turn hn hn0 T.out.1 S5.out
        clear h1 h2 h3 h4 S4 S5
        have e1 : min (m : Int) (k : Int) = (m : Int) := by omega
        have e2 : max (m : Int) 0 = (m : Int) := by omega
        go_wp2
        clear e1 e2
        go_loopg [100] k (fun kx s100 wr => ∃ t : Nat, s100 = .int .i64 t ∧ t ≤ m ∧ k - t ≤ kx ∧ Aside (Sp2 w wr bo bp k t q rk d'))
        case atStart => exact ⟨0, rfl, by omega, by omega, S6⟩
        case round =>
          clear S6
          obtain ⟨t, rfl, htm, hkx, S1⟩ := hrel
          by_cases htl : t < m
          · have htz : (t : Int) < (m : Int) := by omega
            obtain ⟨c0, c1⟩ := S1.out.part (s := t) (by have := T.out.1; omega)
            obtain ⟨i1, i2⟩ := T.out.2 t (by omega)
            have RI := Lib.hid i2
            generalize atP d'[t]! = i at c0 i1 RI
            generalize d'[t]!.2 = ab at c1
            clear i2
            have iz : (i : Int) < (k : Int) := by omega
            obtain ⟨o1, o2⟩ := S1.out.out i i1
            simp only [RI.out, Nat.lt_irrefl, if_false, Int.add_zero] at o1
            have wr1 := INC.out i i1 (by rw [RI.out]; exact htl)
            have hbo := S1.out.out.lt hn0
            go_upto_region 28 with fail
            have S2 := Lib.hid ((S1.out.put i1 RI.out (fun j hj h => RINJ.out j i hj i1 (by rw [h, RI.out]))).go (bl_alloc (Below.refl _ _) (Obj.cells #[Value.int IntKind.i64 (i : Int), Value.int IntKind.i64 ab] 73)))
            clear S1 o1 o2 c0 c1 wr1 RI
            go_wp2
            go_roundg (k - (t + 1))
            case measure => omega
            case rel => exact ⟨t + 1, by first | rfl | go_num | simp, by omega, Nat.le_refl _, S2⟩
          · obtain rfl : t = m := by omega
            have htz : ¬ (t : Int) < (t : Int) := by omega
            go_wp2
            refine bodyPost_ret (v := .tuple #[.slice (some ⟨bo, 0, none⟩) k k, .int .i64 0]) (by simp [results, Try.results26, go_sem]) rfl ⟨bo, S1.out.o0, rfl, S1.out.out, S1.out.below⟩
set_option maxHeartbeats 4000000 in
set_option maxRecDepth 100000 in
theorem split_yes (a : Int) (ws : List Int) (ad : Option Addr) (cap : Nat) (w : World) (hn : ws.length ≤ 9223372036854775807) (hx : ∀ k, k < ws.length → In (ws.getD k 0)) (hs : SlI .i64 w ad ws) (ha : In a) (hE : allE ws = 0) :
    Calls Try.prog 26 #[.int .i64 a, .slice ad ws.length cap] w (SplitOk a ws w) := by
  obtain ⟨WO, hN⟩ := wok_of hE
  have hA := all_any ws ad cap w hn hx hs
  rw [hE, hN] at hA
  have hpos := WO.nonempty
  have hlen := WO.len
  obtain ⟨sb, so, rfl, hsb, hcell⟩ := hs.at 0 hpos
  have hS : In (sumI ws) := ⟨by have := WO.sum; omega, WO.fit⟩
  have hqi : ∀ k, k < ws.length → In (a * ws.getD k 0 / sumI ws) := fun k hk => by rw [← at_shQ hk]; exact WO.q_in ha hk
  have hqn : ∀ k, k < ws.length → InW (-(a * ws.getD k 0 / sumI ws)) := fun k hk => by have := hqi k hk; unfold In at this; unfold InW; omega
  have mb := WO.m_bd a
  obtain ⟨m, hm⟩ : ∃ m : Nat, shM a ws = m := ⟨(shM a ws).toNat, by omega⟩
  have hm' : (shM a ws).toNat = m := by omega
  refine (split_walk a (sumI ws) ws.length m (fun k => ws.getD k 0) (fun k => a * ws.getD k 0 / sumI ws) (fun k => a * ws.getD k 0 % sumI ws) (leftI a ws) (rank (shR a ws)) sb so cap w hpos hlen (by omega) hsb hcell hA
    (fun W => by rw [leftI_zero]; exact wof_any _ W ha)
    (fun k W hk => muldiv_fit a _ _ W ha (hx k hk) hS WO.sum (hqi k hk))
    (fun k W hk => wof_any _ W (hqi k hk))
    (fun k W hk => wneg_fit _ W (InW_of_In (hqi k hk)) (hqn k hk))
    (fun k W hk => by
      have e := leftI_succ a ws k hk
      rw [e]
      exact wadd_fit _ _ W (leftI_bd WO ha k (by omega)) (hqn k hk) (by rw [← e]; exact leftI_bd WO ha (k + 1) hk))
    (fun W => by rw [leftI_all, hm]; exact wfit_fit _ W ⟨by omega, by omega⟩)
    (fun d' P I => by
      have T := sorted_of (shR a ws) ws.length (rowP _ ws.length) d' (by simp) (by simp [rowP]) (fun i hi => by obtain ⟨h1, h2⟩ := get_rowP (fun k => a * ws.getD k 0 % sumI ws) ws.length i hi hlen; exact ⟨h1, by rw [h2, at_shR hi]⟩) P I
      exact ⟨T.size, T.at_⟩)
    (fun j hj hrk => by
      have h1 := WO.l_in ha hj
      rw [at_shL hj, at_shQ hj, hm'] at h1
      unfold took at h1
      rw [if_pos hrk] at h1
      rw [IntKind.wrap_i64]
      unfold In at h1
      omega)
    (fun i j hi hj h => rank_inj (by simpa using hlen) (by simpa using hi) (by simpa using hj) h)).mono ?_
  rintro e w' ⟨b, h1, h2, h3, h4⟩
  refine ⟨b, h1, h2, h3.congr fun j hj => ?_, h4⟩
  rw [at_shL hj, at_shQ hj, hm']
  rfl
end Go.Proofs.Ytkejohmghacdhaa
/- ref.Same of two slices that hold the same numbers; the chapter's example. -/
namespace Go.Proofs.Ytkejohmghacdhaa
set_option linter.unusedVariables false
set_option linter.unusedSimpArgs false
open Go Go.RowKit
theorem same_empty (a b : Option Addr) (ca cb : Nat) (w : World) :
    Calls Try.prog 29 #[.slice a 0 ca, .slice b 0 cb] w fun e w' => e = .returned (.bool true) ∧ Below w.heap.size w w' := by
  go_enter Try.func29, Try.ntmps29
  go_wp2
  refine wp_loop_rounds 1 ?_
  rw [rounds_succ]
  go_wp2
  go_ret
  exact ⟨rfl, Below.refl _ _⟩
set_option maxHeartbeats 1000000 in
theorem same_some (n : Nat) (f : Nat → Int) (b o c p ca cb : Nat) (w : World) (hn : n ≤ 9223372036854775807) (hb : b < w.heap.size) (hc : c < w.heap.size)
    (h1 : ∀ j, j < n → w.cell? ⟨b, o + j, none⟩ = some (.int .i64 (f j))) (h2 : ∀ j, j < n → w.cell? ⟨c, p + j, none⟩ = some (.int .i64 (f j))) :
    Calls Try.prog 29 #[.slice (some ⟨b, o, none⟩) n ca, .slice (some ⟨c, p, none⟩) n cb] w fun e w' => e = .returned (.bool true) ∧ Below w.heap.size w w' := by
  have H1 := Lib.hid h1
  have H2 := Lib.hid h2
  clear h1 h2
  go_enter Try.func29, Try.ntmps29
  go_wp2
  go_loopw [13] (fun i wr => ∃ k : Nat, k ≤ n ∧ i = .int .i64 k ∧ Aside (Below w.heap.size w wr)) (fun i _ => n - (intOf i).toNat)
  case atStart => exact ⟨0, by omega, rfl, Below.refl _ _⟩
  case round =>
    obtain ⟨k, hk, rfl, HB⟩ := hrel
    by_cases hlt : k < n
    · have hz : (k : Int) < (n : Int) := by omega
      have c1 : wr.cell? ⟨b, o + k, none⟩ = some (.int .i64 (f k)) := (HB.out.cell (p := ⟨b, o + k, none⟩) hb).trans (H1.out k hlt)
      have c2 : wr.cell? ⟨c, p + k, none⟩ = some (.int .i64 (f k)) := (HB.out.cell (p := ⟨c, p + k, none⟩) hc).trans (H2.out k hlt)
      generalize f k = x at c1 c2
      go_wp2
      go_quiet (fail)
      go_wp2
      go_roundw
      case rel => exact ⟨k + 1, by omega, by go_num, bl_drewN HB.out _⟩
      case measure => simp [intOf]; omega
    · have hz : ¬ (k : Int) < (n : Int) := by omega
      go_wp2
      go_ret
      exact ⟨rfl, HB.out⟩
theorem same_yes (xs : List Int) (a b : Option Addr) (ca cb : Nat) (w : World) (hn : xs.length ≤ 9223372036854775807) (h1 : SlI .i64 w a xs) (h2 : SlI .i64 w b xs) :
    Calls Try.prog 29 #[.slice a xs.length ca, .slice b xs.length cb] w fun e w' => e = .returned (.bool true) ∧ Below w.heap.size w w' := by
  by_cases h : xs = []
  · subst h; exact same_empty a b ca cb w
  · have hl : 0 < xs.length := by cases xs; exact absurd rfl h; simp
    obtain ⟨b1, o1, rfl, k1, c1⟩ := h1.at 0 hl
    obtain ⟨b2, o2, rfl, k2, c2⟩ := h2.at 0 hl
    exact same_some xs.length (fun j => xs.getD j 0) b1 o1 b2 o2 ca cb w hn k1 k2 c1 c2
theorem allE_111 : allE [1, 1, 1] = 0 := by decide
theorem shL_111 : shL 10 [1, 1, 1] = [4, 3, 3] := by decide
set_option maxHeartbeats 1000000 in
theorem live4 (w : World) : Calls Try.prog 25 #[] w fun e w' => e = .returned (.bool true) ∧ Below w.heap.size w w' := by
  have S := Lib.hid (fun (b : Nat) (w : World) (hs : SlI .i64 w (some ⟨b, 0, none⟩) [1, 1, 1]) => split_yes 10 [1, 1, 1] (some ⟨b, 0, none⟩) 3 w (by decide) (fun k hk => by
    have : k = 0 ∨ k = 1 ∨ k = 2 := by simp at hk; omega
    rcases this with rfl | rfl | rfl <;> exact ⟨by decide, by decide⟩) hs ⟨by decide, by decide⟩ allE_111)
  have T := Lib.hid (fun (a b : Option Addr) (w : World) h1 h2 => same_yes [4, 3, 3] a b 3 3 w (by decide) h1 h2)
  go_enter Try.func25, Try.ntmps25
  go_wp2_with fail
  refine (S.out w.heap.size _ (.inr ⟨_, 0, rfl, fun j hj => ?_⟩)).mono ?_
  · have : j = 0 ∨ j = 1 ∨ j = 2 := by simp at hj; omega
    rcases this with rfl | rfl | rfl <;> simp
  rintro e w1 ⟨b, hb, rfl, hr, hbl⟩
  rw [shL_111] at hr
  have R := Lib.hid hr
  have HB := Lib.hid hbl
  have hlt := hr.lt (by decide)
  clear hr hbl
  go_wp2_with fail
  refine (T.out (some ⟨b, 0, none⟩) (some ⟨w1.heap.size, 0, none⟩) _ (RowF.sl (R.out.go (bl_alloc (Below.refl _ _) _))) (.inr ⟨_, 0, rfl, fun j hj => ?_⟩)).mono ?_
  · have : j = 0 ∨ j = 1 ∨ j = 2 := by simp at hj; omega
    rcases this with rfl | rfl | rfl <;> simp
  rintro e w2 ⟨rfl, hb2⟩
  go_wp2
  go_ret
  exact ⟨rfl, bl_call (bl_alloc (bl_call (bl_alloc (Below.refl _ _) _) HB.out) _) hb2⟩
end Go.Proofs.Ytkejohmghacdhaa
/- Slices of numbers that the call itself makes; parts of a slice. -/
namespace Go.Proofs.Ytkejohmghacdhaa
set_option linter.unusedVariables false
set_option linter.unusedSimpArgs false
open Go.RowKit
/-- v is the call's own slice of the numbers xs. -/
def OwnI (w : World) (base : Nat) (v : Value) (xs : List Int) : Prop := w.ownsRow base 2 1 v xs.length (xs.map (Value.int .i64))
theorem OwnI.shape {w : World} {base : Nat} {v : Value} {xs : List Int} (h : OwnI w base v xs) : ∃ a cap, v = .slice a xs.length cap ∧ SlI .i64 w a xs ∧ xs.length ≤ cap ∧ cap ≤ maxLen ∧ ∀ ad, a = some ad → base ≤ ad.block := by
  obtain ⟨h1, ⟨rfl, h2⟩ | ⟨g, cap, cur, rfl, hg, hh, hc, hm, hs, ht⟩⟩ := h
  · have : xs = [] := by simpa using h2
    subst this
    exact ⟨none, 0, rfl, .nil, by simp, by unfold maxLen; omega, fun ad h => by cases h⟩
  · refine ⟨some ⟨g, 0, none⟩, cap, rfl, .inr ⟨g, 0, rfl, fun j hj => ?_⟩, hc, hm, fun ad h => by obtain rfl := Option.some.inj h; exact hg⟩
    have e : w.cell? ⟨g, j, none⟩ = cur[j]? := by unfold World.cell?; simp [hh]
    rw [Nat.zero_add, e]
    have e2 : (cur.toList.take (xs.length * 1))[j]? = (xs.map (Value.int .i64))[j]? := by rw [ht]
    rw [List.getElem?_take, if_pos (by omega)] at e2
    rw [← Array.getElem?_toList, e2]
    simp [List.getD, hj]
theorem OwnI.go {w w' : World} {base : Nat} {v : Value} {xs : List Int} (h : OwnI w base v xs) (hb : Below w.heap.size w w') : OwnI w' base v xs := by
  obtain ⟨h1, h2 | ⟨g, cap, cur, hv, hg, hh, hc⟩⟩ := h
  · exact ⟨h1, .inl h2⟩
  · refine ⟨h1, .inr ⟨g, cap, cur, hv, hg, ?_, hc⟩⟩
    have hl : g < w.heap.size := by
      rcases Nat.lt_or_ge g w.heap.size with h | h
      · exact h
      · rw [Array.getElem?_eq_none h] at hh; cases hh
    rw [hb.block g hl]; exact hh
theorem OwnI.below {w0 w w' : World} {base : Nat} {v : Value} {xs : List Int} (h : OwnI w base v xs) (hb : Below w0.heap.size w0 w) (hbase : w0.heap.size ≤ base) (hg : w.grownBy w' v.ownBlock) : Below w0.heap.size w0 w' :=
  hb.grown hg hb.size (fun j hj => by have := (World.ownsRow.lt (h := h) j hj).1; omega)
theorem OwnI.at {w : World} {base : Nat} {v : Value} {xs : List Int} (h : OwnI w base v xs) (ys : List Int) (h1 : ys = xs) : OwnI w base v ys := h1 ▸ h
theorem own_nil (w : World) (base : Nat) : OwnI w base (.slice none 0 0) [] := World.ownsRow_nil _ _ _ _
/-- the first K of a slice -/
theorem slice_head {t e : TypeId} (ht : Try.prog.underlying t = some (.slice e)) (he : Try.prog.elem t = e) (hs : ∀ w, (sizeOf e).run Try.prog w = .ok 1 w) (a : Option Addr) (n cap K : Nat) (h : K ≤ cap) :
    ∃ a1, (∀ w, (Instr.slice t (.slice a n cap) none (some (.int .i64 (K : Int))) none).run Try.prog w = .ok (.slice a1 K cap) w) ∧ (∀ k w xs, SlI k w a xs → SlI k w a1 (xs.take K)) := by
  refine ⟨if cap = 0 then a else a.map (·.add 0), fun w => ?_, fun k w xs hx => ?_⟩
  · rw [run_slice_h w t a n cap (by rw [he]; exact ht) .i64 K (by omega) (by omega), he, hs]
    simp [Result.andThen, sliced]
  · have g := hx.take K
    split
    · exact g
    · rcases g with g | ⟨b, off, rfl, g⟩
      · exact .inl g
      · exact .inr ⟨b, off, by simp [Addr.add], g⟩
/-- those behind the first K -/
theorem slice_tail {t e : TypeId} (ht : Try.prog.underlying t = some (.slice e)) (he : Try.prog.elem t = e) (hs : ∀ w, (sizeOf e).run Try.prog w = .ok 1 w) (a : Option Addr) (n cap K : Nat) (h : K ≤ n) (hc : n ≤ cap) :
    ∃ a1, (∀ w, (Instr.slice t (.slice a n cap) (some (.int .i64 (K : Int))) none none).run Try.prog w = .ok (.slice a1 (n - K) (cap - K)) w) ∧ (∀ k w xs, xs.length = n → SlI k w a xs → SlI k w a1 (xs.drop K)) := by
  refine ⟨if cap = K then a else a.map (·.add K), fun w => ?_, fun k w xs hl hx => ?_⟩
  · rw [run_slice_l w t a n cap (by rw [he]; exact ht) .i64 K (by omega) (by omega), he, hs]
    simp [Result.andThen, sliced]
  · split
    · exact .inl (by simp; omega)
    · rcases hx with rfl | ⟨b, off, rfl, g⟩
      · exact .inl (by simp)
      · have := SlI.drop g K
        show SlI k w (some ((⟨b, off, none⟩ : Addr).add K)) _
        rw [Go.WideShapes.add_plain]; exact this
end Go.Proofs.Ytkejohmghacdhaa
/- The document's split: all, sums. -/
namespace Go.Proofs.Ytkejohmghacdhaa
set_option linter.unusedVariables false
set_option linter.unusedSimpArgs false
open Go Go.RowKit
def rallN (xs : List Int) : Int := if allE xs = 0 then sumI xs else 0
theorem allE_long {xs : List Int} (h : 4096 < xs.length) : allE xs = 6 ∧ rallN xs = 0 := by
  have : allE xs = 6 := by unfold allE; rw [if_pos h]
  exact ⟨this, by unfold rallN; rw [this]; rfl⟩
theorem allE_neg {xs : List Int} (h : ¬ 4096 < xs.length) (hn : negB xs = true) : allE xs = 1 ∧ rallN xs = 0 := by
  have : allE xs = 1 := by unfold allE; rw [if_neg h, if_pos hn]
  exact ⟨this, by unfold rallN; rw [this]; rfl⟩
theorem allE_rest {xs : List Int} (h : ¬ 4096 < xs.length) (hn : negB xs = false) :
    (errN (sumI xs) = 0 ∧ capN (sumI xs) = 0 ∧ allE xs = 3 ∧ rallN xs = 0) ∨ (errN (sumI xs) = 0 ∧ capN (sumI xs) ≠ 0 ∧ allE xs = 0 ∧ rallN xs = capN (sumI xs)) ∨ (errN (sumI xs) ≠ 0 ∧ allE xs = errN (sumI xs) ∧ rallN xs = 0) := by
  have hc : errN (sumI xs) = 0 → capN (sumI xs) = sumI xs := fun h => by unfold errN at h; unfold capN; split at h; rw [if_pos ‹_›]; omega
  unfold rallN
  have e : allE xs = if errN (sumI xs) = 0 then (if sumI xs = 0 then 3 else 0) else errN (sumI xs) := by unfold allE; rw [if_neg h, hn]; rfl
  by_cases h1 : errN (sumI xs) = 0
  · by_cases h2 : sumI xs = 0
    · left; rw [e, if_pos h1, if_pos h2, hc h1]; exact ⟨h1, h2, rfl, rfl⟩
    · right; left; rw [e, if_pos h1, if_neg h2, hc h1]; exact ⟨h1, h2, rfl, rfl⟩
  · right; right; rw [e, if_neg h1]; exact ⟨h1, rfl, if_neg h1⟩
set_option maxRecDepth 100000 in
set_option maxHeartbeats 4000000 in
theorem rall_any (xs : List Int) (a : Option Addr) (cap : Nat) (w : World) (hn : xs.length ≤ 9223372036854775807) (hx : ∀ k, k < xs.length → In (xs.getD k 0)) (hs : SlI .i64 w a xs) :
    Calls Try.prog 56 #[.slice a xs.length cap] w fun e w' => e = .returned (.tuple #[.int .i64 (rallN xs), .int .i64 (allE xs)]) ∧ Below w.heap.size w w' := by
  have HS := Lib.hid hs
  have RS := Lib.hid (rsum_any xs a cap w hn hx hs)
  clear hx hs
  by_cases h : 4096 < xs.length
  · have E := Lib.hid (allE_long h)
    have hz : (4096 : Int) < (xs.length : Int) := by omega
    generalize allE xs = u at *
    generalize rallN xs = v at *
    generalize xs.length = n at *
    go_enter Try.func56, Try.ntmps56
    go_wp2
    go_ret2
    exact ⟨ret_ii E.out.2.symm E.out.1.symm, Below.refl _ _⟩
  have hz : ¬ (4096 : Int) < (xs.length : Int) := by omega
  rcases hN : negB xs with _ | _
  · have NN := Lib.hid (fun j => negB_false hN j)
    have R := Lib.hid (allE_rest h hN)
    obtain ⟨n, hl⟩ : ∃ n, xs.length = n := ⟨_, rfl⟩
    have HL := Lib.hid hl
    rw [hl] at hn hz ⊢
    rw [hl] at RS
    clear hl h hN
    generalize allE xs = u at *
    generalize rallN xs = v at *
    generalize capN (sumI xs) = c at *
    generalize errN (sumI xs) = er at *
    go_enter Try.func56, Try.ntmps56
    go_wp2
    go_loop [13] (fun i => ∃ k : Nat, k ≤ n ∧ i = .int .i64 k) (fun i => n - (intOf i).toNat)
    case atStart => exact ⟨0, by omega, rfl⟩
    case round =>
      obtain ⟨k, hk, rfl⟩ := hrel
      by_cases hlt : k < n
      · have hzk : (k : Int) < (n : Int) := by omega
        obtain ⟨b, off, ea, hbz, hcc⟩ := HS.out.at k (by rw [HL.out]; exact hlt)
        subst ea
        have hcell := hcc k (by rw [HL.out]; exact hlt)
        have h0 := NN.out k
        generalize xs.getD k 0 = x at hcell h0
        have t1 : ¬ x < 0 := by omega
        have t1' : decide (x < 0) = false := decide_eq_false t1
        clear hcc h0
        go_wp2
        go_round
        case rel => exact ⟨k + 1, by omega, by go_num⟩
        case measure => simp [intOf]; omega
      · have hzk : ¬ (k : Int) < (n : Int) := by omega
        go_wp2_with fail
        refine RS.out.mono ?_
        rintro e w1 ⟨rfl, hb1⟩
        rcases R.out with ⟨h1, h2, h3, h4⟩ | ⟨h1, h2, h3, h4⟩ | ⟨h1, h3, h4⟩
        · have E := Lib.hid (And.intro h3 h4)
          clear h3 h4 R
          subst h1 h2
          go_wp2
          go_ret2
          exact ⟨ret_ii E.out.2.symm E.out.1.symm, hb1⟩
        · have E := Lib.hid (And.intro h3 h4)
          have t2 : (c == 0) = false := by simpa using h2
          clear h3 h4 R h2
          subst h1
          go_wp2
          go_ret2
          exact ⟨ret_ii E.out.2.symm E.out.1.symm, hb1⟩
        · have E := Lib.hid (And.intro h3 h4)
          have t2 : (er == 0) = false := by simpa using h1
          clear h3 h4 R h1
          go_wp2
          go_ret2
          exact ⟨ret_ii E.out.2.symm E.out.1.symm, hb1⟩
  · obtain ⟨p, hp1, hp2, hp3⟩ := negB_true hN
    have PP := Lib.hid hp2
    have NN := Lib.hid hp3
    have E := Lib.hid (allE_neg h hN)
    obtain ⟨n, hl⟩ : ∃ n, xs.length = n := ⟨_, rfl⟩
    have HL := Lib.hid hl
    rw [hl] at hn hz hp1 ⊢
    clear hl h hN hp2 hp3 RS
    generalize allE xs = u at *
    generalize rallN xs = v at *
    go_enter Try.func56, Try.ntmps56
    go_wp2
    go_loop [13] (fun i => ∃ k : Nat, k ≤ p ∧ i = .int .i64 k) (fun i => n - (intOf i).toNat)
    case atStart => exact ⟨0, by omega, rfl⟩
    case round =>
      obtain ⟨k, hk, rfl⟩ := hrel
      have hlt : k < n := by omega
      have hzk : (k : Int) < (n : Int) := by omega
      obtain ⟨b, off, ea, hbz, hcc⟩ := HS.out.at k (by rw [HL.out]; exact hlt)
      subst ea
      have hcell := hcc k (by rw [HL.out]; exact hlt)
      by_cases hkp : k < p
      · have h0 := NN.out k hkp
        generalize xs.getD k 0 = x at hcell h0
        have t1 : ¬ x < 0 := by omega
        have t1' : decide (x < 0) = false := decide_eq_false t1
        clear hcc h0
        go_wp2
        go_round
        case rel => exact ⟨k + 1, by omega, by go_num⟩
        case measure => simp [intOf]; omega
      · obtain rfl : k = p := by omega
        have h0 := PP.out
        generalize xs.getD k 0 = x at hcell h0
        have t1' : decide (x < 0) = true := decide_eq_true h0
        clear hcc
        go_wp2
        go_ret2
        exact ⟨ret_ii E.out.2.symm E.out.1.symm, Below.refl _ _⟩
set_option maxRecDepth 100000 in
set_option maxHeartbeats 8000000 in
theorem rsums_any (xs : List Int) (a : Option Addr) (cap : Nat) (w : World) (hn : xs.length ≤ 9223372036854775807) (hx : ∀ k, k < xs.length → In (xs.getD k 0)) (hs : SlI .i64 w a xs) :
    Calls Try.prog 59 #[.slice a xs.length cap] w fun e w' => e = .returned (wideA (sumI xs)) ∧ Below w.heap.size w w' := by
  have HX := Lib.hid hx
  have HS := Lib.hid hs
  clear hx hs
  have S := Lib.hid (fun k => sumI_take_In xs k HX.out hn)
  generalize hlen : xs.length = n at *
  have HL := Lib.hid hlen
  clear hlen
  go_enter Try.func59, Try.ntmps59
  go_wp2
  go_loopw [8] (fun i wr => ∃ k : Nat, k ≤ n ∧ i = .int .i64 k ∧ Below w.heap.size w wr ∧ w.heap.size + 1 < wr.heap.size ∧ wr.cell? ⟨w.heap.size + 1, 0, none⟩ = some (.int .i64 (hiW (sumI (xs.take k)))) ∧ wr.cell? ⟨w.heap.size + 1, 1, none⟩ = some (.int .u64 (loW (sumI (xs.take k)))) ∧ (∀ o, wr.frozen? ⟨w.heap.size + 1, o, none⟩ = false) ∧ wr.cell? ⟨w.heap.size, 0, none⟩ = some (.int .i64 0) ∧ wr.cell? ⟨w.heap.size, 1, none⟩ = some (.int .u64 0) ∧ (∀ o, wr.frozen? ⟨w.heap.size, o, none⟩ = false)) (fun i _ => n - (intOf i).toNat)
  case atStart => exact ⟨0, by omega, rfl, (by repeat (with_reducible (first | exact Below.refl _ _ | assumption | refine bl_alloc ?_ _ | refine bl_drewN ?_ _ | refine bl_drew ?_ | refine bl_call ?_ (by assumption) | (refine bl_setCell ?_ _ (Nat.le_refl _)) | (refine bl_setCell ?_ _ (by first | omega | (simp; done) | (simp; omega)))))), by simp, by simp [sumI, hi_zero], by simp [sumI, lo_zero], by simp, by simp, by simp, by simp⟩
  case round =>
    obtain ⟨k, hk, rfl, hbr, hzr, q0, q1, qf, p0, p1, pf⟩ := hrel
    have hz0 : w.heap.size < wr.heap.size := by omega
    by_cases hlt : k < n
    · obtain ⟨b, off, ea, hbz, hc⟩ := HS.out.at k (by rw [HL.out]; exact hlt)
      subst ea
      have hcell : wr.cell? ⟨b, off + k, none⟩ = some (.int .i64 (xs.getD k 0)) := by
        rw [hbr.cell (p := ⟨b, off + k, none⟩) hbz]; exact hc k (by rw [HL.out]; exact hlt)
      clear hc
      have hin := HX.out k hlt
      have hS := S.out k
      have hS1 := S.out (k + 1)
      rw [sumI_take_succ xs k (by rw [HL.out]; exact hlt)] at hS1
      obtain ⟨e1, e2⟩ := capW_of hS1
      have ST := Lib.hid (sumI_take_succ xs k (by rw [HL.out]; exact hlt))
      generalize xs.getD k 0 = x at *
      generalize sumI (xs.take k) = s at *
      have hxw := InW_of_In hin
      have OF := Lib.hid (fun w => rof_any x w hin)
      have AD := fun w => radd_any s x w hS hxw
      rw [e1, e2] at AD
      have AD := Lib.hid AD
      clear hS1 e1 e2 hin hxw hS
      have HB := Lib.hid hbr
      have HP := Lib.hid (And.intro p0 (And.intro p1 pf))
      clear hbr p0 p1 pf
      go_wp2_with fail
      go_region_with (first | (go_at_call 78; refine (OF.out _).mono ?_; rintro e w1 ⟨rfl, hb1⟩; obtain ⟨hc1_0, hf1_0, hz1_0⟩ := own_stays hb1 (b := w.heap.size + 1) (by first | (simp; done) | (simp; omega) | omega)) | (go_at_call 77; refine (AD.out _).mono ?_; rintro e w2 ⟨rfl, hb2⟩; obtain ⟨hc2_0, hf2_0, hz2_0⟩ := own_stays hb2 (b := w.heap.size + 1) (by first | (simp; done) | (simp; omega) | omega)))
      all_goals
        have d0 : w2.cell? ⟨w.heap.size + 1, 0, none⟩ = some (.int .i64 (hiW s)) := by rw [hc2_0, hc1_0]; simpa using q0
        have d1 : w2.cell? ⟨w.heap.size + 1, 1, none⟩ = some (.int .u64 (loW s)) := by rw [hc2_0, hc1_0]; simpa using q1
        have d2 : ∀ o, w2.frozen? ⟨w.heap.size + 1, o, none⟩ = false := by intro o; rw [hf2_0, hf1_0]; simpa using qf o
        have hb := HB.out
        have HW := Lib.hid (show Below w.heap.size w w2 from (by repeat (with_reducible (first | exact Below.refl _ _ | assumption | refine bl_alloc ?_ _ | refine bl_drewN ?_ _ | refine bl_drew ?_ | refine bl_call ?_ (by assumption) | (refine bl_setCell ?_ _ (Nat.le_refl _)) | (refine bl_setCell ?_ _ (by first | omega | (simp; done) | (simp; omega)))))))
        obtain ⟨g1, g2, _⟩ := own_stays hb1 (b := w.heap.size) (by first | (simp; done) | (simp; omega) | omega)
        obtain ⟨g3, g4, _⟩ := own_stays hb2 (b := w.heap.size) (by first | (simp; done) | (simp; omega) | omega)
        have P0 : Hid (w2.cell? ⟨w.heap.size, 0, none⟩ = some (.int .i64 0)) := by have := HP.out.1; show _ = _; rw [g3, g1]; simpa using this
        have P1 : Hid (w2.cell? ⟨w.heap.size, 1, none⟩ = some (.int .u64 0)) := by have := HP.out.2.1; show _ = _; rw [g3, g1]; simpa using this
        have P2 : Hid (∀ o, w2.frozen? ⟨w.heap.size, o, none⟩ = false) := by intro o; have := HP.out.2.2 o; rw [g4, g2]; simpa using this
        have hz2 := hz2_0
        clear hc1_0 hc2_0 hf1_0 hf2_0 hb1 hb2 hb q0 q1 qf g1 g2 g3 g4
        go_wp2
        go_roundw
        case rel =>
          obtain ⟨s0, s1⟩ := set2 (.int .i64 (hiW (s + x))) (.int .u64 (loW (s + x))) d0 d1
          exact ⟨k + 1, by omega, by go_num, bl_setCell (bl_setCell HW.out _ (Nat.le_succ _)) _ (Nat.le_succ _), by simpa using hz2, by rw [ST.out]; exact (World.cell?_setCell_other _ _ _ _ (by simp)).trans s0, by rw [ST.out]; exact s1, by intro o; simpa using d2 o, ((World.cell?_setCell_other _ _ _ _ (by simp)).trans (World.cell?_setCell_other _ _ _ _ (by simp))).trans P0.out, ((World.cell?_setCell_other _ _ _ _ (by simp)).trans (World.cell?_setCell_other _ _ _ _ (by simp))).trans P1.out, by intro o; simpa using P2.out o⟩
        case measure => simp [intOf]; omega
    · have hkn : k = n := by omega
      have T := Lib.hid (show xs.take k = xs by rw [List.take_of_length_le]; have := HL.out; omega)
      rw [T.out] at q0 q1
      generalize hss : sumI xs = s at *
      have HSS := Lib.hid hss
      clear hss
      have HB := Lib.hid hbr
      clear hbr
      go_wp2
      obtain ⟨u0, u1⟩ := set2 (.int .i64 (hiW s)) (.int .u64 (loW s)) p0 p1
      refine bodyPost_ret (v := wideA s) (by simp [results, Try.results59, go_sem, u0, u1, hz0]) rfl ⟨by rw [HSS.out], bl_setCell (bl_setCell HB.out _ (Nat.le_refl _)) _ (Nat.le_refl _)⟩
end Go.Proofs.Ytkejohmghacdhaa
/- Slices of the call's own that it appends to in turn. -/
namespace Go.Proofs.Ytkejohmghacdhaa
set_option linter.unusedVariables false
set_option linter.unusedSimpArgs false
open Go Go.RowKit
theorem OwnI.sl {w : World} {base n cap : Nat} {a : Option Addr} {xs : List Int} (h : OwnI w base (.slice a n cap) xs) : SlI .i64 w a xs := by
  obtain ⟨a', cap', h1, h2, _⟩ := h.shape
  cases h1
  exact h2
theorem RowF.val {w : World} {b n : Nat} {f : Nat → Int} (h : RowF w b n f) (j : Nat) (hj : j < n) {v : Int} (e : f j = v) : w.cell? ⟨b, j, none⟩ = some (.int .i64 v) := e ▸ (h j hj).1
/-- Three slices of the call's own, apart. -/
structure Own3 (w0 W : World) (v1 v2 v3 : Value) (l1 l2 l3 : List Int) : Prop where
  below : Below w0.heap.size w0 W
  o1 : OwnI W w0.heap.size v1 l1
  o2 : OwnI W w0.heap.size v2 l2
  o3 : OwnI W w0.heap.size v3 l3
  d12 : ∀ k, v1.ownBlock = some k → v2.ownBlock ≠ some k
  d13 : ∀ k, v1.ownBlock = some k → v3.ownBlock ≠ some k
  d23 : ∀ k, v2.ownBlock = some k → v3.ownBlock ≠ some k
variable {w0 W W' : World} {v1 v2 v3 v' : Value} {l1 l2 l3 : List Int}
theorem Own3.rot (S : Own3 w0 W v1 v2 v3 l1 l2 l3) : Own3 w0 W v2 v3 v1 l2 l3 l1 :=
  ⟨S.below, S.o2, S.o3, S.o1, S.d23, fun k h1 h2 => S.d12 k h2 h1, fun k h1 h2 => S.d13 k h2 h1⟩
theorem Own3.app1 (S : Own3 w0 W v1 v2 v3 l1 l2 l3) (o : Obj) (x : Int) (h : OwnI W' w0.heap.size v' (l1 ++ [x])) (hg : (W.alloc o).grownBy W' v1.ownBlock) (hb : v'.ownBlock = v1.ownBlock ∨ v'.ownBlock = some (W.heap.size + 1)) : Own3 w0 W' v' v2 v3 (l1 ++ [x]) l2 l3 := by
  have k2 : v2.ownBlock = none ∨ v2.ownBlock ≠ v1.ownBlock := by
    cases h2 : v2.ownBlock with
    | none => exact .inl rfl
    | some k => exact .inr fun h3 => S.d12 k h3.symm h2
  have k3 : v3.ownBlock = none ∨ v3.ownBlock ≠ v1.ownBlock := by
    cases h2 : v3.ownBlock with
    | none => exact .inl rfl
    | some k => exact .inr fun h3 => S.d13 k h3.symm h2
  have f : ∀ (v : Value) (l : List Int), OwnI W w0.heap.size v l → (∀ k, v1.ownBlock = some k → v.ownBlock ≠ some k) → ∀ k, v'.ownBlock = some k → v.ownBlock ≠ some k := fun v l ho hd k h1 h2 => by
    rcases hb with hb | hb
    · exact hd k (hb ▸ h1) h2
    · have := (World.ownsRow.lt (h := ho) k h2).2
      have : k = W.heap.size + 1 := Option.some.inj (h1.symm.trans hb)
      omega
  exact ⟨OwnI.below (World.ownsRow.alloc (h := S.o1) _) (bl_alloc S.below _) (Nat.le_refl _) hg, h, World.ownsRow.kept (h := World.ownsRow.alloc (h := S.o2) _) hg k2, World.ownsRow.kept (h := World.ownsRow.alloc (h := S.o3) _) hg k3, f _ _ S.o2 S.d12, f _ _ S.o3 S.d13, S.d23⟩
theorem Own3.app2 (S : Own3 w0 W v1 v2 v3 l1 l2 l3) (o : Obj) (x : Int) (h : OwnI W' w0.heap.size v' (l2 ++ [x])) (hg : (W.alloc o).grownBy W' v2.ownBlock) (hb : v'.ownBlock = v2.ownBlock ∨ v'.ownBlock = some (W.heap.size + 1)) : Own3 w0 W' v1 v' v3 l1 (l2 ++ [x]) l3 :=
  (S.rot.app1 o x h hg hb).rot.rot
theorem Own3.app3 (S : Own3 w0 W v1 v2 v3 l1 l2 l3) (o : Obj) (x : Int) (h : OwnI W' w0.heap.size v' (l3 ++ [x])) (hg : (W.alloc o).grownBy W' v3.ownBlock) (hb : v'.ownBlock = v3.ownBlock ∨ v'.ownBlock = some (W.heap.size + 1)) : Own3 w0 W' v1 v2 v' l1 l2 (l3 ++ [x]) :=
  (S.rot.rot.app1 o x h hg hb).rot
theorem Own3.start (h : Below w0.heap.size w0 W) : Own3 w0 W (.slice none 0 0) (.slice none 0 0) (.slice none 0 0) [] [] [] :=
  ⟨h, own_nil _ _, own_nil _ _, own_nil _ _, fun k h => (by cases h), fun k h => (by cases h), fun k h => (by cases h)⟩
theorem take_snoc (xs : List Int) (i : Nat) (h : i < xs.length) : xs.take (i + 1) = xs.take i ++ [xs.getD i 0] := by
  rw [List.take_succ_eq_append_getElem h]; congr 2; simp [List.getD, h]
theorem Own3.go (S : Own3 w0 W v1 v2 v3 l1 l2 l3) (hb : Below W.heap.size W W') : Own3 w0 W' v1 v2 v3 l1 l2 l3 :=
  ⟨bl_call S.below hb, S.o1.go hb, S.o2.go hb, S.o3.go hb, S.d12, S.d13, S.d23⟩
end Go.Proofs.Ytkejohmghacdhaa
/- The document's Split. -/
namespace Go.Proofs.Ytkejohmghacdhaa
set_option linter.unusedVariables false
set_option linter.unusedSimpArgs false
open Go Go.RowKit
/-- what lies above, those that have one more struck -/
def abv (rk : Nat → Nat) (r : Nat → Int) (t j : Nat) : Int := if rk j < t then -1 else r j
/-- the first one of the greatest of those ahead of i -/
structure Best (f : Nat → Int) (i b : Nat) : Prop where
  lt : b < i ∨ (i = 0 ∧ b = 0)
  max : ∀ j, j < i → f j ≤ f b ∧ (f j = f b → b ≤ j)
theorem Best.start (f : Nat → Int) : Best f 0 0 := ⟨.inr ⟨rfl, rfl⟩, fun j h => by omega⟩
theorem Best.yes {f : Nat → Int} {i b : Nat} (B : Best f i b) (h : f b < f i) : Best f (i + 1) i := by
  refine ⟨.inl (by omega), fun j hj => ?_⟩
  by_cases e : j = i
  · subst e; exact ⟨Int.le_refl _, fun _ => Nat.le_refl _⟩
  · have := (B.max j (by omega)).1
    exact ⟨by omega, fun h2 => by omega⟩
theorem Best.no {f : Nat → Int} {i b : Nat} (B : Best f i b) (h : ¬ f b < f i) : Best f (i + 1) b := by
  refine ⟨.inl (by have := B.lt; omega), fun j hj => ?_⟩
  by_cases e : j = i
  · subst e; exact ⟨by omega, fun _ => by have := B.lt; omega⟩
  · exact B.max j (by omega)
theorem best_rank {n t b : Nat} {rk : Nat → Nat} {r : Nat → Int} (hr : ∀ j, j < n → 0 ≤ r j) (K : ∀ i j, i < n → j < n → rk i < rk j → r j < r i ∨ (r i = r j ∧ i < j)) (inj : ∀ i j, i < n → j < n → rk i = rk j → i = j) (ex : ∃ i, i < n ∧ rk i = t) (B : Best (abv rk r t) n b) : b < n ∧ rk b = t := by
  obtain ⟨i, hi, hit⟩ := ex
  have hb : b < n := by have := B.lt; omega
  refine ⟨hb, ?_⟩
  obtain ⟨m1, m2⟩ := B.max i hi
  have ei : abv rk r t i = r i := by unfold abv; rw [if_neg (by omega)]
  have r0 := hr i hi
  rw [ei] at m1 m2
  have hbt : ¬ rk b < t := by
    intro h
    have : abv rk r t b = -1 := by unfold abv; rw [if_pos h]
    omega
  have eb : abv rk r t b = r b := by unfold abv; rw [if_neg hbt]
  rw [eb] at m1 m2
  rcases Nat.lt_or_eq_of_le (Nat.not_lt.1 hbt) with h | h
  · rcases K i b hi hb (by omega) with h2 | ⟨h2, h3⟩
    · omega
    · have := m2 h2; omega
  · exact h.symm
/-- Within the second loop. -/
structure Rs2 (w0 W : World) (g1 g2 n t : Nat) (q r : Nat → Int) (rk : Nat → Nat) : Prop where
  below : Below w0.heap.size w0 W
  out : RowF W g1 n (fun j => q j + if rk j < t then 1 else 0)
  above : RowF W g2 n (abv rk r t)
  o0 : w0.heap.size ≤ g1
  p0 : w0.heap.size ≤ g2
  op : g1 ≠ g2
theorem Rs2.put {w0 W : World} {g1 g2 n t i : Nat} {q r : Nat → Int} {rk : Nat → Nat} (S : Rs2 w0 W g1 g2 n t q r rk) (hi : i < n) (hr : rk i = t) (hj : ∀ j, j < n → rk j = t → j = i) : Rs2 w0 ((W.setCell ⟨g1, i, none⟩ (.int .i64 (q i + 1))).setCell ⟨g2, i, none⟩ (.int .i64 (-1))) g1 g2 n (t + 1) q r rk :=
  ⟨(S.below.setCell S.o0 _).setCell S.p0 _, ((S.out.set i hi (q i + 1)).other (p := ⟨g2, i, none⟩) (Ne.symm S.op) _).congr fun j h => by
    by_cases e : j = i
    · subst e; simp [hr]
    · have : rk j ≠ t := fun h2 => e (hj j h h2)
      by_cases h3 : rk j < t
      · simp [e, h3, show rk j < t + 1 by omega]
      · simp [e, h3, show ¬ rk j < t + 1 by omega], ((S.above.other (p := ⟨g1, i, none⟩) S.op _).set i hi (-1)).congr fun j h => by
    unfold abv
    by_cases e : j = i
    · subst e; simp [hr]
    · have : rk j ≠ t := fun h2 => e (hj j h h2)
      by_cases h3 : rk j < t
      · simp [e, h3, show rk j < t + 1 by omega]
      · simp [e, h3, show ¬ rk j < t + 1 by omega], S.o0, S.p0, S.op⟩
/-- an owned slice's row -/
theorem OwnI.row {w : World} {base : Nat} {v : Value} {xs : List Int} (h : OwnI w base v xs) (hl : 0 < xs.length) : ∃ g cap, v = .slice (some ⟨g, 0, none⟩) xs.length cap ∧ base ≤ g ∧ v.ownBlock = some g ∧ RowF w g xs.length (fun j => xs.getD j 0) := by
  obtain ⟨h1, ⟨rfl, h2⟩ | ⟨g, cap, cur, rfl, hg, hh, hc, hm, hs, ht⟩⟩ := h
  · omega
  · refine ⟨g, cap, rfl, hg, rfl, fun j hj => ⟨?_, by unfold World.frozen?; simp [hh]⟩⟩
    have e : w.cell? ⟨g, j, none⟩ = cur[j]? := by unfold World.cell?; simp [hh]
    rw [e]
    have e2 : (cur.toList.take (xs.length * 1))[j]? = (xs.map (Value.int .i64))[j]? := by rw [ht]
    rw [List.getElem?_take, if_pos (by omega)] at e2
    rw [← Array.getElem?_toList, e2]
    simp [List.getD, hj]
/-- Split's row as a slice that is read. -/
def RSplitOk (n m : Nat) (q : Nat → Int) (rk : Nat → Nat) (w : World) (e : Ending) (w' : World) : Prop :=
  ∃ g cap, e = .returned (.tuple #[.slice (some ⟨g, 0, none⟩) n cap, .int .i64 0]) ∧ RowF w' g n (fun j => q j + if rk j < m then 1 else 0) ∧ Below w.heap.size w w'
set_option maxRecDepth 100000 in
set_option maxHeartbeats 8000000 in
theorem rsplit_walk (a sg sr : Int) (n m : Nat) (xs ql rl : List Int) (q r : Nat → Int) (rk : Nat → Nat) (ad : Option Addr) (cap : Nat) (w : World) (hn0 : 0 < n) (hn : n ≤ 4096) (hm : m < n)
    (HL : Hid (xs.length = n ∧ ql.length = n ∧ rl.length = n)) (HS : Hid (SlI .i64 w ad xs)) (EQ : Hid (∀ k, k < n → ql.getD k 0 = q k ∧ rl.getD k 0 = r k))
    (A : Hid (Calls Try.prog 56 #[.slice ad n cap] w fun e w' => e = .returned (.tuple #[.int .i64 sg, .int .i64 0]) ∧ Below w.heap.size w w'))
    (CM : Hid (∀ k W, k < n → Calls Try.prog 57 #[.int .i64 a, .int .i64 (xs.getD k 0), .int .i64 sg] W fun e w' => e = .returned (.tuple #[.int .i64 (q k), .int .i64 (r k), .int .i64 0]) ∧ Below W.heap.size W w'))
    (CS : Hid (∀ b c W, SlI .i64 W b rl → Calls Try.prog 59 #[.slice b n c] W fun e w' => e = .returned (wideA sr) ∧ Below W.heap.size W w'))
    (CD : Hid (∀ W, Calls Try.prog 58 #[wideA sr, .int .i64 sg] W fun e w' => e = .returned (.tuple #[wideA (m : Int), .int .i64 0, .int .i64 0]) ∧ Below W.heap.size W w'))
    (CF : Hid (∀ W, Calls Try.prog 60 #[wideA (m : Int)] W fun e w' => e = .returned (.tuple #[.int .i64 (m : Int), .int .i64 0]) ∧ Below W.heap.size W w'))
    (BR : Hid (∀ t b, t < m → Best (abv rk r t) n b → b < n ∧ rk b = t))
    (INC : Hid (∀ j, j < n → rk j < m → IntKind.i64.wrap (q j + 1) = q j + 1)) (RINJ : Hid (∀ i j, i < n → j < n → rk i = rk j → i = j)) :
    Calls Try.prog 30 #[.int .i64 a, .slice ad n cap] w (RSplitOk n m q rk w) := by
  obtain ⟨i0, hi, hz0, hz1, hz2⟩ := info_parts info_i64
  have INF := Lib.hid (And.intro hi (And.intro hz0 (And.intro hz1 hz2)))
  clear hi hz0 hz1 hz2
  go_enter Try.func30, Try.ntmps30
  go_wp2_with fail
  refine A.out.mono ?_
  rintro e w1 ⟨rfl, hb1⟩
  have S1 : Aside (Own3 w w1 (.slice none 0 0) (.slice none 0 0) (.slice none 0 0) [] [] []) := Own3.start hb1
  clear hb1
  go_wp2
  go_loopw [8, 9, 33] (fun v1 v2 i wr => ∃ k : Nat, k ≤ n ∧ i = .int .i64 k ∧ Aside (Own3 w wr v1 v2 (.slice none 0 0) (ql.take k) (rl.take k) [])) (fun _ _ i _ => n - (intOf i).toNat)
  case atStart => exact ⟨0, by omega, rfl, by simpa using S1⟩
  case round =>
    clear S1
    obtain ⟨k, hk, rfl, S1⟩ := hrel
    by_cases hlt : k < n
    · have hzk : (k : Int) < (n : Int) := by omega
      obtain ⟨b, off, ea, hbz, hcc⟩ := HS.out.at k (by rw [HL.out.1]; exact hlt)
      subst ea
      have hcell : wr.cell? ⟨b, off + k, none⟩ = some (.int .i64 (xs.getD k 0)) := (S1.out.below.cell (p := ⟨b, off + k, none⟩) hbz).trans (hcc k (by rw [HL.out.1]; exact hlt))
      have M := CM.out k
      have T1 := take_snoc ql k (by rw [HL.out.2.1]; exact hlt)
      have T2 := take_snoc rl k (by rw [HL.out.2.2]; exact hlt)
      rw [(EQ.out k hlt).1] at T1
      rw [(EQ.out k hlt).2] at T2
      have T1 := Lib.hid T1
      have T2 := Lib.hid T2
      have L1 := Lib.hid (show (ql.take k).length = k by have := HL.out.2.1; simp; omega)
      have L2 := Lib.hid (show (rl.take k).length = k by have := HL.out.2.2; simp; omega)
      generalize xs.getD k 0 = x at hcell M
      generalize ql.take k = l1 at *
      generalize rl.take k = l2 at *
      clear hcc
      go_wp2_with fail
      refine (M _ hlt).mono ?_
      rintro e w2 ⟨rfl, hb2⟩
      have S2 : Aside (Own3 w w2 _ _ (.slice none 0 0) l1 l2 []) := S1.out.go hb2
      clear hb2 S1 M hcell
      obtain ⟨hi, hz0, hz1, hz2⟩ := INF.out
      go_wp2_with (first | (at_builtin; refine wpList_append_own_at _ rfl _ _ 41 rfl w.heap.size 2 i0 (.int .i64 0) 1 8 Try.underlying41 hi hz0 hz1 hz2 rfl (by decide) _ _ _ rfl (World.ownsRow.alloc (h := S2.out.o1) _) ⟨w2.heap.size, 0, none⟩ 1 1 [.int .i64 (q k)] rfl rfl ?c1 ?c2 ?c3 ?c4 ?c5 ?_))
      case c1 =>
        intro j u hj
        match j, hj with
        | 0, hj => simp at hj; subst hj; simp [Addr.add]
      case c2 => intro u hu; simp at hu; subst hu; rfl
      case c3 => have := L1.out; unfold maxLen; omega
      case c4 => have := L1.out; omega
      case c5 => have := S2.out.below.size; simp; omega
      intro vb wb hown' hgrow _ hblk
      have S3 := Lib.hid (S2.out.app1 _ (q k) (show OwnI wb w.heap.size vb (l1 ++ [q k]) by unfold OwnI; simpa using hown') hgrow (by simpa using hblk))
      clear hown' hgrow hblk S2 hi hz0 hz1 hz2
      obtain ⟨hi, hz0, hz1, hz2⟩ := INF.out
      go_wp2_with (first | (at_builtin; refine wpList_append_own_at _ rfl _ _ 41 rfl w.heap.size 2 i0 (.int .i64 0) 1 8 Try.underlying41 hi hz0 hz1 hz2 rfl (by decide) _ _ _ rfl (World.ownsRow.alloc (h := S3.out.o2) _) ⟨wb.heap.size, 0, none⟩ 1 1 [.int .i64 (r k)] rfl rfl ?c1 ?c2 ?c3 ?c4 ?c5 ?_))
      case c1 =>
        intro j u hj
        match j, hj with
        | 0, hj => simp at hj; subst hj; simp [Addr.add]
      case c2 => intro u hu; simp at hu; subst hu; rfl
      case c3 => have := L2.out; unfold maxLen; omega
      case c4 => have := L2.out; omega
      case c5 => have := S3.out.below.size; simp; omega
      intro vc wc hown' hgrow _ hblk
      have S4 := Lib.hid (S3.out.app2 _ (r k) (show OwnI wc w.heap.size vc (l2 ++ [r k]) by unfold OwnI; simpa using hown') hgrow (by simpa using hblk))
      clear hown' hgrow hblk S3 hi hz0 hz1 hz2
      go_wp2
      go_roundw
      case rel => exact ⟨k + 1, by omega, by go_num, by rw [T1.out, T2.out]; exact S4.out⟩
      case measure => simp [intOf]; omega
    · have hzk : ¬ (k : Int) < (n : Int) := by omega
      obtain rfl : k = n := by omega
      have S2 := S1.out
      rw [show ql.take k = ql by rw [← HL.out.2.1, List.take_length], show rl.take k = rl by rw [← HL.out.2.2, List.take_length]] at S2
      obtain ⟨g1, c1, h1, hg1, hv1, R1⟩ := S2.o1.row (by rw [HL.out.2.1]; exact hn0)
      obtain ⟨g2, c2, h2, hg2, hv2, R2⟩ := S2.o2.row (by rw [HL.out.2.2]; exact hn0)
      have hgg : g1 ≠ g2 := fun h => S2.d12 g1 hv1 (by rw [hv2, h])
      rw [HL.out.2.1] at h1 R1
      rw [HL.out.2.2] at h2 R2
      clear hv1 hv2
      subst h1 h2
      have SR := Lib.hid (S2.o2.sl)
      have B2 := Lib.hid S2.below
      have O1 := Lib.hid (R1.congr fun j hj => ((EQ.out j hj).1).symm)
      have O2 := Lib.hid (R2.congr fun j hj => ((EQ.out j hj).2).symm)
      clear S1 S2 R1 R2 hzk
      go_wp2_with fail
      refine (CS.out _ _ _ SR.out).mono ?_
      rintro e w2 ⟨rfl, hb⟩
      have B3 := Lib.hid (bl_call B2.out hb)
      have P1 := Lib.hid (O1.out.go hb)
      have P2 := Lib.hid (O2.out.go hb)
      clear hb B2 O1 O2 SR
      go_wp2_with fail
      refine (CD.out _).mono ?_
      rintro e w3 ⟨rfl, hb⟩
      have B4 := Lib.hid (bl_call B3.out hb)
      have Q1 := Lib.hid (P1.out.go hb)
      have Q2 := Lib.hid (P2.out.go hb)
      clear hb B3 P1 P2
      go_wp2_with fail
      refine (CF.out _).mono ?_
      rintro e w4 ⟨rfl, hb⟩
      have S5 : Aside (Rs2 w w4 g1 g2 k 0 q r rk) := ⟨bl_call (bl_alloc B4.out _) hb, ((Q1.out.go (bl_alloc (Below.refl _ _) _)).go hb).congr fun j _ => by simp, ((Q2.out.go (bl_alloc (Below.refl _ _) _)).go hb).congr fun j _ => by simp [abv], hg1, hg2, hgg⟩
      clear hb B4 Q1 Q2
      go_wp2
      go_loopg [68] k (fun kx s68 wr => ∃ t : Nat, s68 = .int .i64 t ∧ t ≤ m ∧ k - t ≤ kx ∧ Aside (Rs2 w wr g1 g2 k t q r rk))
      case atStart => exact ⟨0, rfl, by omega, by omega, S5⟩
      case round =>
        clear S5
        obtain ⟨t, rfl, htm, hkx, S1⟩ := hrel
        by_cases htl : t < m
        · have htz : (t : Int) < (m : Int) := by omega
          obtain ⟨f, hf⟩ : ∃ f, abv rk r t = f := ⟨_, rfl⟩
          have R2 := S1.out.above
          rw [hf] at R2
          have BB := BR.out t
          rw [hf] at BB
          have R2 := Lib.hid R2
          have BB := Lib.hid BB
          clear hf
          go_wp2
          go_loopg [20, 72] k (fun ky s20 s72 wq => ∃ (b i : Nat), s20 = .int .i64 b ∧ s72 = .int .i64 i ∧ i ≤ k ∧ k - i ≤ ky ∧ Aside (Best f i b) ∧ Aside (wq = wr))
          case atStart => exact ⟨0, 0, rfl, rfl, by omega, by omega, Best.start f, rfl⟩
          case round =>
            obtain ⟨b, i, rfl, rfl, hik, hky, HB, hw⟩ := hrel
            obtain rfl := hw.out
            by_cases hil : i < k
            · have hzi : (i : Int) < (k : Int) := by omega
              have hbk : b < k := by have := HB.out.lt; omega
              have hzb : (b : Int) < (k : Int) := by omega
              have c1 := (R2.out i hil).1
              have c2 := (R2.out b hbk).1
              by_cases hgt : f b < f i
              · have H2 := Lib.hid (HB.out.yes hgt)
                have t1 : decide (f b < f i) = true := decide_eq_true hgt
                clear HB
                go_wp2
                go_roundg (k - (i + 1))
                case measure => omega
                case rel => exact ⟨i, i + 1, rfl, by first | rfl | go_num | simp, by omega, Nat.le_refl _, H2, rfl⟩
              · have H2 := Lib.hid (HB.out.no hgt)
                have t1 : decide (f b < f i) = false := decide_eq_false hgt
                clear HB
                go_wp2
                go_roundg (k - (i + 1))
                case measure => omega
                case rel => exact ⟨b, i + 1, rfl, by first | rfl | go_num | simp, by omega, Nat.le_refl _, H2, rfl⟩
            · obtain rfl : i = k := by omega
              have hzi : ¬ (i : Int) < (i : Int) := by omega
              obtain ⟨hb1, hb2⟩ := BB.out b htl HB.out
              have RB := Lib.hid hb2
              have hzb : (b : Int) < (i : Int) := by omega
              obtain ⟨o1, o2⟩ := S1.out.out b hb1
              simp only [RB.out, Nat.lt_irrefl, if_false, Int.add_zero] at o1
              have wr1 := INC.out b hb1 (by rw [RB.out]; exact htl)
              obtain ⟨p1, p2⟩ := S1.out.above.other (p := ⟨g1, b, none⟩) S1.out.op (.int .i64 (q b + 1)) b hb1
              clear HB BB R2 hb2 hw
              go_upto_region 25 with fail
              have S2 : Aside (Rs2 w _ g1 g2 i (t + 1) q r rk) := S1.out.put hb1 RB.out (fun j hj h => RINJ.out j b hj hb1 (by rw [h, RB.out]))
              clear S1 o1 o2 p1 p2 wr1 RB
              go_wp2
              go_roundg (i - (t + 1))
              case measure => omega
              case rel => exact ⟨t + 1, by first | rfl | go_num | simp, by omega, Nat.le_refl _, S2⟩
        · obtain rfl : t = m := by omega
          have htz : ¬ (t : Int) < (t : Int) := by omega
          go_wp2
          refine bodyPost_ret (v := .tuple #[.slice (some ⟨g1, 0, none⟩) k c1, .int .i64 0]) (by simp [results, Try.results30, go_sem]) rfl ⟨g1, c1, rfl, S1.out.out, S1.out.below⟩
end Go.Proofs.Ytkejohmghacdhaa
/- A region that draws its order whose operations on memory (and calls) wait one for the other: walked in one order, like a sequence. 'heavy': those operations' numbers; all others only reckon. -/
namespace Go.Proofs.Ytkejohmghacdhaa
set_option linter.unusedVariables false
set_option linter.unusedSimpArgs false
open Go.RowKit
/-- An operation that only reckons: v, in whatever world. -/
def pUpon (w : World) (v : Value) : Result Next → Prop
  | .ok (.value u) w' => w' = w ∧ u = v
  | _ => False
def pAt (P : Program) (o : Oper) (a : Act) (v : Value) : Prop := ∀ w, pUpon w v ((execOp a.eval o).run P w)
def pOper (P : Program) (o : Oper) (a : Act) (w : World) (next : Act → World → Prop) : Prop := ∃ v, pAt P o a v ∧ next (a.put o.dst v) w
/-- Only the way through. -/
def onlyN (K : Act → World → Prop) : Exit → Act → World → Prop
  | .normal, a, w => K a w
  | _, _, _ => False
theorem not_letsOut (K : Act → World → Prop) : ¬ LetsOut (onlyN K) := fun ⟨_, _, h⟩ => h
def wpM (P : Program) (ops : Array Oper) (hv : List Nat) (L : Act → World → Prop) : List Nat → Act → World → Prop
  | [], a, w => L a w
  | i :: s, a, w => ∃ o, ops[i]? = some o ∧ if hv.contains i = true then wpList P ops (onlyN (wpM P ops hv L s)) [o] a w
      else if Region.wanted o (yielded ops a.tmps) = true then pOper P o a w (wpM P ops hv L s) else wpM P ops hv L s (a.put o.dst undef) w
section
variable {P : Program} {ops : Array Oper} {hv : List Nat} {L : Act → World → Prop} {s : List Nat} {i : Nat} {o : Oper} {a : Act} {w : World} {md : Region.Mode}
theorem wpM_nil (h : L a w) : wpM P ops hv L [] a w := h
theorem wpM_p (h0 : ops[i]? = some o) (h1 : hv.contains i = false)
    (h : ∀ K : Act → World → Prop, (∀ a w, wpM P ops hv L s a w → K a w) → if Region.wanted o (yielded ops a.tmps) = true then pOper P o a w K else K (a.put o.dst undef) w) : wpM P ops hv L (i :: s) a w :=
  ⟨o, h0, by rw [h1]; exact h _ (fun _ _ h => h)⟩
theorem wpM_h (h0 : ops[i]? = some o) (h1 : hv.contains i = true)
    (h : ∀ K : Act → World → Prop, (∀ a w, wpM P ops hv L s a w → K a w) → wpList P ops (onlyN K) [o] a w) : wpM P ops hv L (i :: s) a w :=
  ⟨o, h0, by rw [if_pos h1]; exact h _ (fun _ _ h => h)⟩
theorem wp_only {K K' : Act → World → Prop} {L : Act → World → Prop} {Q : Exit → Act → World → Prop} (hK : ∀ a w, K a w → K' a w) (h : o.wp P a w K (onlyN L)) : o.wp P a w K' Q := by
  unfold Oper.wp at *
  generalize (execOp a.eval o).run P w = r at *
  cases r with
  | ok n w' =>
    cases n <;> simp only [Oper.upon] at h ⊢
    case value => exact hK _ _ h
    case skip => exact hK _ _ h
    case defer => exact hK _ _ h
    case enter f args =>
      exact Calls.mono h (fun e w'' he => by
        cases e with
        | returned v => exact hK _ _ he
        | panicked c => exact he.elim
        | outgrown => exact (not_letsOut _ he).elim)
    case row r args => exact Rows.mono h (fun _ _ he => hK _ _ he)
  | halt x w' =>
    cases x <;> simp only [Oper.upon] at h ⊢
    case panic => exact h.elim
theorem wpOp_only {K K' : Act → World → Prop} {L : Act → World → Prop} {Q : Exit → Act → World → Prop} (hK : ∀ a w, K a w → K' a w) (h : wpOp P ops (onlyN L) i K a w) : wpOp P ops Q i K' a w := by
  unfold wpOp at *
  split
  · rename_i h0; simp only [h0] at h; exact hK _ _ h
  · rename_i o h0
    simp only [h0] at h
    split
    · rename_i hw
      simp only [hw, if_true] at h
      rcases h with h | ⟨_, h⟩
      · exact .inl (wp_only hK h)
      · exact (not_letsOut _ h).elim
    · rename_i hw; simp only [hw] at h; exact hK _ _ h
theorem wpAny_only {Q : Exit → Act → World → Prop} (hL : ∀ a w, L a w → Q .normal a w) : ∀ (f : Nat) (t : Array Bool) (a : Act) (w : World), wpAny P md ops (onlyN L) f t a w → wpAny P md ops Q f t a w := by
  intro f
  induction f with
  | zero => intro t a w h; exact ⟨h.1, hL _ _ h.2⟩
  | succ f ih => intro t a w h; exact ⟨fun h0 => hL _ _ (h.1 h0), fun i hi => wpOp_only (fun a w => ih _ a w) (h.2 i hi)⟩
/-- The order serves: what reckons comes up while it is ready and apart from the rest, what turns memory only where nothing else is ready. -/
def schedB (md : Region.Mode) (ops : Array Oper) (hv : List Nat) : List Nat → Array Bool → Bool
  | [], t => (Region.ready md ops t).isEmpty
  | i :: s, t => (if hv.contains i = true then Region.ready md ops t == [i] else (Region.ready md ops t).contains i && Region.free md ops t i) && schedB md ops hv s (t.setIfInBounds i true)
theorem any_of_M (hsel : Region.noSelect ops = true) : ∀ (s : List Nat) (t : Array Bool) (a : Act) (w : World), schedB md ops hv s t = true → wpM P ops hv L s a w → wpAny P md ops (onlyN L) s.length t a w := by
  intro s
  induction s with
  | nil => intro t a w hB h; exact ⟨by simpa [schedB] using hB, h⟩
  | cons i s ih =>
    intro t a w hB h
    obtain ⟨o, h0, h⟩ := h
    simp only [schedB, Bool.and_eq_true] at hB
    obtain ⟨hB1, hB2⟩ := hB
    by_cases hh : hv.contains i = true
    · rw [if_pos hh] at hB1 h
      have hr : Region.ready md ops t = [i] := by simpa using hB1
      refine ⟨fun h1 => (by rw [hr] at h1; cases h1), fun j hj => ?_⟩
      rw [hr] at hj
      obtain rfl : j = i := by simpa using hj
      unfold wpOp
      simp only [h0]
      unfold wpList at h
      split
      · rename_i hw
        simp only [hw, if_true] at h
        rcases h with h | ⟨_, h⟩
        · exact .inl (wp_only (fun a w h => ih _ a w hB2 h) h)
        · exact (not_letsOut _ h).elim
      · rename_i hw
        simp only [hw] at h
        exact ih _ _ _ hB2 h
    · rw [if_neg hh] at hB1 h
      simp only [Bool.and_eq_true] at hB1
      have key : ∃ v, Yields P ops o v a ∧ wpM P ops hv L s (a.put o.dst v) w := by
        by_cases hw : Region.wanted o (yielded ops a.tmps) = true
        · rw [if_pos hw] at h
          obtain ⟨v, hv', hn⟩ := h
          refine ⟨v, .inl ⟨hw, fun w => ?_⟩, hn⟩
          have := hv' w
          generalize (execOp a.eval o).run P w = r at *
          cases r with
          | ok n w' =>
            cases n <;> simp only [pUpon] at this
            case value u => obtain ⟨rfl, rfl⟩ := this; rfl
          | halt x w' => simp only [pUpon] at this
        · rw [if_neg hw] at h
          exact ⟨undef, .inr ⟨by simpa using hw, rfl⟩, h⟩
      obtain ⟨v, hy, hn⟩ := key
      exact wpAny_first h0 (Region.noSelect_spec hsel) (fun c a w h => h) s.length t a w (Region.free_spec h0 hB1.2) (by simpa using hB1.1) hy (ih _ _ _ hB2 hn)
end
theorem wpList_unguard {P : Program} {ops : Array Oper} {Q : Exit → Act → World → Prop} {o : Oper} {a : Act} {w : World} (hw : Region.wanted o (yielded ops a.tmps) = true) (h : wpList P ops Q [{ o with guard := none }] a w) : wpList P ops Q [o] a w := by
  obtain ⟨dst, op, type, pos, after, guard⟩ := o
  unfold wpList at *
  rw [if_pos hw]
  rwa [if_pos (show Region.wanted ⟨dst, op, type, pos, after, none⟩ (yielded ops a.tmps) = true from rfl)] at h
/-- The region, in the order s. -/
theorem region_m {P : Program} {id : Nat} {Q : Exit → Act → World → Prop} {a : Act} {w : World} {l : List Oper} (hv s : List Nat) (hm : P.follows .mixedOrders = true)
    (hB : (Region.noSelect l.toArray && schedB .any l.toArray hv s (Array.replicate l.toArray.size false) && s.length == l.toArray.size) = true)
    (h : wpM P l.toArray hv (fun a' w' => Q .normal a' w') s a w.drew) : (Code.region id l.toArray true).wp P Q a w := by
  simp only [Bool.and_eq_true, beq_iff_eq] at hB
  refine wp_region_any hm ?_
  have := any_of_M hB.1.1 s _ a _ hB.1.2 h
  rw [hB.2] at this
  exact wpAny_only (fun _ _ h => h) _ _ _ _ this
end Go.Proofs.Ytkejohmghacdhaa
attribute [go_sem] Go.Proofs.Ytkejohmghacdhaa.pOper Go.Proofs.Ytkejohmghacdhaa.pAt Go.Proofs.Ytkejohmghacdhaa.pUpon
/- Exact shares: the program's, the document's, and whether two lists are the same. -/
namespace Go.Proofs.Ytkejohmghacdhaa
set_option linter.unusedVariables false
set_option linter.unusedSimpArgs false
open Go Go.RowKit
def exN (a S x : Int) : Int := arN (a * mkN x S) (1 * mkD x S)
def exD (a S x : Int) : Int := arD (a * mkN x S) (1 * mkD x S)
def exE (a S x : Int) : Int := arE (a * mkN x S) (1 * mkD x S)
theorem exE_02 (a S x : Int) : exE a S x = 0 ∨ exE a S x = 2 := by unfold exE arE; split; exact .inl rfl; exact .inr rfl
section
variable {a S x : Int} (hS : 0 < S) (hS1 : S ≤ 9223372036854775807) (h0 : 0 ≤ x) (h1 : x ≤ S)
include hS hS1 h0 h1
theorem mk_ok : mkOk x S = true := by
  refine decide_eq_true ⟨by omega, ?_, .inl ?_⟩
  · have : mY x S ≤ S.natAbs := Nat.div_le_self _ _
    omega
  · have : mX x S ≤ x.natAbs := Nat.div_le_self _ _
    omega
theorem mk_in : In (mkN x S) ∧ In (mkD x S) := by
  obtain ⟨_, e1, e2, _⟩ := mk_right (mk_ok hS hS1 h0 h1)
  have y : mY x S ≤ S.natAbs := Nat.div_le_self _ _
  have x' : mX x S ≤ x.natAbs := Nat.div_le_self _ _
  have s : mkS x S = false := by unfold mkS; exact decide_eq_false (by omega)
  rw [e1, e2, s]
  unfold sgn In
  simp
  omega
theorem ex_make (w : World) : Calls Try.prog 13 #[.int .i64 x, .int .i64 S] w fun e w' => e = .returned (.tuple #[ratA (mkN x S) (mkD x S), .int .i64 0]) ∧ Below w.heap.size w w' := by
  have := rat_make x S w ⟨by omega, by omega⟩ ⟨by omega, by omega⟩
  rwa [(mk_right (mk_ok hS hS1 h0 h1)).2.2.2.1] at this
theorem ex_make3 (w : World) : Calls Try.prog 17 #[.int .i64 x, .int .i64 S] w fun e w' => e = .returned (.tuple #[ratA (mkN x S) (mkD x S), .int .i64 0]) ∧ Below w.heap.size w w' := by
  have := r3make x S w ⟨by omega, by omega⟩ ⟨by omega, by omega⟩
  rwa [(mk_right (mk_ok hS hS1 h0 h1)).2.2.2.1] at this
theorem ex_cp : cpB a 1 (mkN x S) (mkD x S) = true := by
  unfold cpB
  rw [(mk_right (mk_ok hS hS1 h0 h1)).2.2.2.2.1, Bool.and_true]
  exact decide_eq_true ⟨by decide, by unfold gN; simp⟩
theorem ex_mul (ha : In a) (w : World) : Calls Try.prog 61 #[ratA a 1, ratA (mkN x S) (mkD x S)] w fun e w' => e = .returned (.tuple #[ratA (exN a S x) (exD a S x), .int .i64 (exE a S x)]) ∧ Below w.heap.size w w' := by
  obtain ⟨i1, i2⟩ := mk_in hS hS1 h0 h1
  have := rat_mul a 1 _ _ w ha ⟨by decide, by decide⟩ i1 i2
  rwa [ex_cp hS hS1 h0 h1, vN_yes, vN_yes, vE_yes] at this
theorem ex_mul3 (ha : In a) (w : World) : Calls Try.prog 62 #[ratA a 1, ratA (mkN x S) (mkD x S)] w fun e w' => e = .returned (.tuple #[ratA (exN a S x) (exD a S x), .int .i64 (exE a S x)]) ∧ Below w.heap.size w w' := by
  obtain ⟨i1, i2⟩ := mk_in hS hS1 h0 h1
  have := r3mul a 1 _ _ w ha ⟨by decide, by decide⟩ i1 i2
  rwa [ex_cp hS hS1 h0 h1, vN_yes, vN_yes, vE_yes] at this
end
/-- the cells of ratios, k of them laid -/
def cellR (f g : Nat → Int) (k t : Nat) : Int := if t < k * 2 then (if t % 2 = 0 then f (t / 2) else g (t / 2)) else 0
theorem cellR_a {f g : Nat → Int} {k j : Nat} (h : j < k) : cellR f g k (j * 2) = f j := by unfold cellR; rw [if_pos (by omega), if_pos (by omega)]; congr 1; omega
theorem cellR_b {f g : Nat → Int} {k j : Nat} (h : j < k) : cellR f g k (j * 2 + 1) = g j := by unfold cellR; rw [if_pos (by omega), if_neg (by omega)]; congr 1; omega
theorem cellR_put {W : World} {b n k : Nat} {f g : Nat → Int} (h : RowF W b (n * 2) (cellR f g k)) (hk : k < n) : RowF ((W.setCell ⟨b, k * 2, none⟩ (.int .i64 (f k))).setCell ⟨b, k * 2 + 1, none⟩ (.int .i64 (g k))) b (n * 2) (cellR f g (k + 1)) :=
  ((h.set (k * 2) (by omega) (f k)).set (k * 2 + 1) (by omega) (g k)).congr fun t ht => by
    unfold cellR
    by_cases h0 : t < k * 2
    · simp [h0, show t < (k + 1) * 2 by omega, show t ≠ k * 2 by omega, show t ≠ k * 2 + 1 by omega]
    · by_cases h1 : t = k * 2
      · subst h1; simp [show k * 2 < (k + 1) * 2 by omega]
      · by_cases h2 : t = k * 2 + 1
        · subst h2; simp [show k * 2 + 1 < (k + 1) * 2 by omega, show (k * 2 + 1) / 2 = k by omega]
        · simp [h0, h1, h2, show ¬ t < (k + 1) * 2 by omega]
theorem info_ratio : (Try.prog.info? 24).map (fun i => (i.zero, i.size, i.bytes)) = some (some (.agg #[.int .i64 0, .int .i64 0]), 2, 16) := by kernel_rfl
theorem make_ratio (n : Nat) (hn : n ≤ 4096) (w : World) : (Instr.makeSlice 53 (.int .i64 (n : Int)) (.int .i64 (n : Int))).run Try.prog w = .ok (.slice (some ⟨w.heap.size, 0, none⟩) n n) (w.alloc (.cells (Array.replicate (n * 2) (.int .i64 0)) 24)) := by
  obtain ⟨i, hi, h1, h2, h3⟩ := info_parts info_ratio
  have := run_makeSlice (P := Try.prog) w 53 24 i (.agg #[.int .i64 0, .int .i64 0]) Try.underlying53 hi h1 .i64 .i64 n n (by omega) (by omega) (by rw [h2]; omega) (by rw [h3]; omega) (by omega)
  rw [this, h2]
  show _ = Result.ok _ _
  rw [← made_pair]
  simp [Value.cells]
/-- What Exact returns: p: the first one whose share doesn't fit (n: none). -/
def ExOk (n p : Nat) (f g : Nat → Int) (w : World) (e : Ending) (w' : World) : Prop :=
  Below w.heap.size w w' ∧ ((p < n ∧ e = .returned (.tuple #[.slice none 0 0, .int .i64 2])) ∨ (p = n ∧ ∃ b cap, e = .returned (.tuple #[.slice (some ⟨b, 0, none⟩) n cap, .int .i64 0]) ∧ w.heap.size ≤ b ∧ RowF w' b (n * 2) (cellR f g n)))
set_option maxRecDepth 100000 in
set_option maxHeartbeats 8000000 in
theorem exact_walk (a sg : Int) (n p : Nat) (xs : List Int) (m d f g er : Nat → Int) (ad : Option Addr) (cap : Nat) (w : World) (hn0 : 0 < n) (hn : n ≤ 4096) (hp : p ≤ n)
    (HL : Hid (xs.length = n)) (HS : Hid (SlI .i64 w ad xs)) (E0 : Hid (∀ k, k < p → er k = 0)) (E2 : Hid (p < n → er p = 2))
    (A : Hid (Calls Try.prog 48 #[.slice ad n cap] w fun e w' => e = .returned (.tuple #[.int .i64 sg, .int .i64 0]) ∧ Below w.heap.size w w'))
    (CK : Hid (∀ k W, k < n → Calls Try.prog 13 #[.int .i64 (xs.getD k 0), .int .i64 sg] W fun e w' => e = .returned (.tuple #[ratA (m k) (d k), .int .i64 0]) ∧ Below W.heap.size W w'))
    (CM : Hid (∀ k W, k < n → Calls Try.prog 61 #[ratA a 1, ratA (m k) (d k)] W fun e w' => e = .returned (.tuple #[ratA (f k) (g k), .int .i64 (er k)]) ∧ Below W.heap.size W w')) :
    Calls Try.prog 31 #[.int .i64 a, .slice ad n cap] w (ExOk n p f g w) := by
  have mk := make_ratio n hn
  go_enter Try.func31, Try.ntmps31
  go_wp2_with fail
  refine A.out.mono ?_
  rintro e w1 ⟨rfl, hb1⟩
  have B2 : Aside (Below w.heap.size w (w1.alloc (.cells (Array.replicate (n * 2) (.int .i64 0)) 24))) := bl_alloc hb1 _
  have R2 : Aside (RowF (w1.alloc (.cells (Array.replicate (n * 2) (.int .i64 0)) 24)) w1.heap.size (n * 2) (cellR f g 0)) := (row_made w1 (n * 2) 24).congr fun j _ => by simp [cellR]
  have hbb := hb1.size
  clear hb1
  go_wp2
  clear mk
  generalize w1.alloc (.cells (Array.replicate (n * 2) (.int .i64 0)) 24) = w2 at B2 R2 ⊢
  generalize w1.heap.size = b at R2 hbb ⊢
  go_loopw [26] (fun i wr => ∃ k : Nat, k ≤ p ∧ i = .int .i64 k ∧ Aside (Below w.heap.size w wr) ∧ Aside (RowF wr b (n * 2) (cellR f g k))) (fun i _ => n - (intOf i).toNat)
  case atStart => exact ⟨0, by omega, rfl, B2, R2⟩
  case round =>
    clear B2 R2
    obtain ⟨k, hk, rfl, HB, HR⟩ := hrel
    by_cases hlt : k < n
    · have hz : (k : Int) < (n : Int) := by omega
      obtain ⟨sb, off, ea, hbz, hcc⟩ := HS.out.at k (by rw [HL.out]; exact hlt)
      subst ea
      have hcell : wr.cell? ⟨sb, off + k, none⟩ = some (.int .i64 (xs.getD k 0)) := (HB.out.cell (p := ⟨sb, off + k, none⟩) hbz).trans (hcc k (by rw [HL.out]; exact hlt))
      have MK := CK.out k
      generalize xs.getD k 0 = x at hcell MK
      clear hcc
      go_wp2_with fail
      refine (MK _ hlt).mono ?_
      rintro e w3 ⟨rfl, hb3⟩
      have B3 := Lib.hid (bl_call HB.out hb3)
      have R3 := Lib.hid (HR.out.go hb3)
      clear hb3 HB HR hcell MK
      go_wp2_with fail
      refine (CM.out k _ hlt).mono ?_
      rintro e w4 ⟨rfl, hb4⟩
      have B4 := Lib.hid (bl_call (bl_alloc B3.out _) hb4)
      have R4 := Lib.hid ((R3.out.go (bl_alloc (Below.refl _ _) _)).go hb4)
      clear hb4 B3 R3
      obtain ⟨o1, o2⟩ := R4.out (k * 2) (by omega)
      obtain ⟨o3, o4⟩ := R4.out (k * 2 + 1) (by omega)
      by_cases hkp : k < p
      · have e0 := E0.out k hkp
        rw [e0]
        have R5 := Lib.hid (cellR_put R4.out hlt)
        have B5 : Aside (Below w.heap.size w ((w4.setCell ⟨b, k * 2, none⟩ (.int .i64 (f k))).setCell ⟨b, k * 2 + 1, none⟩ (.int .i64 (g k)))) := (B4.out.setCell hbb _).setCell hbb _
        clear R4 B4 e0
        go_wp2
        go_roundw
        case rel => exact ⟨k + 1, by omega, by go_num, B5, R5⟩
        case measure => simp [intOf]; omega
      · obtain rfl : k = p := by omega
        have e2 := E2.out hlt
        rw [e2]
        have B5 : Aside (Below w.heap.size w ((w4.setCell ⟨b, k * 2, none⟩ (.int .i64 (f k))).setCell ⟨b, k * 2 + 1, none⟩ (.int .i64 (g k)))) := (B4.out.setCell hbb _).setCell hbb _
        clear R4 B4 e2
        go_wp2
        refine bodyPost_ret (v := .tuple #[.slice none 0 0, .int .i64 2]) (by simp [results, Try.results31, go_sem]) rfl ⟨B5.out, .inl ⟨hlt, rfl⟩⟩
    · obtain rfl : k = n := by omega
      obtain rfl : p = k := by omega
      have hz : ¬ (p : Int) < (p : Int) := by omega
      go_wp2
      refine bodyPost_ret (v := .tuple #[.slice (some ⟨b, 0, none⟩) p p, .int .i64 0]) (by simp [results, Try.results31, go_sem]) rfl ⟨HB.out, .inr ⟨rfl, b, p, rfl, hbb, HR.out⟩⟩
end Go.Proofs.Ytkejohmghacdhaa
/- The document's exact shares; whether two lists of ratios are the same. -/
namespace Go.Proofs.Ytkejohmghacdhaa
set_option linter.unusedVariables false
set_option linter.unusedSimpArgs false
open Go Go.RowKit
def flatR (f g : Nat → Int) (k : Nat) : List Value := (List.range (k * 2)).map fun t => Value.int .i64 (if t % 2 = 0 then f (t / 2) else g (t / 2))
theorem flatR_snoc (f g : Nat → Int) (k : Nat) : flatR f g (k + 1) = flatR f g k ++ [.int .i64 (f k), .int .i64 (g k)] := by
  unfold flatR
  rw [show (k + 1) * 2 = k * 2 + 1 + 1 by omega, List.range_succ, List.range_succ]
  simp [show (k * 2 + 1) % 2 = 1 by omega, show (k * 2 + 1) / 2 = k by omega]
@[simp] theorem len_flatR (f g : Nat → Int) (k : Nat) : (flatR f g k).length = k * 2 := by simp [flatR]
/-- v is the call's own slice of k ratios. -/
def OwnR (w : World) (base : Nat) (v : Value) (k : Nat) (f g : Nat → Int) : Prop := w.ownsRow base 24 2 v k (flatR f g k)
theorem OwnR.go {w w' : World} {base : Nat} {v : Value} {k : Nat} {f g : Nat → Int} (h : OwnR w base v k f g) (hb : Below w.heap.size w w') : OwnR w' base v k f g := by
  obtain ⟨h1, h2 | ⟨b, cap, cur, hv, hg, hh, hc⟩⟩ := h
  · exact ⟨h1, .inl h2⟩
  · refine ⟨h1, .inr ⟨b, cap, cur, hv, hg, ?_, hc⟩⟩
    have hl : b < w.heap.size := by
      rcases Nat.lt_or_ge b w.heap.size with h | h
      · exact h
      · rw [Array.getElem?_eq_none h] at hh; cases hh
    rw [hb.block b hl]; exact hh
theorem OwnR.row {w : World} {base : Nat} {v : Value} {k : Nat} {f g : Nat → Int} (h : OwnR w base v k f g) (hk : 0 < k) : ∃ b cap, v = .slice (some ⟨b, 0, none⟩) k cap ∧ base ≤ b ∧ RowF w b (k * 2) (cellR f g k) := by
  obtain ⟨h1, ⟨rfl, h2⟩ | ⟨b, cap, cur, rfl, hg, hh, hc, hm, hs, ht⟩⟩ := h
  · omega
  · refine ⟨b, cap, rfl, hg, fun j hj => ⟨?_, by unfold World.frozen?; simp [hh]⟩⟩
    have e : w.cell? ⟨b, j, none⟩ = cur[j]? := by unfold World.cell?; simp [hh]
    rw [e]
    have e2 : (cur.toList.take (k * 2))[j]? = (flatR f g k)[j]? := by rw [ht]
    rw [List.getElem?_take, if_pos hj] at e2
    rw [← Array.getElem?_toList, e2]
    unfold flatR cellR
    rw [if_pos hj, List.getElem?_map, List.getElem?_range hj]
    rfl
set_option maxRecDepth 100000 in
set_option maxHeartbeats 8000000 in
theorem rexact_walk (a sg : Int) (n p : Nat) (xs : List Int) (m d f g er : Nat → Int) (ad : Option Addr) (cap : Nat) (w : World) (hn0 : 0 < n) (hn : n ≤ 4096) (hp : p ≤ n)
    (HL : Hid (xs.length = n)) (HS : Hid (SlI .i64 w ad xs)) (E0 : Hid (∀ k, k < p → er k = 0)) (E2 : Hid (p < n → er p = 2))
    (A : Hid (Calls Try.prog 56 #[.slice ad n cap] w fun e w' => e = .returned (.tuple #[.int .i64 sg, .int .i64 0]) ∧ Below w.heap.size w w'))
    (CK : Hid (∀ k W, k < n → Calls Try.prog 17 #[.int .i64 (xs.getD k 0), .int .i64 sg] W fun e w' => e = .returned (.tuple #[ratA (m k) (d k), .int .i64 0]) ∧ Below W.heap.size W w'))
    (CM : Hid (∀ k W, k < n → Calls Try.prog 62 #[ratA a 1, ratA (m k) (d k)] W fun e w' => e = .returned (.tuple #[ratA (f k) (g k), .int .i64 (er k)]) ∧ Below W.heap.size W w')) :
    Calls Try.prog 32 #[.int .i64 a, .slice ad n cap] w (ExOk n p f g w) := by
  obtain ⟨i0, hi, hz0, hz1, hz2⟩ := info_parts info_ratio
  have INF := Lib.hid (And.intro hi (And.intro hz0 (And.intro hz1 hz2)))
  clear hi hz0 hz1 hz2
  go_enter Try.func32, Try.ntmps32
  go_wp2_with fail
  refine A.out.mono ?_
  rintro e w1 ⟨rfl, hb1⟩
  have B1 : Aside (Below w.heap.size w w1) := hb1
  clear hb1
  go_wp2
  go_loopw [8, 25] (fun v i wr => ∃ k : Nat, k ≤ p ∧ i = .int .i64 k ∧ Aside (Below w.heap.size w wr) ∧ Aside (OwnR wr w.heap.size v k f g)) (fun _ i _ => n - (intOf i).toNat)
  case atStart => exact ⟨0, by omega, rfl, B1, World.ownsRow_nil _ _ _ _⟩
  case round =>
    clear B1
    obtain ⟨k, hk, rfl, HB, HO⟩ := hrel
    by_cases hlt : k < n
    · have hz : (k : Int) < (n : Int) := by omega
      obtain ⟨sb, off, ea, hbz, hcc⟩ := HS.out.at k (by rw [HL.out]; exact hlt)
      subst ea
      have hcell : wr.cell? ⟨sb, off + k, none⟩ = some (.int .i64 (xs.getD k 0)) := (HB.out.cell (p := ⟨sb, off + k, none⟩) hbz).trans (hcc k (by rw [HL.out]; exact hlt))
      have MK := CK.out k
      generalize xs.getD k 0 = x at hcell MK
      clear hcc
      go_wp2_with fail
      refine (MK _ hlt).mono ?_
      rintro e w3 ⟨rfl, hb3⟩
      have B3 := Lib.hid (bl_call HB.out hb3)
      have O3 := Lib.hid (HO.out.go hb3)
      clear hb3 HB HO hcell MK
      go_wp2_with fail
      refine (CM.out k _ hlt).mono ?_
      rintro e w4 ⟨rfl, hb4⟩
      have B4 := Lib.hid (bl_call (bl_alloc B3.out _) hb4)
      have O4 := Lib.hid ((O3.out.go (bl_alloc (Below.refl _ _) _)).go hb4)
      clear hb4 B3 O3
      by_cases hkp : k < p
      · have e0 := E0.out k hkp
        rw [e0]
        clear e0
        obtain ⟨hi, hz0, hz1, hz2⟩ := INF.out
        go_wp2_with (first | (at_builtin; refine wpList_append_own _ rfl _ _ 53 rfl w.heap.size 24 i0 (.agg #[.int .i64 0, .int .i64 0]) 2 16 Try.underlying53 hi hz0 hz1 hz2 rfl (by decide) _ _ _ rfl (World.ownsRow.alloc (h := World.ownsRow.alloc (h := O4.out) _) _) ⟨w4.heap.size + 1, 0, none⟩ 1 1 [.int .i64 (f k), .int .i64 (g k)] rfl rfl ?c1 ?c2 ?c3 ?c4 ?c5 ?_))
        case c1 =>
          intro j u hj
          match j, hj with
          | 0, hj => simp at hj; subst hj; simp [Addr.add]
          | 1, hj => simp at hj; subst hj; simp [Addr.add]
        case c2 => intro u hu; simp at hu; rcases hu with rfl | rfl <;> rfl
        case c3 => unfold maxLen; omega
        case c4 => omega
        case c5 => have := B4.out.size; simp; omega
        intro v' w5 hown' hgrow _
        have O5 : Aside (OwnR w5 w.heap.size v' (k + 1) f g) := by show OwnR _ _ _ _ _ _; unfold OwnR; rw [flatR_snoc]; exact hown'
        have B5 : Aside (Below w.heap.size w w5) := (bl_alloc (bl_alloc B4.out _) _).grown hgrow (by have := B4.out.size; simp; omega) (fun j hj => by have := (World.ownsRow.lt (h := O4.out) j hj).1; omega)
        clear hown' hgrow O4 B4 hi hz0 hz1 hz2
        go_wp2
        go_roundw
        case rel => exact ⟨k + 1, by omega, by go_num, B5, O5⟩
        case measure => simp [intOf]; omega
      · obtain rfl : k = p := by omega
        have e2 := E2.out hlt
        rw [e2]
        clear e2 O4
        go_wp2
        refine bodyPost_ret (v := .tuple #[.slice none 0 0, .int .i64 2]) (by simp [results, Try.results32, go_sem]) rfl ⟨bl_alloc B4.out _, .inl ⟨hlt, rfl⟩⟩
    · obtain rfl : k = n := by omega
      obtain rfl : p = k := by omega
      have hz : ¬ (p : Int) < (p : Int) := by omega
      obtain ⟨b, c, hv, hb, hr⟩ := HO.out.row hn0
      subst hv
      go_wp2
      refine bodyPost_ret (v := .tuple #[.slice (some ⟨b, 0, none⟩) p c, .int .i64 0]) (by simp [results, Try.results32, go_sem]) rfl ⟨HB.out, .inr ⟨rfl, b, c, rfl, hb, hr⟩⟩
set_option maxRecDepth 100000 in
set_option maxHeartbeats 1000000 in
theorem run_ratEq (a b c d : Int) (w : World) : (Op.equalIn 10000 24 (.agg #[.int .i64 a, .int .i64 b]) (.agg #[.int .i64 c, .int .i64 d])).run Try.prog w = .ok ((a == c) && ((b == d) && true)) w := by
  have hp : Try.prog.stoodInHeld 24 = false := by kernel_rfl
  have hu := Try.underlying24
  have hf : Try.prog.underlying 24 = some (.struct (Try.prog.fieldsOf 24)) := by unfold Program.fieldsOf; rw [hu]
  have hfs : (Try.prog.fieldsOf 24).toList = (match Try.prog.underlying 24 with | some (.struct fs) => fs | _ => #[]).toList := rfl
  rw [show (10000 : Nat) = 9999 + 1 from rfl, run_equalIn_agg w 9999 _ _ _ hf hp, hfs, hu]
  have st : ∀ {d : Nat} {xs ys : Array Value} {f : Field} {fs : List Field} {w : World} {a b : Value} {r s : Bool}, f.name ≠ "_" → (part f.type xs f.offset).run Try.prog w = .ok a w → (part f.type ys f.offset).run Try.prog w = .ok b w →
      (Op.equalIn d f.type a b).run Try.prog w = .ok r w → (Op.eqFields d xs ys fs).run Try.prog w = .ok s w → (Op.eqFields d xs ys (f :: fs)).run Try.prog w = .ok (r && s) w := by
    intro d xs ys f fs w a b r s hn ha hb hr hs
    simp only [Op.eqFields, if_pos hn, Sem.run_bind, ha, hb, hr, Result.andThen_ok, Sem.run_ite, hs]
    cases r <;> simp
  refine st (by decide) (by kernel_rfl) (by kernel_rfl) (run_equalIn_int w 9998 _ .i64 .i64 _ _ Try.underlying2) ?_
  refine st (by decide) (by kernel_rfl) (by kernel_rfl) (run_equalIn_int w 9998 _ .i64 .i64 _ _ Try.underlying2) ?_
  rfl
theorem run_ratSame (a b : Int) (w : World) : (Op.equalIn 10000 24 (.agg #[.int .i64 a, .int .i64 b]) (.agg #[.int .i64 a, .int .i64 b])).run Try.prog w = .ok true w := by
  rw [run_ratEq]; simp
theorem samer_empty (a b : Option Addr) (ca cb : Nat) (w : World) :
    Calls Try.prog 33 #[.slice a 0 ca, .slice b 0 cb] w fun e w' => e = .returned (.bool true) ∧ Below w.heap.size w w' := by
  go_enter Try.func33, Try.ntmps33
  go_wp2
  refine wp_loop_rounds 1 ?_
  rw [rounds_succ]
  go_wp2
  go_ret
  exact ⟨rfl, Below.refl _ _⟩
set_option maxHeartbeats 1000000 in
theorem samer_some (n : Nat) (f g : Nat → Int) (b c ca cb : Nat) (w : World) (hn : n ≤ 4096) (h1 : RowF w b (n * 2) (cellR f g n)) (h2 : RowF w c (n * 2) (cellR f g n)) :
    Calls Try.prog 33 #[.slice (some ⟨b, 0, none⟩) n ca, .slice (some ⟨c, 0, none⟩) n cb] w fun e w' => e = .returned (.bool true) ∧ Below w.heap.size w w' := by
  have H1 := Lib.hid h1
  have H2 := Lib.hid h2
  have hq := run_ratSame
  clear h1 h2
  go_enter Try.func33, Try.ntmps33
  go_wp2
  go_loopw [13] (fun i wr => ∃ k : Nat, k ≤ n ∧ i = .int .i64 k ∧ Aside (Below w.heap.size w wr)) (fun i _ => n - (intOf i).toNat)
  case atStart => exact ⟨0, by omega, rfl, Below.refl _ _⟩
  case round =>
    obtain ⟨k, hk, rfl, HB⟩ := hrel
    by_cases hlt : k < n
    · have hz : (k : Int) < (n : Int) := by omega
      have c1 := ((H1.out.go HB.out) (k * 2) (by omega)).1
      have c2 := ((H1.out.go HB.out) (k * 2 + 1) (by omega)).1
      have c3 := ((H2.out.go HB.out) (k * 2) (by omega)).1
      have c4 := ((H2.out.go HB.out) (k * 2 + 1) (by omega)).1
      rw [cellR_a hlt] at c1 c3
      rw [cellR_b hlt] at c2 c4
      generalize f k = x at c1 c3
      generalize g k = y at c2 c4
      go_wp2
      go_quiet (fail)
      go_wp2
      go_roundw
      case rel => exact ⟨k + 1, by omega, by go_num, bl_drewN HB.out _⟩
      case measure => simp [intOf]; omega
    · have hz : ¬ (k : Int) < (n : Int) := by omega
      go_wp2
      go_ret
      exact ⟨rfl, HB.out⟩
end Go.Proofs.Ytkejohmghacdhaa
/- The document's split and exact shares, and the program's exact shares: what they return. -/
namespace Go.Proofs.Ytkejohmghacdhaa
set_option linter.unusedVariables false
set_option linter.unusedSimpArgs false
open Go Go.RowKit
theorem rank_key {ws : List Int} (h : WOk ws) (a : Int) {i j : Nat} (hi : i < ws.length) (hj : j < ws.length) (hr : rank (shR a ws) i < rank (shR a ws) j) :
    (shR a ws).getD j 0 < (shR a ws).getD i 0 ∨ ((shR a ws).getD i 0 = (shR a ws).getD j 0 ∧ i < j) := by
  have k := key_of_rank hr
  have := h.len
  unfold key at k
  omega
set_option maxRecDepth 100000 in
set_option maxHeartbeats 1000000 in
theorem rsplit_no (a : Int) (ws : List Int) (ad : Option Addr) (cap : Nat) (w : World) (hn : ws.length ≤ 9223372036854775807) (hx : ∀ k, k < ws.length → In (ws.getD k 0)) (hs : SlI .i64 w ad ws) (hE : allE ws ≠ 0) :
    Calls Try.prog 30 #[.int .i64 a, .slice ad ws.length cap] w fun e w' => e = .returned (.tuple #[.slice none 0 0, .int .i64 (allE ws)]) ∧ Below w.heap.size w w' := by
  have A := Lib.hid (rall_any ws ad cap w hn hx hs)
  clear hx hs
  have hz : (allE ws == 0) = false := by simpa using hE
  generalize allE ws = u at *
  generalize rallN ws = v at *
  generalize ws.length = n at *
  go_enter Try.func30, Try.ntmps30
  go_wp2_with fail
  refine A.out.mono ?_
  rintro e w1 ⟨rfl, hb1⟩
  go_wp2
  refine bodyPost_ret (v := .tuple #[.slice none 0 0, .int .i64 u]) (by simp [results, Try.results30, go_sem]) rfl ⟨rfl, hb1⟩
set_option maxRecDepth 100000 in
set_option maxHeartbeats 1000000 in
theorem rexact_no (a : Int) (ws : List Int) (ad : Option Addr) (cap : Nat) (w : World) (hn : ws.length ≤ 9223372036854775807) (hx : ∀ k, k < ws.length → In (ws.getD k 0)) (hs : SlI .i64 w ad ws) (hE : allE ws ≠ 0) :
    Calls Try.prog 32 #[.int .i64 a, .slice ad ws.length cap] w fun e w' => e = .returned (.tuple #[.slice none 0 0, .int .i64 (allE ws)]) ∧ Below w.heap.size w w' := by
  have A := Lib.hid (rall_any ws ad cap w hn hx hs)
  clear hx hs
  have hz : (allE ws == 0) = false := by simpa using hE
  generalize allE ws = u at *
  generalize rallN ws = v at *
  generalize ws.length = n at *
  go_enter Try.func32, Try.ntmps32
  go_wp2_with fail
  refine A.out.mono ?_
  rintro e w1 ⟨rfl, hb1⟩
  go_wp2
  refine bodyPost_ret (v := .tuple #[.slice none 0 0, .int .i64 u]) (by simp [results, Try.results32, go_sem]) rfl ⟨rfl, hb1⟩
set_option maxRecDepth 100000 in
set_option maxHeartbeats 1000000 in
theorem exact_no (a : Int) (ws : List Int) (ad : Option Addr) (cap : Nat) (w : World) (hn : ws.length ≤ 9223372036854775807) (hx : ∀ k, k < ws.length → In (ws.getD k 0)) (hs : SlI .i64 w ad ws) (hE : allE ws ≠ 0) :
    Calls Try.prog 31 #[.int .i64 a, .slice ad ws.length cap] w fun e w' => e = .returned (.tuple #[.slice none 0 0, .int .i64 (allE ws)]) ∧ Below w.heap.size w w' := by
  have A := Lib.hid (all_any ws ad cap w hn hx hs)
  clear hx hs
  have hz : (allE ws == 0) = false := by simpa using hE
  generalize allE ws = u at *
  generalize allN ws = v at *
  generalize ws.length = n at *
  go_enter Try.func31, Try.ntmps31
  go_wp2_with fail
  refine A.out.mono ?_
  rintro e w1 ⟨rfl, hb1⟩
  go_wp2
  refine bodyPost_ret (v := .tuple #[.slice none 0 0, .int .i64 u]) (by simp [results, Try.results31, go_sem]) rfl ⟨rfl, hb1⟩
theorem rmuldiv_fit (a x c : Int) (w : World) (ha : In a) (hx : In x) (hc : In c) (h0 : 0 < c) (h : In (a * x / c)) :
    Calls Try.prog 57 #[.int .i64 a, .int .i64 x, .int .i64 c] w fun e w' => e = .returned (.tuple #[.int .i64 (a * x / c), .int .i64 (a * x % c), .int .i64 0]) ∧ Below w.heap.size w w' := by
  have := rmuldiv_any a x c w ha hx hc
  have hf : fitB (a * x / c) = true := by unfold fitB; exact decide_eq_true h
  unfold mdQ mdR mdE errN at this
  rwa [if_pos ⟨h0, hf⟩, if_pos ⟨h0, hf⟩, if_pos h0, if_pos hf] at this
def RSplitYes (a : Int) (ws : List Int) (w : World) (e : Ending) (w' : World) : Prop :=
  ∃ g cap, e = .returned (.tuple #[.slice (some ⟨g, 0, none⟩) ws.length cap, .int .i64 0]) ∧ RowF w' g ws.length (fun j => (shL a ws).getD j 0) ∧ Below w.heap.size w w'
theorem rsplit_yes (a : Int) (ws : List Int) (ad : Option Addr) (cap : Nat) (w : World) (hn : ws.length ≤ 9223372036854775807) (hx : ∀ k, k < ws.length → In (ws.getD k 0)) (hs : SlI .i64 w ad ws) (ha : In a) (hE : allE ws = 0) :
    Calls Try.prog 30 #[.int .i64 a, .slice ad ws.length cap] w (RSplitYes a ws w) := by
  obtain ⟨WO, _⟩ := wok_of hE
  have hA := rall_any ws ad cap w hn hx hs
  rw [hE, show rallN ws = sumI ws by unfold rallN; rw [if_pos hE]] at hA
  have hpos := WO.nonempty
  have hlen := WO.len
  have hS : In (sumI ws) := ⟨by have := WO.sum; omega, WO.fit⟩
  have hqi : ∀ k, k < ws.length → In (a * ws.getD k 0 / sumI ws) := fun k hk => by rw [← at_shQ hk]; exact WO.q_in ha hk
  have mb := WO.m_bd a
  obtain ⟨m, hm⟩ : ∃ m : Nat, shM a ws = m := ⟨(shM a ws).toNat, by omega⟩
  have hm' : (shM a ws).toNat = m := by omega
  have hRin : ∀ k, k < (shR a ws).length → In ((shR a ws).getD k 0) := fun k hk => by
    rw [at_shR (by simpa using hk)]
    have := WO.r_bd a (ws.getD k 0)
    have := WO.fit
    exact ⟨by omega, by omega⟩
  have hRW : InW (sumI (shR a ws)) := by
    have := sumI_take_In (shR a ws) (shR a ws).length hRin (by simp; omega)
    rwa [List.take_length] at this
  have hsum := WO.sumR a
  rw [hm] at hsum
  refine (rsplit_walk a (sumI ws) (sumI (shR a ws)) ws.length m ws (shQ a ws) (shR a ws) (fun k => a * ws.getD k 0 / sumI ws) (fun k => a * ws.getD k 0 % sumI ws) (rank (shR a ws)) ad cap w hpos hlen (by omega)
    ⟨rfl, by simp, by simp⟩ hs (fun k hk => ⟨at_shQ hk, at_shR hk⟩) hA
    (fun k W hk => rmuldiv_fit a _ _ W ha (hx k hk) hS WO.sum (hqi k hk))
    (fun b c W h => by have := rsums_any (shR a ws) b c W (by simp; omega) hRin h; rwa [len_shR] at this)
    (fun W => by
      have := rwdiv_any (sumI (shR a ws)) (sumI ws) W hRW hS
      have e1 : wdQ (sumI (shR a ws)) (sumI ws) = m := by unfold wdQ; rw [if_pos WO.sum, hsum]; exact Int.mul_ediv_cancel_left _ (by have := WO.sum; omega)
      have e2 : wdR (sumI (shR a ws)) (sumI ws) = 0 := by unfold wdR; rw [if_pos WO.sum, hsum]; exact Int.mul_emod_right _ _
      have e3 : wdE (sumI ws) = 0 := by have := WO.sum; unfold wdE; rw [if_neg (by omega), if_neg (by omega)]
      rwa [e1, e2, e3] at this)
    (fun W => by
      have hi : In (m : Int) := ⟨by omega, by omega⟩
      have := rfit_any (m : Int) W (InW_of_In hi)
      have hf : fitB (m : Int) = true := by unfold fitB; exact decide_eq_true hi
      unfold capN errN at this
      rwa [if_pos hf, if_pos hf] at this)
    (fun t b ht B => best_rank (fun j hj => by have := (WO.r_bd a (ws.getD j 0)).1; exact this) (fun i j hi hj h => by
      have := rank_key WO a hi hj h
      rwa [at_shR hi, at_shR hj] at this) (fun i j hi hj h => rank_inj (by simpa using hlen) (by simpa using hi) (by simpa using hj) h) (by
      obtain ⟨i, hi, h⟩ := rank_ex (rs := shR a ws) (by simpa using hlen) (t := t) (by simp; omega)
      exact ⟨i, by simpa using hi, h⟩) B)
    (fun j hj hrk => by
      have h1 := WO.l_in ha hj
      rw [at_shL hj, at_shQ hj, hm'] at h1
      unfold took at h1
      rw [if_pos hrk] at h1
      rw [IntKind.wrap_i64]
      unfold In at h1
      omega)
    (fun i j hi hj h => rank_inj (by simpa using hlen) (by simpa using hi) (by simpa using hj) h)).mono ?_
  rintro e w' ⟨g, c, h2, h3, h4⟩
  refine ⟨g, c, h2, h3.congr fun j hj => ?_, h4⟩
  rw [at_shL hj, at_shQ hj, hm']
  rfl
/-- the first one whose exact share doesn't fit -/
theorem first_bad (er : Nat → Int) (h : ∀ k, er k = 0 ∨ er k = 2) (n : Nat) : ∃ p, p ≤ n ∧ (∀ k, k < p → er k = 0) ∧ (p < n → er p = 2) := by
  induction n with
  | zero => exact ⟨0, Nat.le_refl _, fun k hk => by omega, fun h => by omega⟩
  | succ n ih =>
    obtain ⟨p, h1, h2, h3⟩ := ih
    by_cases hp : p < n
    · exact ⟨p, by omega, h2, fun _ => h3 hp⟩
    · obtain rfl : p = n := by omega
      rcases h p with h4 | h4
      · exact ⟨p + 1, Nat.le_refl _, fun k hk => by
          by_cases e : k = p
          · subst e; exact h4
          · exact h2 k (by omega), fun h => by omega⟩
      · exact ⟨p, by omega, h2, fun _ => h4⟩
theorem both_exact (a : Int) (ws : List Int) (ad : Option Addr) (cap : Nat) (hn : ws.length ≤ 9223372036854775807) (hx : ∀ k, k < ws.length → In (ws.getD k 0)) (ha : In a) (hE : allE ws = 0) :
    ∃ (p : Nat) (f g : Nat → Int), p ≤ ws.length ∧ (∀ w, SlI .i64 w ad ws → Calls Try.prog 31 #[.int .i64 a, .slice ad ws.length cap] w (ExOk ws.length p f g w)) ∧
      (∀ w, SlI .i64 w ad ws → Calls Try.prog 32 #[.int .i64 a, .slice ad ws.length cap] w (ExOk ws.length p f g w)) ∧ f = (fun k => exN a (sumI ws) (ws.getD k 0)) ∧ g = (fun k => exD a (sumI ws) (ws.getD k 0)) ∧ (∀ k, k < p → exE a (sumI ws) (ws.getD k 0) = 0) ∧ (p < ws.length → exE a (sumI ws) (ws.getD p 0) = 2) := by
  obtain ⟨WO, hN⟩ := wok_of hE
  obtain ⟨p, h1, h2, h3⟩ := first_bad (fun k => exE a (sumI ws) (ws.getD k 0)) (fun k => exE_02 _ _ _) ws.length
  refine ⟨p, fun k => exN a (sumI ws) (ws.getD k 0), fun k => exD a (sumI ws) (ws.getD k 0), h1, fun w hs => ?_, fun w hs => ?_, rfl, rfl, h2, h3⟩
  · have hA := all_any ws ad cap w hn hx hs
    rw [hE, hN] at hA
    exact exact_walk a (sumI ws) ws.length p ws (fun k => mkN (ws.getD k 0) (sumI ws)) (fun k => mkD (ws.getD k 0) (sumI ws)) _ _ (fun k => exE a (sumI ws) (ws.getD k 0)) ad cap w WO.nonempty WO.len h1 rfl hs h2 h3 hA
      (fun k W hk => ex_make WO.sum WO.fit (WO.x_bd hk).1 (WO.x_bd hk).2 W) (fun k W hk => ex_mul WO.sum WO.fit (WO.x_bd hk).1 (WO.x_bd hk).2 ha W)
  · have hA := rall_any ws ad cap w hn hx hs
    rw [hE, show rallN ws = sumI ws by unfold rallN; rw [if_pos hE]] at hA
    exact rexact_walk a (sumI ws) ws.length p ws (fun k => mkN (ws.getD k 0) (sumI ws)) (fun k => mkD (ws.getD k 0) (sumI ws)) _ _ (fun k => exE a (sumI ws) (ws.getD k 0)) ad cap w WO.nonempty WO.len h1 rfl hs h2 h3 hA
      (fun k W hk => ex_make3 WO.sum WO.fit (WO.x_bd hk).1 (WO.x_bd hk).2 W) (fun k W hk => ex_mul3 WO.sum WO.fit (WO.x_bd hk).1 (WO.x_bd hk).2 ha W)
end Go.Proofs.Ytkejohmghacdhaa
namespace Go.Proofs.Ytkejohmghacdhaa
set_option linter.unusedVariables false
set_option linter.unusedSimpArgs false
open Go Go.RowKit
theorem copy_hyp (xs : List Int) (p : Addr) (w : World) (hs : SlI .i64 w (some p) xs) : ∀ j u, (xs.map (Value.int .i64))[j]? = some u → w.cell? (p.add j) = some u := fun j u hu => by
  rw [List.getElem?_map] at hu
  have hj : j < xs.length := by
    rcases Nat.lt_or_ge j xs.length with h | h
    · exact h
    · rw [List.getElem?_eq_none h] at hu; cases hu
  rw [List.getElem?_eq_getElem hj] at hu
  simp only [Option.map_some, Option.some.injEq] at hu
  rcases hs with rfl | ⟨b', off', ea', h⟩
  · simp at hj
  · simp only [Option.some.injEq] at ea'
    subst ea'
    rw [Go.WideShapes.add_plain, h j hj, ← hu]
    simp [List.getD, hj]
/-- append([]int64(nil), w...): a copy -/
theorem wpList_copy_all {ops : Array Oper} {rest : List Oper} {o : Oper} {a : Act} {Q : Exit → Act → World → Prop} (w : World) (hg : o.guard = none) (s x : Operand) (ho : o.op = .call { callee := .builtin .append, args := #[s, x], argTypes := #[41, 41] })
    (ad : Option Addr) (n cap : Nat) (xs : List Int) (hl : xs.length = n) (hn : n ≤ 4100) (hs : a.eval s = .slice none 0 0) (hx : a.eval x = .slice ad n cap) (hS : SlI .i64 w ad xs) (hnone : ad = none → cap = 0)
    (h : ∀ v' w', OwnI w' w.heap.size v' xs → Below w.heap.size w w' → wpList Try.prog ops Q rest (a.put o.dst v') w') : wpList Try.prog ops Q (o :: rest) a w := by
  obtain ⟨i0, hi, hz0, hz1, hz2⟩ := info_parts info_i64
  cases ad with
  | none =>
    have hc := hnone rfl
    have hx0 : xs = [] := by
      rcases hS with h | ⟨_, _, h, _⟩
      · exact h
      · cases h
    subst hx0 hc
    have hn0 : n = 0 := by simpa using hl.symm
    subst hn0
    refine wpList_append_own_none hg s x 41 ho w.heap.size 2 i0 1 Try.underlying41 hi (.slice none 0 0) 0 [] hs (own_nil _ _) hx ?_
    exact h _ _ (own_nil _ _) (Below.refl _ _)
  | some p =>
    refine wpList_append_own w hg s x 41 ho w.heap.size 2 i0 (.int .i64 0) 1 8 Try.underlying41 hi hz0 hz1 hz2 rfl (by decide) (.slice none 0 0) 0 [] hs (own_nil _ _) p n cap (xs.map (Value.int .i64)) hx (by rw [List.length_map, hl]; omega) (copy_hyp xs p w hS) (by intro u hu; obtain ⟨y, _, rfl⟩ := List.mem_map.1 hu; rfl) (by unfold maxLen; omega) (by omega) (Nat.le_refl _) ?_
    intro v' w' hown' hgrow _
    refine h v' w' (by unfold OwnI; rw [hl]; simpa using hown') ((Below.refl _ _).grown hgrow (Nat.le_refl _) (fun j hj => by cases hj))
set_option maxRecDepth 100000 in
set_option maxHeartbeats 8000000 in
theorem does_bad (a u : Int) (n : Nat) (xs : List Int) (ad : Option Addr) (cap : Nat) (w : World) (hu : (u == 0) = false) (hle : n ≤ 4100) (HS : Hid (SlI .i64 w ad xs)) (HL : Hid (xs.length = n)) (HN : Hid (ad = none → cap = 0))
    (t : (decide ((60 : Int) < (n : Int)) = false ∧ decide ((4100 : Int) < (n : Int)) = false) ∨ (decide ((60 : Int) < (n : Int)) = true ∧ decide ((n : Int) ≤ 4096) = false ∧ decide ((4100 : Int) < (n : Int)) = false))
    (C1 : Hid (∀ w, SlI .i64 w ad xs → Calls Try.prog 26 #[.int .i64 a, .slice ad n cap] w fun e w' => e = .returned (.tuple #[.slice none 0 0, .int .i64 u]) ∧ Below w.heap.size w w'))
    (C2 : Hid (∀ w, SlI .i64 w ad xs → Calls Try.prog 30 #[.int .i64 a, .slice ad n cap] w fun e w' => e = .returned (.tuple #[.slice none 0 0, .int .i64 u]) ∧ Below w.heap.size w w'))
    (C3' : Hid (∀ w, SlI .i64 w ad xs → Calls Try.prog 31 #[.int .i64 a, .slice ad n cap] w fun e w' => e = .returned (.tuple #[.slice none 0 0, .int .i64 u]) ∧ Below w.heap.size w w'))
    (C4' : Hid (∀ w, SlI .i64 w ad xs → Calls Try.prog 32 #[.int .i64 a, .slice ad n cap] w fun e w' => e = .returned (.tuple #[.slice none 0 0, .int .i64 u]) ∧ Below w.heap.size w w')) :
    Calls Try.prog 11 #[.int .i64 a, .slice ad n cap] w fun e w' => e = .returned (.bool true) ∧ Below w.heap.size w w' := by
  have SW : Hid (∀ (va : Option Addr) (vc : Nat) W, SlI .i64 W ad xs → SlI .i64 W va xs → Calls Try.prog 29 #[.slice ad n cap, .slice va n vc] W fun e w' => e = .returned (.bool true) ∧ Below W.heap.size W w') := fun va vc W h1 h2 => by
    have := same_yes xs ad va cap vc W (by have := HL.out; omega) h1 h2
    rwa [HL.out] at this
  have SW := Lib.hid (fun va vc => SW.out va vc)
  rcases t with ⟨t1, t2⟩ | ⟨t1, t2, t3⟩
  all_goals
    go_enter Try.func11, Try.ntmps11
    go_wp2_with fail
    refine (live4 _).mono ?_
    rintro e w1 ⟨rfl, hb1⟩
    have s1 := Lib.hid (HS.out.go hb1)
    have B1 := Lib.hid hb1
    clear hb1
    go_wp2_with (first | (at_builtin; refine wpList_copy_all w1 rfl _ _ rfl ad n cap xs HL.out hle rfl rfl s1.out HN.out ?_))
    intro v2 w2 hown hb
    obtain ⟨va, vc, hv, vS, _⟩ := hown.shape
    rw [HL.out] at hv
    subst hv
    have SV := Lib.hid vS
    have S2 := Lib.hid (s1.out.go hb)
    have B2 := Lib.hid (bl_call B1.out hb)
    clear hown hb vS s1 B1

    go_wp2_with fail
    refine (C1.out _ S2.out).mono ?_
    rintro e w3 ⟨rfl, hb⟩
    have C3 := Lib.hid hb
    clear hb
    go_wp2_with fail
    refine (C2.out _ (S2.out.go C3.out)).mono ?_
    rintro e w4 ⟨rfl, hb⟩
    have C4 := Lib.hid (bl_call C3.out hb)
    clear hb C3
    go_wp2_with fail
    refine (C3'.out _ (S2.out.go C4.out)).mono ?_
    rintro e w5 ⟨rfl, hb⟩
    have C5 := Lib.hid (bl_call C4.out hb)
    clear hb C4
    go_wp2_with fail
    refine (C4'.out _ (S2.out.go C5.out)).mono ?_
    rintro e w6 ⟨rfl, hb⟩
    have C6 := Lib.hid (bl_call C5.out hb)
    clear hb C5

    go_wp2_with fail
    refine (same_empty none none 0 0 _).mono ?_
    rintro e w7 ⟨rfl, hb⟩
    have C7 := Lib.hid (bl_call C6.out hb)
    clear hb C6
    go_wp2_with fail
    refine (samer_empty none none 0 0 _).mono ?_
    rintro e w8 ⟨rfl, hb⟩
    have C8 : Aside (Below w2.heap.size w2 w8) := bl_call C7.out hb
    clear hb C7
    go_wp2
    refine wp_loop_rounds 1 ?_
    rw [rounds_succ]
    go_wp2_with fail
    refine (SW.out _ _ _ (S2.out.go C8.out) (SV.out.go C8.out)).mono ?_
    rintro e w9 ⟨rfl, hb⟩
    have C9 := Lib.hid (bl_call B2.out (bl_call C8.out hb))
    clear hb
    go_wp2
    go_ret
    exact ⟨rfl, C9.out⟩
set_option maxRecDepth 100000 in
set_option maxHeartbeats 8000000 in
theorem does_good (a : Int) (n p : Nat) (xs L : List Int) (f g : Nat → Int) (ad : Option Addr) (cap : Nat) (w : World) (hle : n ≤ 4100) (hn6 : n ≤ 60) (HS : Hid (SlI .i64 w ad xs)) (HL : Hid (xs.length = n)) (HLL : Hid (L.length = n)) (HN : Hid (ad = none → cap = 0))
    (C1 : Hid (∀ w, SlI .i64 w ad xs → Calls Try.prog 26 #[.int .i64 a, .slice ad n cap] w fun e w' => ∃ b, w.heap.size ≤ b ∧ e = .returned (.tuple #[.slice (some ⟨b, 0, none⟩) n n, .int .i64 0]) ∧ RowF w' b n (fun j => L.getD j 0) ∧ Below w.heap.size w w'))
    (C2 : Hid (∀ w, SlI .i64 w ad xs → Calls Try.prog 30 #[.int .i64 a, .slice ad n cap] w fun e w' => ∃ b c, e = .returned (.tuple #[.slice (some ⟨b, 0, none⟩) n c, .int .i64 0]) ∧ RowF w' b n (fun j => L.getD j 0) ∧ Below w.heap.size w w'))
    (E1 : Hid (∀ w, SlI .i64 w ad xs → Calls Try.prog 31 #[.int .i64 a, .slice ad n cap] w (ExOk n p f g w)))
    (E2 : Hid (∀ w, SlI .i64 w ad xs → Calls Try.prog 32 #[.int .i64 a, .slice ad n cap] w (ExOk n p f g w))) :
    Calls Try.prog 11 #[.int .i64 a, .slice ad n cap] w fun e w' => e = .returned (.bool true) ∧ Below w.heap.size w w' := by
  have SW : Hid (∀ (va : Option Addr) (vc : Nat) W, SlI .i64 W ad xs → SlI .i64 W va xs → Calls Try.prog 29 #[.slice ad n cap, .slice va n vc] W fun e w' => e = .returned (.bool true) ∧ Below W.heap.size W w') := fun va vc W h1 h2 => by
    have := same_yes xs ad va cap vc W (by have := HL.out; omega) h1 h2
    rwa [HL.out] at this
  have SM := Lib.hid (fun (a b : Option Addr) (ca cb : Nat) W h1 h2 => by
    have := same_yes L a b ca cb W (by rw [HLL.out]; omega) h1 h2
    rwa [HLL.out] at this)
  have SR : Hid (∀ W b, RowF W b n (fun j => L.getD j 0) → SlI .i64 W (some ⟨b, 0, none⟩) L) := fun W b h => RowF.sl (by rw [HLL.out]; exact h)
  have t1 : decide ((60 : Int) < (n : Int)) = false := decide_eq_false (by omega)
  have t2 : decide ((4100 : Int) < (n : Int)) = false := decide_eq_false (by omega)
  go_enter Try.func11, Try.ntmps11
  go_wp2_with fail
  refine (live4 _).mono ?_
  rintro e w1 ⟨rfl, hb1⟩
  have s1 := Lib.hid (HS.out.go hb1)
  have B1 := Lib.hid hb1
  clear hb1
  go_wp2_with (first | (at_builtin; refine wpList_copy_all w1 rfl _ _ rfl ad n cap xs HL.out hle rfl rfl s1.out HN.out ?_))
  intro v2 w2 hown hb
  obtain ⟨va, vc, hv, vS, _⟩ := hown.shape
  rw [HL.out] at hv
  subst hv
  have SV := Lib.hid vS
  have S2 := Lib.hid (s1.out.go hb)
  have B2 := Lib.hid (bl_call B1.out hb)
  clear hown hb vS s1 B1

  go_wp2_with fail
  refine (C1.out _ S2.out).mono ?_
  rintro e w3 ⟨bx, hbx, rfl, hr, hb⟩
  have C3 := Lib.hid hb
  have X3 := Lib.hid hr
  clear hb hr
  go_wp2_with fail
  refine (C2.out _ (S2.out.go C3.out)).mono ?_
  rintro e w4 ⟨b2, c2, rfl, hr, hb⟩
  have C4 := Lib.hid (bl_call C3.out hb)
  have X4 := Lib.hid (X3.out.go hb)
  have Y4 := Lib.hid hr
  clear hb hr C3 X3
  go_wp2_with fail
  refine (E1.out _ (S2.out.go C4.out)).mono ?_
  rintro e w5 ⟨hb, h5⟩
  have C5 := Lib.hid (bl_call C4.out hb)
  have X5 := Lib.hid (X4.out.go hb)
  have Y5 := Lib.hid (Y4.out.go hb)
  clear hb C4 X4 Y4
  rcases h5 with ⟨hp5, rfl⟩ | ⟨hp5, b5, c5, rfl, _, r5⟩
  · go_wp2_with fail
    refine (E2.out _ (S2.out.go C5.out)).mono ?_
    rintro e w6 ⟨hb, h6⟩
    have C6 := Lib.hid (bl_call C5.out hb)
    have X6 := Lib.hid (X5.out.go hb)
    have Y6 := Lib.hid (Y5.out.go hb)
    clear hb C5 X5 Y5
    rcases h6 with ⟨_, rfl⟩ | ⟨hp6, _⟩
    · go_wp2_with fail
      refine (SM.out _ _ _ _ _ (SR.out _ _ X6.out) (SR.out _ _ Y6.out)).mono ?_
      rintro e w7 ⟨rfl, hb⟩
      have C7 := Lib.hid (bl_call C6.out hb)
      have X7 := Lib.hid (X6.out.go hb)
      clear hb C6
      go_wp2_with fail
      refine (samer_empty none none 0 0 _).mono ?_
      rintro e w8 ⟨rfl, hb⟩
      have C8 : Aside (Below w2.heap.size w2 w8) := bl_call C7.out hb
      have X8 : Aside (∃ F, RowF w8 bx n F) := ⟨_, X7.out.go hb⟩
      clear hb C7 X7
      go_wp2
      go_loopw [77] (fun i wr => ∃ k : Nat, k ≤ n ∧ i = .int .i64 k ∧ Aside (Below w2.heap.size w2 wr) ∧ Aside (∃ F, RowF wr bx n F)) (fun i _ => n - (intOf i).toNat)
      case atStart => exact ⟨0, by omega, rfl, C8, X8⟩
      case round =>
        clear C8 X8
        obtain ⟨k, hk, rfl, C8, X8⟩ := hrel
        by_cases hlt : k < n
        · have hzk : (k : Int) < (n : Int) := by omega
          obtain ⟨F, hF⟩ := X8.out
          obtain ⟨o1, o2⟩ := hF k hlt
          generalize F k = y at o1
          have hF := Lib.hid hF
          clear X8
          go_upto_region 15 with fail
          have X9 : Aside (∃ F, RowF (wr.setCell ⟨bx, k, none⟩ _) bx n F) := ⟨_, hF.out.set k hlt (wrap64 (y + 1))⟩
          have C9 : Aside (Below w2.heap.size w2 (wr.setCell ⟨bx, k, none⟩ (.int .i64 (wrap64 (y + 1))))) := C8.out.setCell hbx _
          clear o1 o2 hF C8
          go_wp2
          go_roundw
          case rel => exact ⟨k + 1, by omega, by go_num, C9, X9⟩
          case measure => simp [intOf]; omega
        · have hzk : ¬ (k : Int) < (n : Int) := by omega
          go_wp2_with fail
          refine (SW.out _ _ _ (S2.out.go C8.out) (SV.out.go C8.out)).mono ?_
          rintro e w9 ⟨rfl, hb⟩
          have C9 := Lib.hid (bl_call B2.out (bl_call C8.out hb))
          clear hb
          go_wp2
          go_ret
          exact ⟨rfl, C9.out⟩
    · omega
  · have P5 := Lib.hid r5
    clear r5
    go_wp2_with fail
    refine (E2.out _ (S2.out.go C5.out)).mono ?_
    rintro e w6 ⟨hb, h6⟩
    have C6 := Lib.hid (bl_call C5.out hb)
    have X6 := Lib.hid (X5.out.go hb)
    have Y6 := Lib.hid (Y5.out.go hb)
    have P6 := Lib.hid (P5.out.go hb)
    clear hb C5 X5 Y5
    rcases h6 with ⟨hp6, _⟩ | ⟨_, b6, c6, rfl, _, r6⟩
    · omega
    · have Q6 := Lib.hid r6
      clear r6

      go_wp2_with fail
      refine (SM.out _ _ _ _ _ (SR.out _ _ X6.out) (SR.out _ _ Y6.out)).mono ?_
      rintro e w7 ⟨rfl, hb⟩
      have C7 := Lib.hid (bl_call C6.out hb)
      have X7 := Lib.hid (X6.out.go hb)
      have P7 := Lib.hid (P6.out.go hb)
      have Q7 := Lib.hid (Q6.out.go hb)
      clear hb C6
      go_wp2_with fail
      refine (samer_some n f g _ _ _ _ _ (by omega) P7.out Q7.out).mono ?_
      rintro e w8 ⟨rfl, hb⟩
      have C8 : Aside (Below w2.heap.size w2 w8) := bl_call C7.out hb
      have X8 : Aside (∃ F, RowF w8 bx n F) := ⟨_, X7.out.go hb⟩
      clear hb C7 X7
      go_wp2
      go_loopw [77] (fun i wr => ∃ k : Nat, k ≤ n ∧ i = .int .i64 k ∧ Aside (Below w2.heap.size w2 wr) ∧ Aside (∃ F, RowF wr bx n F)) (fun i _ => n - (intOf i).toNat)
      case atStart => exact ⟨0, by omega, rfl, C8, X8⟩
      case round =>
        clear C8 X8
        obtain ⟨k, hk, rfl, C8, X8⟩ := hrel
        by_cases hlt : k < n
        · have hzk : (k : Int) < (n : Int) := by omega
          obtain ⟨F, hF⟩ := X8.out
          obtain ⟨o1, o2⟩ := hF k hlt
          generalize F k = y at o1
          have hF := Lib.hid hF
          clear X8
          go_upto_region 15 with fail
          have X9 : Aside (∃ F, RowF (wr.setCell ⟨bx, k, none⟩ _) bx n F) := ⟨_, hF.out.set k hlt (wrap64 (y + 1))⟩
          have C9 : Aside (Below w2.heap.size w2 (wr.setCell ⟨bx, k, none⟩ (.int .i64 (wrap64 (y + 1))))) := C8.out.setCell hbx _
          clear o1 o2 hF C8
          go_wp2
          go_roundw
          case rel => exact ⟨k + 1, by omega, by go_num, C9, X9⟩
          case measure => simp [intOf]; omega
        · have hzk : ¬ (k : Int) < (n : Int) := by omega
          go_wp2_with fail
          refine (SW.out _ _ _ (S2.out.go C8.out) (SV.out.go C8.out)).mono ?_
          rintro e w9 ⟨rfl, hb⟩
          have C9 := Lib.hid (bl_call B2.out (bl_call C8.out hb))
          clear hb
          go_wp2
          go_ret
          exact ⟨rfl, C9.out⟩
set_option maxRecDepth 100000 in
theorem does_long (a : Int) (n : Nat) (ad : Option Addr) (cap : Nat) (w : World) (h : (60 < n ∧ n ≤ 4096) ∨ 4100 < n) :
    Calls Try.prog 11 #[.int .i64 a, .slice ad n cap] w fun e w' => e = .returned (.bool true) ∧ Below w.heap.size w w' := by
  rcases h with ⟨h1, h2⟩ | h1
  · have t1 : decide ((60 : Int) < (n : Int)) = true := decide_eq_true (by omega)
    have t2 : decide ((n : Int) ≤ 4096) = true := decide_eq_true (by omega)
    have t3 : decide (n ≤ 4096) = true := decide_eq_true (by omega)
    go_enter Try.func11, Try.ntmps11
    go_wp2_with fail
    refine (live4 _).mono ?_
    rintro e w1 ⟨rfl, hb1⟩
    go_wp2_with fail
    go_ret
    exact ⟨rfl, (by repeat (with_reducible (first | exact Below.refl _ _ | assumption | refine bl_alloc ?_ _ | refine bl_drewN ?_ _ | refine bl_drew ?_ | refine bl_call ?_ (by assumption) | (refine bl_setCell ?_ _ (Nat.le_refl _)) | (refine bl_setCell ?_ _ (by first | omega | (simp; done) | (simp; omega))))))⟩
  · have t1 : decide ((60 : Int) < (n : Int)) = true := decide_eq_true (by omega)
    have t2 : decide ((n : Int) ≤ 4096) = false := decide_eq_false (by omega)
    have t2' : decide ((4100 : Int) < (n : Int)) = true := decide_eq_true (by omega)
    go_enter Try.func11, Try.ntmps11
    go_wp2_with fail
    refine (live4 _).mono ?_
    rintro e w1 ⟨rfl, hb1⟩
    go_wp2_with fail
    go_ret
    exact ⟨rfl, (by repeat (with_reducible (first | exact Below.refl _ _ | assumption | refine bl_alloc ?_ _ | refine bl_drewN ?_ _ | refine bl_drew ?_ | refine bl_call ?_ (by assumption) | (refine bl_setCell ?_ _ (Nat.le_refl _)) | (refine bl_setCell ?_ _ (by first | omega | (simp; done) | (simp; omega))))))⟩
theorem shareDoes_any (a : Int) (xs : List Int) (ad : Option Addr) (cap : Nat) (w : World) (ha : In a) (hn : xs.length ≤ 9223372036854775807) (hx : ∀ k, k < xs.length → In (xs.getD k 0)) (hs : SlI .i64 w ad xs) (hnone : ad = none → cap = 0) :
    Calls Try.prog 11 #[.int .i64 a, .slice ad xs.length cap] w fun e w' => e = .returned (.bool true) ∧ Below w.heap.size w w' := by
  by_cases h : (60 < xs.length ∧ xs.length ≤ 4096) ∨ 4100 < xs.length
  · exact does_long a xs.length ad cap w h
  by_cases hE : allE xs = 0
  · have h60 : xs.length ≤ 60 := by have := (wok_of hE).1.len; omega
    obtain ⟨p, f, g, _, e1, e2, _⟩ := both_exact a xs ad cap hn hx ha hE
    exact does_good a xs.length p xs (shL a xs) f g ad cap w (by omega) h60 hs rfl (show (shL a xs).length = xs.length by simp) hnone (fun w h => split_yes a xs ad cap w hn hx h ha hE) (fun w h => rsplit_yes a xs ad cap w hn hx h ha hE) e1 e2
  · refine does_bad a (allE xs) xs.length xs ad cap w (by simpa using hE) (by omega) hs rfl hnone ?_ (fun w h => split_no a xs ad cap w hn hx h hE) (fun w h => rsplit_no a xs ad cap w hn hx h hE) (fun w h => exact_no a xs ad cap w hn hx h hE) (fun w h => rexact_no a xs ad cap w hn hx h hE)
    by_cases h6 : xs.length ≤ 60
    · exact .inl ⟨decide_eq_false (by omega), decide_eq_false (by omega)⟩
    · exact .inr ⟨decide_eq_true (by omega), decide_eq_false (by omega), decide_eq_false (by omega)⟩
end Go.Proofs.Ytkejohmghacdhaa
