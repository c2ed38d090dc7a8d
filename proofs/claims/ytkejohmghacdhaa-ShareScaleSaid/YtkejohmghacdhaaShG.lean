/- Weights that are as many times greater; a weight of 0 more: in plain numbers. -/
import Derived.Test.YtkejohmghacdhaaShF
namespace Go.Proofs.Ytkejohmghacdhaa
set_option linter.unusedVariables false
set_option linter.unusedSimpArgs false
open Go Go.RowKit
def insZ (k : Nat) (xs : List Int) : List Int := xs.take k ++ 0 :: xs.drop k
theorem len_insZ {k : Nat} {xs : List Int} (h : k ≤ xs.length) : (insZ k xs).length = xs.length + 1 := by simp [insZ]; omega
theorem insZ_map {k : Nat} (xs : List Int) {f : Int → Int} (h : f 0 = 0) : (insZ k xs).map f = insZ k (xs.map f) := by simp [insZ, h]
/-- where the j-th one stands then -/
def shf (k j : Nat) : Nat := if j < k then j else j + 1
theorem at_insZ {k j : Nat} {xs : List Int} (hk : k ≤ xs.length) : (insZ k xs).getD (shf k j) 0 = xs.getD j 0 := by
  unfold insZ shf
  simp only [List.getD]
  by_cases h : j < k
  · rw [if_pos h, List.getElem?_append_left (by simp; omega), List.getElem?_take, if_pos h]
  · rw [if_neg h, List.getElem?_append_right (by simp; omega)]
    rw [List.length_take, Nat.min_eq_left hk, show j + 1 - k = (j - k) + 1 by omega, List.getElem?_cons_succ, List.getElem?_drop, show k + (j - k) = j by omega]
theorem at_insZ_k {k : Nat} {xs : List Int} (hk : k ≤ xs.length) : (insZ k xs).getD k 0 = 0 := by
  unfold insZ
  simp only [List.getD]
  rw [List.getElem?_append_right (by simp; omega), List.length_take, Nat.min_eq_left hk, Nat.sub_self]
  rfl
theorem insZ_ext {k : Nat} {xs ys : List Int} (hk : k ≤ xs.length) (hl : ys.length = xs.length + 1) (h0 : ys.getD k 0 = 0) (h : ∀ j, j < xs.length → ys.getD (shf k j) 0 = xs.getD j 0) : ys = insZ k xs := by
  apply List.ext_getElem (by rw [hl, len_insZ hk])
  intro i h1 h2
  have e : ∀ (l : List Int) (hi : i < l.length), l[i] = l.getD i 0 := fun l hi => by simp [List.getD, hi]
  rw [e, e]
  by_cases hi : i < k
  · have := h i (by omega)
    have e2 : shf k i = i := by unfold shf; rw [if_pos hi]
    rw [e2] at this
    have a := at_insZ (j := i) hk
    rw [e2] at a
    rw [this, a]
  · by_cases hik : i = k
    · subst hik; rw [h0, at_insZ_k hk]
    · have e2 : shf k (i - 1) = i := by unfold shf; rw [if_neg (by omega)]; omega
      have := h (i - 1) (by omega)
      rw [e2] at this
      have a := at_insZ (j := i - 1) hk
      rw [e2] at a
      rw [this, a]
theorem sumI_insZ (k : Nat) (xs : List Int) : sumI (insZ k xs) = sumI xs := by
  unfold insZ
  rw [sumI_append]
  conv => rhs; rw [← List.take_append_drop k xs, sumI_append]
  show _ + (0 + sumI _) = _
  omega
theorem sumI_times (xs : List Int) (c : Int) : sumI (xs.map (· * c)) = sumI xs * c := by
  induction xs with
  | nil => simp [sumI]
  | cons x r ih => show x * c + sumI _ = (x + sumI r) * c; rw [ih, Int.add_mul]
theorem negB_times (xs : List Int) {c : Int} (hc : 0 < c) : negB (xs.map (· * c)) = negB xs := by
  unfold negB
  rw [List.any_map]
  congr 1
  funext x
  show decide (x * c < 0) = decide (x < 0)
  congr 1
  apply propext
  constructor
  · intro h
    rcases Int.lt_or_le x 0 with h1 | h1
    · exact h1
    · have := Int.mul_nonneg h1 (Int.le_of_lt hc); omega
  · intro h
    exact Int.mul_neg_of_neg_of_pos h hc
theorem negB_insZ (k : Nat) (xs : List Int) : negB (insZ k xs) = negB xs := by
  unfold insZ negB
  rw [List.any_append, List.any_cons]
  conv => rhs; rw [← List.take_append_drop k xs, List.any_append]
  simp
theorem sum_small (xs : List Int) (h : ∀ j, j < xs.length → -2147483648 ≤ xs.getD j 0 ∧ xs.getD j 0 ≤ 2147483647) : -(2147483648 * (xs.length : Int)) ≤ sumI xs ∧ sumI xs ≤ 2147483648 * (xs.length : Int) := by
  induction xs with
  | nil => simp [sumI]
  | cons x r ih =>
    have h1 := ih fun j hj => by have := h (j + 1) (by simp; omega); simpa using this
    have h2 := h 0 (by simp)
    simp only [List.getD_cons_zero] at h2
    show -(2147483648 * ((r.length + 1 : Nat) : Int)) ≤ x + sumI r ∧ x + sumI r ≤ 2147483648 * ((r.length + 1 : Nat) : Int)
    omega
theorem allE_small {xs : List Int} (hl : xs.length ≤ 4096) (hs : In (sumI xs)) : allE xs = if negB xs = true then 1 else if sumI xs = 0 then 3 else 0 := by
  unfold allE errN
  rw [if_neg (by omega)]
  have : fitB (sumI xs) = true := by unfold fitB; exact decide_eq_true hs
  rw [this]; rfl
section
variable {xs : List Int} (hl : xs.length ≤ 60) (h : ∀ j, j < xs.length → -2147483648 ≤ xs.getD j 0 ∧ xs.getD j 0 ≤ 2147483647)
include hl h
theorem sum_fits : In (sumI xs) := by have := sum_small xs h; unfold In; omega
theorem sum_fits_times {c : Int} (h0 : 0 < c) (h1 : c ≤ 65535) : In (sumI xs * c) := by
  have b := sum_small xs h
  have b1 : sumI xs ≤ 128849018880 := by omega
  have b2 : -128849018880 ≤ sumI xs := by omega
  have m1 := Int.mul_le_mul_of_nonneg_right b1 (Int.le_of_lt h0)
  have m2 := Int.mul_le_mul_of_nonneg_right b2 (Int.le_of_lt h0)
  unfold In; omega
theorem allE_times {c : Int} (h0 : 0 < c) (h1 : c ≤ 65535) : allE (xs.map (· * c)) = allE xs := by
  rw [allE_small (by simp; omega) (by rw [sumI_times]; exact sum_fits_times hl h h0 h1), allE_small (by omega) (sum_fits hl h), negB_times xs h0, sumI_times]
  by_cases hn : negB xs = true
  · rw [if_pos hn, if_pos hn]
  · rw [if_neg hn, if_neg hn]
    by_cases hs : sumI xs = 0
    · rw [if_pos hs, if_pos (by rw [hs]; simp)]
    · rw [if_neg hs, if_neg]
      intro h2
      rcases Int.mul_eq_zero.1 h2 with h3 | h3
      · exact hs h3
      · omega
theorem allE_insZ {k : Nat} (hk : k ≤ xs.length) : allE (insZ k xs) = allE xs := by
  rw [allE_small (by rw [len_insZ hk]; omega) (by rw [sumI_insZ]; exact sum_fits hl h), allE_small (by omega) (sum_fits hl h), negB_insZ, sumI_insZ]
end
section
variable {xs : List Int} (hl : xs.length ≤ 60)
include hl
theorem shL_times {c : Int} (a : Int) (h0 : 0 < c) (h1 : c ≤ 65535) (WO : WOk xs) : shL a (xs.map (· * c)) = shL a xs := by
  have hS := WO.sum
  have eS := sumI_times xs c
  have eQ : shQ a (xs.map (· * c)) = shQ a xs := by
    unfold shQ
    rw [List.map_map, eS]
    apply List.map_congr_left
    intro x _
    show a * (x * c) / (sumI xs * c) = _
    rw [← Int.mul_assoc]
    exact Int.mul_ediv_mul_of_pos_left _ _ h0
  have eR : shR a (xs.map (· * c)) = (shR a xs).map (· * c) := by
    unfold shR
    rw [List.map_map, List.map_map, eS]
    apply List.map_congr_left
    intro x _
    show a * (x * c) % (sumI xs * c) = a * x % sumI xs * c
    rw [← Int.mul_assoc, Int.mul_comm (a * x) c, Int.mul_comm (sumI xs) c, Int.mul_comm (a * x % sumI xs) c]
    exact Int.mul_emod_mul_of_pos _ _ h0
  have eM : shM a (xs.map (· * c)) = shM a xs := by unfold shM; rw [eQ]
  unfold shL
  rw [eQ, eR, eM, List.length_map]
  apply List.map_congr_left
  intro i hi
  have hi' : i < xs.length := by simpa using hi
  congr 1
  unfold took
  have : rank ((shR a xs).map (· * c)) i = rank (shR a xs) i := by
    unfold rank
    rw [List.length_map]
    apply List.countP_congr
    intro j hj
    have hj' : j < xs.length := by simpa using hj
    have em : ∀ t, t < xs.length → ((shR a xs).map (· * c)).getD t 0 = (shR a xs).getD t 0 * c := fun t ht => by simp [List.getD, ht]
    unfold key
    rw [em i hi', em j hj']
    generalize (shR a xs).getD i 0 = p
    generalize (shR a xs).getD j 0 = q
    simp only [decide_eq_true_eq]
    constructor
    · intro hlt
      rcases Int.lt_trichotomy p q with h2 | h2 | h2
      · omega
      · subst h2; omega
      · exfalso
        have := Int.mul_le_mul_of_nonneg_right (show q + 1 ≤ p by omega) (Int.le_of_lt h0)
        rw [Int.add_mul] at this
        omega
    · intro hlt
      rcases Int.lt_trichotomy p q with h2 | h2 | h2
      · have := Int.mul_le_mul_of_nonneg_right (show p + 1 ≤ q by omega) (Int.le_of_lt h0)
        rw [Int.add_mul] at this
        omega
      · subst h2; omega
      · omega
  rw [this]
theorem wok_insZ {k : Nat} (hk : k ≤ xs.length) (WO : WOk xs) : WOk (insZ k xs) :=
  ⟨by rw [len_insZ hk]; omega, fun x hx => by
    unfold insZ at hx
    rcases List.mem_append.1 hx with h1 | h1
    · exact WO.pos x (List.mem_of_mem_take h1)
    · rcases List.mem_cons.1 h1 with rfl | h1
      · omega
      · exact WO.pos x (List.mem_of_mem_drop h1), by rw [sumI_insZ]; exact WO.sum, by rw [sumI_insZ]; exact WO.fit⟩
theorem shL_insZ {k : Nat} (a : Int) (hk : k ≤ xs.length) (WO : WOk xs) : shL a (insZ k xs) = insZ k (shL a xs) := by
  have W2 := wok_insZ hl hk WO
  have eS := sumI_insZ k xs
  have eQ : shQ a (insZ k xs) = insZ k (shQ a xs) := by unfold shQ; rw [eS]; exact insZ_map xs (by simp)
  have eR : shR a (insZ k xs) = insZ k (shR a xs) := by unfold shR; rw [eS]; exact insZ_map xs (by simp)
  have eM : shM a (insZ k xs) = shM a xs := by unfold shM; rw [eQ, sumI_insZ]
  have hk1 : k ≤ (shQ a xs).length := by rw [len_shQ]; exact hk
  have hk2 : k ≤ (shR a xs).length := by rw [len_shR]; exact hk
  refine insZ_ext (by rw [len_shL]; exact hk) (by rw [len_shL, len_shL, len_insZ hk]) ?_ (fun j hj => ?_)
  · rw [at_shL (by rw [len_insZ hk]; omega), eQ, at_insZ_k hk1]
    have t : ¬ rank (shR a (insZ k xs)) k < (shM a (insZ k xs)).toNat := fun ht => by
      have := took_pos W2 a (by rw [len_insZ hk]; omega) ht
      rw [eR, at_insZ_k hk2] at this; omega
    unfold took
    rw [if_neg t]; rfl
  · have hj' : j < xs.length := by rw [len_shL] at hj; exact hj
    have hs : shf k j < (insZ k xs).length := by rw [len_insZ hk]; unfold shf; split <;> omega
    rw [at_shL hs, at_shL hj', eQ, at_insZ hk1]
    congr 1
    by_cases hp : 0 < (shR a xs).getD j 0
    · have er : rank (shR a (insZ k xs)) (shf k j) = rank (shR a xs) j := by
        rw [eR]
        unfold rank
        rw [len_insZ hk2]
        have hn : (shR a xs).length = k + ((shR a xs).length - k) := by omega
        generalize (shR a xs).length - k = m at hn
        have kk : ∀ i, decide (key (insZ k (shR a xs)) (shf k i) < key (insZ k (shR a xs)) (shf k j)) = decide (key (shR a xs) i < key (shR a xs) j) ∨ 60 ≤ i := fun i => by
          by_cases hi : 60 ≤ i
          · exact .inr hi
          · refine .inl ?_
            unfold key
            rw [at_insZ hk2, at_insZ hk2]
            have := WO.len
            generalize (shR a xs).getD i 0 = p
            generalize (shR a xs).getD j 0 = q
            apply Bool.eq_iff_iff.2
            simp only [decide_eq_true_eq]
            unfold shf
            split <;> split <;> omega
        have e1 : List.range (k + (m + 1)) = List.range k ++ (List.range (m + 1)).map (k + ·) := List.range_add
        have e2 : List.range (k + m) = List.range k ++ (List.range m).map (k + ·) := List.range_add
        rw [hn, Nat.add_assoc, e1, e2, List.countP_append, List.countP_append]
        congr 1
        · apply List.countP_congr
          intro i hi
          have hi' : i < k := by simpa using hi
          have := kk i
          rw [show shf k i = i by unfold shf; rw [if_pos hi']] at this
          rcases this with h3 | h3
          · rw [h3]
          · omega
        · rw [List.range_succ_eq_map, List.map_cons, List.countP_cons, List.map_map, List.countP_map, List.countP_map]
          have z : decide (key (insZ k (shR a xs)) (k + 0) < key (insZ k (shR a xs)) (shf k j)) = false := by
            unfold key
            rw [Nat.add_zero, at_insZ_k hk2, at_insZ hk2]
            have := WO.len
            apply decide_eq_false
            unfold shf
            split <;> omega
          rw [z]
          simp only [Bool.false_eq_true, if_false, Nat.add_zero]
          apply List.countP_congr
          intro i hi
          have hi' : i < m := by simpa using hi
          have hx : (shR a xs).length = xs.length := by simp
          have := kk (k + i)
          rw [show shf k (k + i) = k + (i + 1) by unfold shf; rw [if_neg (by omega)]; omega] at this
          rcases this with h3 | h3
          · show (decide _ = true) ↔ (decide _ = true)
            rw [← h3]; rfl
          · omega
      unfold took
      rw [er, eM]
    · have t1 : ¬ rank (shR a (insZ k xs)) (shf k j) < (shM a (insZ k xs)).toNat := fun ht => by
        have := took_pos W2 a hs ht
        rw [eR, at_insZ hk2] at this; exact hp this
      have t2 : ¬ rank (shR a xs) j < (shM a xs).toNat := fun ht => hp (took_pos WO a hj' ht)
      unfold took
      rw [if_neg t1, if_neg t2]
end
end Go.Proofs.Ytkejohmghacdhaa
