import Derived.Test.YtkejohmghacdhaaLawShareSum
namespace Go.Proofs.Ytkejohmghacdhaa
set_option linter.unusedVariables false
set_option linter.unusedSimpArgs false
open Go Go.RowKit
theorem sumI_replicate (k : Nat) (x : Int) : sumI (List.replicate k x) = k * x := by
  induction k with
  | zero => simp [sumI]
  | succ k ih =>
    rw [List.replicate_succ]
    show x + sumI _ = _
    rw [ih, Int.natCast_add, Int.add_mul]
    simp; omega
theorem getD_replicate {k j : Nat} (x : Int) (h : j < k) : (List.replicate k x).getD j 0 = x := by simp [List.getD, h]
theorem wok_even {k : Nat} {x : Int} (hk : 0 < k) (h1 : k ≤ 4096) (hx : 1 ≤ x) (hf : k * x ≤ 9223372036854775807) : allE (List.replicate k x) = 0 := by
  have hs := sumI_replicate k x
  have h0 : 0 < (k : Int) * x := Int.mul_pos (by omega) (by omega)
  unfold allE
  rw [if_neg (by simp; omega), hs]
  have hn : negB (List.replicate k x) ≠ true := by
    intro h
    obtain ⟨p, hp, hlt, _⟩ := negB_true h
    rw [getD_replicate x (by simpa using hp)] at hlt
    omega
  rw [if_neg hn]
  have hf : fitB ((k : Int) * x) = true := by unfold fitB; exact decide_eq_true (by omega)
  unfold errN
  rw [if_pos hf, if_pos rfl, if_neg (by omega)]
theorem rank_same {rs : List Int} (c : Int) (h : ∀ j, j < rs.length → rs.getD j 0 = c) {i : Nat} (hi : i < rs.length) : rank rs i = i := by
  unfold rank
  have e : (List.range rs.length).countP (fun j => decide (key rs j < key rs i)) = (List.range rs.length).countP (fun j => decide (j < i)) := by
    apply List.countP_congr
    intro j hj
    have hj' : j < rs.length := by simpa using hj
    unfold key
    rw [h j hj', h i hi]
    first | (simp; done) | (simp; omega)
  rw [e]
  have f : ∀ n, (List.range n).countP (fun j => decide (j < i)) = min n i := by
    intro n
    induction n with
    | zero => simp
    | succ n ih =>
      rw [List.range_succ, List.countP_append, ih]
      simp [List.countP_cons]
      split <;> omega
  rw [f]; omega
theorem even_part {k : Nat} {x : Int} (a : Int) (hk : 0 < k) (h1 : k ≤ 4096) (hx : 1 ≤ x) {i : Nat} (hi : i < k) : (shL a (List.replicate k x)).getD i 0 = a / k + if (i : Int) < a % k then 1 else 0 := by
  have hs := sumI_replicate k x
  have hl : (List.replicate k x).length = k := by simp
  have eq : ∀ j, j < k → (shQ a (List.replicate k x)).getD j 0 = a / k := fun j hj => by
    rw [at_shQ (by rw [hl]; exact hj), getD_replicate x hj, hs]
    exact Int.mul_ediv_mul_of_pos_left _ _ (by omega)
  have er : ∀ j, j < k → (shR a (List.replicate k x)).getD j 0 = a % k * x := fun j hj => by
    rw [at_shR (by rw [hl]; exact hj), getD_replicate x hj, hs]
    rw [Int.mul_comm a x, Int.mul_comm (k : Int) x, Int.mul_comm (a % k) x]
    exact Int.mul_emod_mul_of_pos _ _ (by omega)
  have em : shM a (List.replicate k x) = a % k := by
    unfold shM
    have : shQ a (List.replicate k x) = List.replicate k (a / k) := by
      apply List.ext_getElem (by simp)
      intro j h1 h2
      have := eq j (by simpa using h1)
      rw [List.getElem_replicate]
      rw [← this]; simp only [List.getD, List.getElem?_eq_getElem h1, Option.getD_some]
    rw [this, sumI_replicate]
    have := Int.mul_ediv_add_emod a k
    omega
  rw [at_shL (by rw [hl]; exact hi), eq i hi, em]
  unfold took
  rw [rank_same (a % k * x) (fun j hj => er j (by simpa using hj)) (by simpa using hi)]
  have := Int.emod_nonneg a (b := (k : Int)) (by omega)
  congr 1
  by_cases h : (i : Int) < a % k
  · rw [if_pos h, if_pos (by omega)]
  · rw [if_neg h, if_neg (by omega)]
theorem make_u8 (n : Nat) (hn : n ≤ 4096) (w : World) : (Instr.makeSlice 41 (.int .u8 (n : Int)) (.int .u8 (n : Int))).run Try.prog w = .ok (.slice (some ⟨w.heap.size, 0, none⟩) n n) (w.alloc (.cells (Array.replicate n (.int .i64 0)) 2)) := by
  obtain ⟨i, hi, h1, h2, h3⟩ := info_parts info_i64
  have := run_makeSlice (P := Try.prog) w 41 2 i (.int .i64 0) Try.underlying41 hi h1 .u8 .u8 n n (by omega) (by omega) (by rw [h2]; omega) (by rw [h3]; omega) (by omega)
  rw [this, h2]
  show _ = Result.ok _ _
  rw [← made_row]
  simp [Value.cells]
set_option maxRecDepth 100000 in
set_option maxHeartbeats 4000000 in
theorem shareEven_any (a x m : Int) (w : World) (ha : In a) (hx : In x) (hm : 0 ≤ m ∧ m ≤ 255) :
    Calls Try.prog 8 #[.int .i64 a, .int .i64 x, .int .u8 m] w fun e w' => e = .returned (.bool true) ∧ Below w.heap.size w w' := by
  obtain ⟨k, rfl⟩ := Int.eq_ofNat_of_zero_le hm.1
  have hk := hm.2
  have hcv : IntKind.i64.wrap (k : Int) = (k : Int) := by rw [IntKind.wrap_i64]; omega
  by_cases h0 : k = 0
  · subst h0
    go_enter Try.func8, Try.ntmps8
    go_wp2_with fail
    refine (live4 _).mono ?_
    rintro e w1 ⟨rfl, hb1⟩
    go_wp2_with fail
    go_ret
    exact ⟨rfl, (by repeat (with_reducible (first | exact Below.refl _ _ | assumption | refine bl_alloc ?_ _ | refine bl_drewN ?_ _ | refine bl_drew ?_ | refine bl_call ?_ (by assumption) | (refine bl_setCell ?_ _ (Nat.le_refl _)) | (refine bl_setCell ?_ _ (by first | omega | (simp; done) | (simp; omega))))))⟩
  have t0 : ((k : Int) == 0) = false := by simpa using h0
  by_cases h1 : x < 1
  · have t1 : decide (x < 1) = true := decide_eq_true h1
    go_enter Try.func8, Try.ntmps8
    go_wp2_with fail
    refine (live4 _).mono ?_
    rintro e w1 ⟨rfl, hb1⟩
    go_wp2_with fail
    go_ret
    exact ⟨rfl, (by repeat (with_reducible (first | exact Below.refl _ _ | assumption | refine bl_alloc ?_ _ | refine bl_drewN ?_ _ | refine bl_drew ?_ | refine bl_call ?_ (by assumption) | (refine bl_setCell ?_ _ (Nat.le_refl _)) | (refine bl_setCell ?_ _ (by first | omega | (simp; done) | (simp; omega))))))⟩
  have t1 : decide (x < 1) = false := decide_eq_false h1
  have hk1 : 1 ≤ (k : Int) := by omega
  by_cases h2 : 9223372036854775807 / (k : Int) < x
  · have t2 : decide (9223372036854775807 / (k : Int) < x) = true := decide_eq_true h2
    go_enter Try.func8, Try.ntmps8
    go_wp2_with fail
    refine (live4 _).mono ?_
    rintro e w1 ⟨rfl, hb1⟩
    go_wp2_with fail
    go_ret
    exact ⟨rfl, (by repeat (with_reducible (first | exact Below.refl _ _ | assumption | refine bl_alloc ?_ _ | refine bl_drewN ?_ _ | refine bl_drew ?_ | refine bl_call ?_ (by assumption) | (refine bl_setCell ?_ _ (Nat.le_refl _)) | (refine bl_setCell ?_ _ (by first | omega | (simp; done) | (simp; omega))))))⟩
  have t2 : decide (9223372036854775807 / (k : Int) < x) = false := decide_eq_false h2
  have hf : (k : Int) * x ≤ 9223372036854775807 := by
    have := (Int.le_ediv_iff_mul_le (show (0 : Int) < k by omega)).1 (Int.not_lt.1 h2)
    rwa [Int.mul_comm] at this
  have hE := wok_even (k := k) (x := x) (by omega) (by omega) (by omega) hf
  have C1 := Lib.hid (fun (b : Nat) w hs => by
    have := split_yes a (List.replicate k x) (some ⟨b, 0, none⟩) k w (by simp; omega) (fun j hj => by rw [getD_replicate x (by simpa using hj)]; exact hx) hs ha hE
    rwa [List.length_replicate] at this)
  have mk := make_u8 k (by omega)
  have d1 := Int.emod_nonneg a (b := (k : Int)) (by omega)
  have d2 := Int.emod_lt_of_pos a (show (0 : Int) < k by omega)
  have d3 := Int.mul_ediv_add_emod a (k : Int)
  have hq : -9223372036854775808 ≤ a / (k : Int) ∧ a / (k : Int) ≤ 9223372036854775807 ∧ (0 < a % (k : Int) → a / (k : Int) + 1 ≤ 9223372036854775807) := by
    have b := q_bd (a := a) (x := 1) (S := (k : Int)) (by omega) (by omega) hk1
    rw [Int.mul_one] at b
    unfold In at ha
    by_cases hh : 0 ≤ a
    · have := b.1 hh; omega
    · have := b.2 (by omega); omega
  have C2 := Lib.hid (fun w => by
    have := muldiv_fit a 1 (k : Int) w ha ⟨by decide, by decide⟩ ⟨by omega, by omega⟩ (by omega) (by rw [Int.mul_one]; exact ⟨hq.1, hq.2.1⟩)
    rwa [Int.mul_one] at this)
  have P := Lib.hid (fun i (hi : i < k) => even_part (x := x) a (k := k) (by omega) (by omega) (by omega) hi)
  unfold SplitOk at C1
  rw [List.length_replicate] at C1
  have SL : Hid (∀ b W, RowF W b k (fun _ => x) → SlI .i64 W (some ⟨b, 0, none⟩) (List.replicate k x)) := fun b W h => RowF.sl (by
    rw [List.length_replicate]; exact h.congr fun j hj => getD_replicate x hj)
  clear hE d3 ha hx hf
  generalize shL a (List.replicate k x) = L at *
  generalize a / (k : Int) = q at *
  generalize a % (k : Int) = r at *
  go_enter Try.func8, Try.ntmps8
  go_wp2_with fail
  refine (live4 _).mono ?_
  rintro e w1 ⟨rfl, hb1⟩
  have B2 : Aside (Below w.heap.size w (w1.alloc (.cells (Array.replicate k (.int .i64 0)) 2))) := bl_alloc hb1 _
  have R2 : Aside (RowF (w1.alloc (.cells (Array.replicate k (.int .i64 0)) 2)) w1.heap.size k (fun t => if t < 0 then x else 0)) := (row_made w1 k 2).congr fun j _ => by simp
  have hbb := hb1.size
  clear hb1
  go_wp2
  clear mk
  generalize w1.alloc (.cells (Array.replicate k (.int .i64 0)) 2) = w2 at B2 R2 ⊢
  generalize w1.heap.size = b at R2 hbb ⊢
  go_loopw [38] (fun i wr => ∃ j : Nat, j ≤ k ∧ i = .int .i64 j ∧ Aside (Below w.heap.size w wr) ∧ Aside (RowF wr b k (fun t => if t < j then x else 0))) (fun i _ => k - (intOf i).toNat)
  case atStart => exact ⟨0, by omega, rfl, B2, R2⟩
  case round =>
    clear B2 R2
    obtain ⟨j, hj, rfl, HB, HR⟩ := hrel
    by_cases hlt : j < k
    · have hz : (j : Int) < (k : Int) := by omega
      obtain ⟨o1, o2⟩ := HR.out j hlt
      have R3 : Aside (RowF (wr.setCell ⟨b, j, none⟩ (.int .i64 x)) b k (fun t => if t < j + 1 then x else 0)) := (HR.out.set j hlt x).congr fun t _ => by
        by_cases e : t = j
        · subst e; simp
        · by_cases e2 : t < j
          · simp [e, e2, show t < j + 1 by omega]
          · simp [e, e2, show ¬ t < j + 1 by omega]
      have B3 : Aside (Below w.heap.size w (wr.setCell ⟨b, j, none⟩ (.int .i64 x))) := HB.out.setCell hbb _
      clear HB HR
      go_wp2
      go_roundw
      case rel => exact ⟨j + 1, by omega, by go_num, B3, R3⟩
      case measure => simp [intOf]; omega
    · obtain rfl : j = k := by omega
      have hz : ¬ (j : Int) < (j : Int) := by omega
      go_wp2_with fail
      refine (C1.out b _ (SL.out b _ (HR.out.congr fun t ht => by simp [ht]))).mono ?_
      rintro e w3 ⟨c, hc, rfl, hr, hb3⟩
      have R3 := Lib.hid hr
      have B3 := Lib.hid (bl_call HB.out hb3)
      clear hb3 hr hc HB HR
      go_wp2_with fail
      refine (C2.out _).mono ?_
      rintro e w4 ⟨rfl, hb4⟩
      have R4 := Lib.hid (R3.out.go hb4)
      have B4 := Lib.hid (bl_call B3.out hb4)
      clear hb4
      go_wp2
      go_loop [74] (fun i => ∃ t : Nat, t ≤ j ∧ i = .int .i64 t) (fun i => j - (intOf i).toNat)
      case atStart => exact ⟨0, by omega, rfl⟩
      case round =>
        obtain ⟨i, hi, rfl⟩ := hrel
        by_cases hlt2 : i < j
        · have hzi : (i : Int) < (j : Int) := by omega
          have c1 : w4.cell? ⟨c, i, none⟩ = some (.int .i64 (L.getD i 0)) := (R4.out i hlt2).1
          rw [P.out i hlt2] at c1
          by_cases hir : (i : Int) < r
          · rw [if_pos hir] at c1
            have hw : IntKind.i64.wrap (q + 1) = q + 1 := by rw [IntKind.wrap_i64]; omega
            have t3 : (q + 1 != q + 1) = false := by simp
            have t4 : decide ((i : Int) < r) = true := decide_eq_true hir
            go_wp2
            go_round
            case rel => exact ⟨i + 1, by omega, by go_num⟩
            case measure => simp [intOf]; omega
          · rw [if_neg hir, Int.add_zero] at c1
            have t3 : (q != q) = false := by simp
            have t4 : decide ((i : Int) < r) = false := decide_eq_false hir
            go_wp2
            go_round
            case rel => exact ⟨i + 1, by omega, by go_num⟩
            case measure => simp [intOf]; omega
        · have hzi : ¬ (i : Int) < (j : Int) := by omega
          go_wp2
          go_ret
          exact ⟨rfl, B4.out⟩
end Go.Proofs.Ytkejohmghacdhaa
