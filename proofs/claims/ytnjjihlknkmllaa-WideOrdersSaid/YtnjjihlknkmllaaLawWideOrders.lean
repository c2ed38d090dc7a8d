import Derived.Test.YtnjjihlknkmllaaSumA
import Derived.Test.YtnjjihlknkmllaaOwn
namespace Go.Proofs.Ytnjjihlknkmllaa
set_option linter.unusedVariables false
set_option linter.unusedSimpArgs false
open Go.RowKit
theorem sumI_reverse (xs : List Int) : sumI xs.reverse = sumI xs := by
  induction xs with
  | nil => rfl
  | cons x xs ih => rw [List.reverse_cons, sumI_append, ih]; simp [sumI]; omega
theorem sumI_parts (xs : List Int) (k : Nat) : sumI (xs.take k) + sumI (xs.drop k) = sumI xs := by rw [← sumI_append, List.take_append_drop]
theorem rev_take_succ (xs : List Int) (k : Nat) (h : k < xs.length) : xs.reverse.take (k + 1) = xs.reverse.take k ++ [xs.getD (xs.length - 1 - k) 0] := by
  rw [List.take_succ_eq_append_getElem (by simpa using h)]
  congr 1
  simp [List.getD, List.getElem_reverse]
  rw [List.getElem?_eq_getElem (by omega)]; simp
theorem In_take {xs : List Int} (h : ∀ k, k < xs.length → In (xs.getD k 0)) (n : Nat) : ∀ k, k < (xs.take n).length → In ((xs.take n).getD k 0) := fun k hk => by
  have h1 : k < xs.length := by simp at hk; omega
  have h2 : k < n := by simp at hk; omega
  have := h k h1
  simpa [List.getD, List.getElem?_take, h2] using this
theorem In_drop {xs : List Int} (h : ∀ k, k < xs.length → In (xs.getD k 0)) (n : Nat) : ∀ k, k < (xs.drop n).length → In ((xs.drop n).getD k 0) := fun k hk => by
  have := h (n + k) (by simp at hk; omega)
  simpa [List.getD, List.getElem?_drop] using this
theorem In_rev {xs : List Int} (h : ∀ k, k < xs.length → In (xs.getD k 0)) : ∀ k, k < xs.reverse.length → In (xs.reverse.getD k 0) := fun k hk => by
  have hk : k < xs.length := by simpa using hk
  have := h (xs.length - 1 - k) (by omega)
  rw [getD_mem (by omega)] at this
  rw [getD_mem (by simpa using hk), List.getElem_reverse]; exact this
theorem In_two {xs : List Int} (h : ∀ k, k < xs.length → In (xs.getD k 0)) {n m : Int} (hn : In n) (hm : In m) : ∀ k, k < (xs ++ [n, m]).length → In ((xs ++ [n, m]).getD k 0) := fun k hk => by
  by_cases h1 : k < xs.length
  · have := h k h1
    rw [getD_mem h1] at this
    rw [getD_mem hk, List.getElem_append_left h1]; exact this
  · have h2 : k = xs.length ∨ k = xs.length + 1 := by simp at hk; omega
    rcases h2 with rfl | rfl
    · rw [getD_mem hk, List.getElem_append_right (by omega)]; simpa using hn
    · rw [getD_mem hk, List.getElem_append_right (by omega)]; simpa using hm
theorem wsum_n (xs : List Int) (n : Nat) (a : Option Addr) (cap : Nat) (w : World) (hl : xs.length = n) (hn : n ≤ 9223372036854775807) (hx : ∀ k, k < xs.length → In (xs.getD k 0)) (hs : SlI .i64 w a xs) (S : Int) (hS : sumI xs = S) :
    Calls Try.prog 21 #[.slice a n cap] w fun e w' => e = .returned (.tuple #[.int .i64 (capN S), .int .i64 (errN S)]) ∧ Below w.heap.size w w' := by
  subst hl hS; exact wsum_any xs a cap w hn hx hs
theorem orders_math {a b s : Int} (h : a + b = s) (ha : In a) (hb : In b) : capN (a + b) = capN s ∧ errN (a + b) = errN s := by rw [h]; exact ⟨rfl, rfl⟩
set_option maxRecDepth 100000 in
set_option maxHeartbeats 8000000 in
theorem wideOrders_any (xs : List Int) (a : Option Addr) (cap : Nat) (at_ nn : Int) (w : World) (hn : xs.length ≤ 9223372036854775807) (hcap : xs.length ≤ cap) (hx : ∀ k, k < xs.length → In (xs.getD k 0)) (hs : SlI .i64 w a xs) (hat : 0 ≤ at_ ∧ at_ ≤ 255) (hnn : In nn) :
    Calls Try.prog 8 #[.slice a xs.length cap, .int .u8 at_, .int .i64 nn] w fun e w' => e = .returned (.bool true) ∧ Below w.heap.size w w' := by
  obtain ⟨n, hl⟩ : ∃ n, xs.length = n := ⟨_, rfl⟩
  have HS := Lib.hid hs
  have HX := Lib.hid hx
  have HL := Lib.hid hl
  rw [hl] at hn hcap ⊢
  clear hs hx hl
  by_cases h : 100 < (n : Int)
  · go_enter Try.func8, Try.ntmps8
    go_wp2_with fail
    refine (live2 _).mono ?_
    rintro e w1 ⟨rfl, hb1⟩
    go_wp2_with fail
    go_ret
    exact ⟨rfl, (by repeat (with_reducible (first | exact Below.refl _ _ | assumption | refine bl_alloc ?_ _ | refine bl_drewN ?_ _ | refine bl_drew ?_ | refine bl_call ?_ (by assumption) | (refine bl_setCell ?_ _ (Nat.le_refl _)) | (refine bl_setCell ?_ _ (by first | omega | (simp; done) | (simp; omega))))))⟩
  have hn1 : (n : Int) ≤ 100 := by omega
  obtain ⟨K, hK⟩ : ∃ K : Nat, at_ % ((n : Int) + 1) = (K : Int) := ⟨(at_ % ((n : Int) + 1)).toNat, (Int.toNat_of_nonneg (Int.emod_nonneg _ (by omega))).symm⟩
  have hKn : K ≤ n := by have := Int.emod_lt_of_pos at_ (show (0 : Int) < (n : Int) + 1 by omega); omega
  obtain ⟨hat0, hat1⟩ := hat
  obtain ⟨a1, r1, S1⟩ := slice_head (t := 31) (e := 2) Try.underlying31 (by kernel_rfl) (fun w => by kernel_rfl) a n cap K (by omega)
  obtain ⟨a2, r2, S2⟩ := slice_tail (t := 31) (e := 2) Try.underlying31 (by kernel_rfl) (fun w => by kernel_rfl) a n cap K hKn hcap
  have S1 := Lib.hid (fun w h => S1 .i64 w xs h)
  have S2 := Lib.hid (fun w h => S2 .i64 w xs HL.out h)
  clear h
  obtain ⟨i0, hi, hz0, hz1, hz2⟩ := info_parts info_i64
  have INF := Lib.hid (And.intro hi (And.intro hz0 (And.intro hz1 hz2)))
  clear hi hz0 hz1 hz2
  go_enter Try.func8, Try.ntmps8
  go_wp2_with fail
  refine (live2 _).mono ?_
  rintro e w1 ⟨rfl, hb1⟩
  have HB1 := Lib.hid hb1
  have s1 := Lib.hid (HS.out.go hb1)
  clear hb1
  go_wp2
  rw [hK]
  clear hK
  go_loopw [8, 37] (fun v i wr => ∃ k : Nat, k ≤ n ∧ i = .int .i64 k ∧ OwnI wr w.heap.size v (xs.reverse.take k) ∧ Below w.heap.size w wr) (fun _ i _ => n - (intOf i).toNat)
  case atStart => exact ⟨0, by omega, rfl, own_nil _ _, HB1.out⟩
  case round =>
    obtain ⟨k, hk, rfl, hown, hbr⟩ := hrel
    have HO := Lib.hid hown
    have HB := Lib.hid hbr
    clear hown hbr
    by_cases hlt : k < n
    · obtain ⟨b, off, ea, hbz, hc⟩ := HS.out.at k (by rw [HL.out]; exact hlt)
      subst ea
      have ij : ((n : Int) - 1 - (k : Int)).toNat = n - 1 - k := by omega
      have ij0 : 0 ≤ (n : Int) - 1 - (k : Int) := by omega
      have ij1 : (n : Int) - 1 - (k : Int) < n := by omega
      have hcell : wr.cell? ⟨b, off + (n - 1 - k), none⟩ = some (.int .i64 (xs.getD (n - 1 - k) 0)) := by
        rw [HB.out.cell (p := ⟨b, off + (n - 1 - k), none⟩) hbz]; exact hc (n - 1 - k) (by rw [HL.out]; omega)
      clear hc
      have T := rev_take_succ xs k (by rw [HL.out]; exact hlt)
      rw [HL.out] at T
      have T := Lib.hid T
      have LN := Lib.hid (show (xs.reverse.take k).length = k by have := HL.out; simp; omega)
      generalize xs.getD (n - 1 - k) 0 = x at *
      obtain ⟨hi, hz0, hz1, hz2⟩ := INF.out
      go_wp2_with (first | (at_builtin; refine wpList_append_own _ rfl _ _ 31 rfl w.heap.size 2 i0 (.int .i64 0) 1 8 Try.underlying31 hi hz0 hz1 hz2 rfl (by decide) _ _ _ rfl (World.ownsRow.alloc (h := HO.out) _) ⟨wr.heap.size, 0, none⟩ 1 1 [.int .i64 x] rfl rfl ?c1 ?c2 ?c3 ?c4 ?c5 ?_))
      case c1 =>
        intro j u hj
        match j, hj with
        | 0, hj => simp at hj; subst hj; simp [Addr.add]
      case c2 => intro u hu; simp at hu; subst hu; rfl
      case c3 => rw [LN.out]; unfold maxLen; omega
      case c4 => rw [LN.out]; omega
      case c5 => have := HB.out.size; simp; omega
      intro v' w2 hown' hgrow _
      have R := Lib.hid (show OwnI w2 w.heap.size v' (xs.reverse.take (k + 1)) by unfold OwnI; rw [T.out]; simpa using hown')
      have RB := Lib.hid (OwnI.below (World.ownsRow.alloc (h := HO.out) _) (bl_alloc HB.out _) (Nat.le_refl _) hgrow)
      clear hown' hgrow hcell hi hz0 hz1 hz2
      go_wp2
      go_roundw
      case rel => first | exact ⟨k + 1, by omega, by go_num, R.out, RB.out⟩ | ((repeat apply Exists.intro); exact ⟨⟨k + 1, by omega, by go_num, R.out, RB.out⟩, rfl⟩)
      case measure => simp [intOf]; omega
    · have hkn : k = n := by omega
      have O := HO.out.at xs.reverse (by rw [List.take_of_length_le]; have := HL.out; simp; omega)
      obtain ⟨ta, tc, hv, tS, tl, tm, tb⟩ := O.shape
      have LR : xs.reverse.length = n := by rw [List.length_reverse]; exact HL.out
      rw [LR] at hv tl
      subst hv
      have TS := Lib.hid tS
      have SL := Lib.hid (HS.out.go HB.out)
      have LR := Lib.hid LR
      have O := Lib.hid O
      have SS := Lib.hid (show sumI (xs.take K) + sumI (xs.drop K) = sumI xs from sumI_parts xs K)
      have SR := Lib.hid (sumI_reverse xs)
      have hn9 : n ≤ 9223372036854775807 := by omega
      have CA := Lib.hid (fun w hs => wsum_n xs n a cap w HL.out hn9 HX.out hs _ rfl)
      have CB := Lib.hid (fun w hs => wsum_n xs.reverse n ta tc w LR.out hn9 (In_rev HX.out) hs _ SR.out)
      have CN := whole_neg nn
      have CK := Lib.hid (fun w hs => wsum_n (xs.take K) K a1 cap w (by rw [List.length_take, HL.out]; omega) (by omega) (In_take HX.out K) hs _ rfl)
      have CD := Lib.hid (fun w hs => wsum_n (xs.drop K) (n - K) a2 (cap - K) w (by rw [List.length_drop, HL.out]) (by omega) (In_drop HX.out K) hs _ rfl)
      clear tS HO
      have NN := cap_cases (-nn)
      generalize sumI (xs.take K) = A at *
      generalize sumI (xs.drop K) = B at *
      generalize hSS : sumI xs = S at *
      have HSS := Lib.hid hSS
      clear hSS
      have cA := Lib.hid (cap_cases A)
      have cB := Lib.hid (cap_cases B)
      obtain ⟨hi, hz0, hz1, hz2⟩ := INF.out
      rcases NN with ⟨n1, n2, n3⟩ | ⟨n1, n2, n3⟩
      all_goals
        rw [n1, n2] at CN
        have CN := Lib.hid (fun w => CN w hnn)
        have N3 := Lib.hid n3
        clear n1 n2 n3
        go_wp2_with fail
        refine (CA.out _ SL.out).mono ?_
        rintro e w2 ⟨rfl, hb2⟩
        go_wp2_with fail
        refine (CB.out _ (TS.out.go hb2)).mono ?_
        rintro e w3 ⟨rfl, hb3⟩
        go_wp2_with fail
        refine (CN.out _).mono ?_
        rintro e w4 ⟨rfl, rfl⟩
        have O3 := Lib.hid (O.out.go (bl_call hb2 hb3))
        have SL3 := Lib.hid (SL.out.go (bl_call hb2 hb3))
        have HB3 := Lib.hid (bl_call (bl_call HB.out hb2) hb3)
        clear hb2 hb3
      · have CT := Lib.hid (fun a c w hs => wsum_n (xs.reverse ++ [nn, -nn]) (n + 2) a c w (by rw [List.length_append, LR.out]; rfl) (by omega) (In_two (In_rev HX.out) hnn N3.out) hs S (by rw [sumI_append, SR.out]; simp [sumI]; omega))
        go_wp2_with (first | (at_builtin; refine wpList_append_own _ rfl _ _ 31 rfl w.heap.size 2 i0 (.int .i64 0) 1 8 Try.underlying31 hi hz0 hz1 hz2 rfl (by decide) _ _ _ rfl (World.ownsRow.alloc (h := O3.out) _) ⟨w3.heap.size, 0, none⟩ 2 2 [.int .i64 nn, .int .i64 (-nn)] rfl rfl ?d1 ?d2 ?d3 ?d4 ?d5 ?_))
        case d1 =>
          intro j u hj
          match j, hj with
          | 0, hj => simp at hj; subst hj; simp [Addr.add]
          | 1, hj => simp at hj; subst hj; simp [Addr.add]
        case d2 => intro u hu; simp at hu; rcases hu with rfl | rfl <;> rfl
        case d3 => rw [LR.out]; unfold maxLen; omega
        case d4 => rw [LR.out]; omega
        case d5 => have := HB3.out.size; simp; omega
        intro v' w4 hown' hgrow _
        have R : OwnI w4 w.heap.size v' (xs.reverse ++ [nn, -nn]) := by unfold OwnI; simpa [HL.out] using hown'
        have RB := Lib.hid (OwnI.below (World.ownsRow.alloc (h := O3.out) _) (bl_alloc HB3.out _) (Nat.le_refl _) hgrow)
        obtain ⟨ua, uc, hv, uS, ul, um, ub⟩ := R.shape
        rw [List.length_append, LR.out] at hv
        have hv : v' = .slice ua (n + 2) uc := hv
        subst hv
        have SL4 := Lib.hid (show SlI .i64 w4 a xs from HS.out.go RB.out)
        clear hown' hgrow R
        go_wp2_with fail
        refine (CT.out _ _ _ uS).mono ?_
        rintro e w5 ⟨rfl, hb5⟩
        have SL5 := Lib.hid (SL4.out.go hb5)
        have HB5 := Lib.hid (bl_call RB.out hb5)
        clear hb5
        go_wp2_with fail
        refine (CK.out _ (S1.out _ SL5.out)).mono ?_
        rintro e w6 ⟨rfl, hb6⟩
        go_wp2_with fail
        refine (CD.out _ (S2.out _ (SL5.out.go hb6))).mono ?_
        rintro e w7 ⟨rfl, hb7⟩
        have HB7 := Lib.hid (bl_call (bl_call HB5.out hb6) hb7)
        clear hb6 hb7
        rcases cA.out with ⟨p1, p2, p3⟩ | ⟨p1, p2, p3⟩ <;> rcases cB.out with ⟨q1, q2, q3⟩ | ⟨q1, q2, q3⟩
        case' inl.inl =>
          have AD := fun w => whole_add A B w p3 q3
          rw [SS.out] at AD
          have AD := Lib.hid AD
          go_wp2_with fail
          refine (AD.out _).mono ?_
          rintro e w8 ⟨rfl, rfl⟩
        all_goals
          go_wp2
          go_ret
          exact ⟨ret_b (by first | rfl | (simp; done)), HB7.out⟩
      · go_wp2_with fail
        refine (CK.out _ (S1.out _ SL3.out)).mono ?_
        rintro e w6 ⟨rfl, hb6⟩
        go_wp2_with fail
        refine (CD.out _ (S2.out _ (SL3.out.go hb6))).mono ?_
        rintro e w7 ⟨rfl, hb7⟩
        have HB7 := Lib.hid (bl_call (bl_call HB3.out hb6) hb7)
        clear hb6 hb7
        rcases cA.out with ⟨p1, p2, p3⟩ | ⟨p1, p2, p3⟩ <;> rcases cB.out with ⟨q1, q2, q3⟩ | ⟨q1, q2, q3⟩
        case' inl.inl =>
          have AD := fun w => whole_add A B w p3 q3
          rw [SS.out] at AD
          have AD := Lib.hid AD
          go_wp2_with fail
          refine (AD.out _).mono ?_
          rintro e w8 ⟨rfl, rfl⟩
        all_goals
          go_wp2
          go_ret
          exact ⟨ret_b (by first | rfl | (simp; done)), HB7.out⟩
end Go.Proofs.Ytnjjihlknkmllaa
