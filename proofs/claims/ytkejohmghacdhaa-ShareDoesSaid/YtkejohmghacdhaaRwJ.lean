/- Contracts of the reference's chapter 2: Div. -/
import Derived.Test.YtkejohmghacdhaaRwI
import Derived.Test.YtkejohmghacdhaaMathN
import Derived.Test.YtkejohmghacdhaaDivD
namespace Go.Proofs.Ytkejohmghacdhaa
set_option linter.unusedVariables false
set_option linter.unusedSimpArgs false
open Go.RowKit
/-- What the rounds of Div keep. -/
structure DW (w : World) (c : Nat) (s : Bool) (f : Nat → Int) (wr : World) : Prop where
  below : Below w.heap.size w wr
  s1 : w.heap.size + 1 < c
  s4 : c < wr.heap.size
  e0 : wr.cell? ⟨c, 0, none⟩ = some (.bool s)
  de : Digs wr c 1 f
  fe : ∀ o, wr.frozen? ⟨c, o, none⟩ = false
  r0 : wr.cell? ⟨w.heap.size + 1, 0, none⟩ = some (.int .i64 0)
  r1 : wr.cell? ⟨w.heap.size + 1, 1, none⟩ = some (.int .u64 0)
  fr : ∀ o, wr.frozen? ⟨w.heap.size + 1, o, none⟩ = false
theorem DW.set {w wr : World} {c : Nat} {s : Bool} {f g : Nat → Int} (h : DW w c s f wr) (k : Nat) (hk : k < 8) (v : Int) (hv : g k = v) (hg : ∀ j, j < 8 → j ≠ k → g j = f j) :
    DW w c s g (wr.setCell ⟨c, 1 + k, none⟩ (.int .u64 v)) := by
  have h1 := h.s1
  exact ⟨bl_setCell h.below _ (by first | omega | (simp; done) | (simp; omega)), h.s1, by simpa using h.s4,
    by rw [World.cell?_setCell_other _ _ _ _ (by simp)]; exact h.e0, Digs.set h.de k hk v hv hg, fun o => by simpa using h.fe o,
    by rw [World.cell?_setCell_other _ _ _ _ (by first | omega | (simp; done) | (simp; omega))]; exact h.r0, by rw [World.cell?_setCell_other _ _ _ _ (by first | omega | (simp; done) | (simp; omega))]; exact h.r1, fun o => by simpa using h.fr o⟩
theorem quot_abs {n b : Int} (hn : 0 ≤ n) (hb : 0 < b) : 0 ≤ n / b ∧ n / b ≤ n ∧ 0 ≤ n % b ∧ n % b < b ∧ b * (n / b) + n % b = n := by
  refine ⟨Int.ediv_nonneg hn (by omega), Int.ediv_le_self _ hn, Int.emod_nonneg _ (by omega), Int.emod_lt_of_pos _ hb, Int.mul_ediv_add_emod n b⟩
theorem div_pos {x b : Int} (hx : InW x) (hb : 0 < b) (h : ¬ x < 0) : backV false (absW x / b) = x / b ∧ absW x % b = x % b := by
  rw [absW_pos h]
  have q := quot_abs (n := x) (b := b) (by omega) hb
  unfold InW at hx
  exact ⟨(back_f q.1 (by omega)).1, rfl⟩
theorem div_neg0 {x b : Int} (hx : InW x) (hb : 0 < b) (h : x < 0) (h0 : absW x % b = 0) : backV true (absW x / b) = x / b ∧ 0 = x % b := by
  have q := quot_abs (n := absW x) (b := b) (by rw [absW_neg h]; omega) hb
  have bd := absW_bd hx
  rw [(back_t q.1 (by omega)).1]
  rw [h0] at q
  have e := absW_neg h
  generalize absW x / b = Q at *
  obtain ⟨a1, a2⟩ := ediv_one (a := x) (c := b) (q := -Q) (r := 0) hb (by rw [Int.mul_neg]; omega) (by omega)
  exact ⟨a1.symm, a2.symm⟩
theorem div_neg1 {x b : Int} (hx : InW x) (hb : 0 < b) (h : x < 0) (h0 : 0 < absW x % b) : backV true (absW x / b + 1) = x / b ∧ b - absW x % b = x % b ∧ absW x / b + 1 < 340282366920938463463374607431768211456 := by
  have q := quot_abs (n := absW x) (b := b) (by rw [absW_neg h]; omega) hb
  have bd := absW_bd hx
  have e := absW_neg h
  have b2 : 2 ≤ b := by omega
  have hQ : 2 * (absW x / b) ≤ b * (absW x / b) := Int.mul_le_mul_of_nonneg_right b2 q.1
  generalize absW x / b = Q at *
  generalize absW x % b = R at *
  rw [(back_t (n := Q + 1) (by omega) (by omega)).1]
  obtain ⟨a1, a2⟩ := ediv_one (a := x) (c := b) (q := -(Q + 1)) (r := b - R) hb (by rw [Int.mul_neg, Int.mul_add]; omega) (by omega)
  exact ⟨a1.symm, a2.symm, by omega⟩
set_option maxRecDepth 100000 in
set_option maxHeartbeats 8000000 in
theorem rwdiv_any (x b : Int) (w : World) (hx : InW x) (hb : In b) :
    Calls Try.prog 58 #[wideA x, .int .i64 b] w fun e w' => e = .returned (.tuple #[wideA (wdQ x b), .int .i64 (wdR x b), .int .i64 (wdE b)]) ∧ Below w.heap.size w w' := by
  obtain ⟨b0, b1⟩ := hb
  by_cases hz : b = 0
  · subst hz
    obtain ⟨d1, d2, d3⟩ := wd_zero x
    have D := Lib.hid (And.intro d1 (And.intro d2 d3))
    clear d1 d2 d3
    go_enter Try.func58, Try.ntmps58
    go_wp2
    refine bodyPost_ret (v := .tuple #[.agg #[.int .i64 0, .int .u64 0], .int .i64 0, .int .i64 3]) (by simp [results, Try.results58, go_sem]) rfl ⟨by rw [D.out.1, D.out.2.1, D.out.2.2]; rfl, ?_⟩
    exact (by repeat (with_reducible (first | exact Below.refl _ _ | assumption | refine bl_alloc ?_ _ | refine bl_drewN ?_ _ | refine bl_drew ?_ | refine bl_call ?_ (by assumption) | (refine bl_setCell ?_ _ (Nat.le_refl _)) | (refine bl_setCell ?_ _ (by first | omega | (simp; done) | (simp; omega))))))
  by_cases hng : b < 0
  · obtain ⟨d1, d2, d3⟩ := wd_neg x b hng
    have D := Lib.hid (And.intro d1 (And.intro d2 d3))
    clear d1 d2 d3
    have hz' : (b == 0) = false := by simpa using hz
    go_enter Try.func58, Try.ntmps58
    go_wp2
    refine bodyPost_ret (v := .tuple #[.agg #[.int .i64 0, .int .u64 0], .int .i64 0, .int .i64 1]) (by simp [results, Try.results58, go_sem]) rfl ⟨by rw [D.out.1, D.out.2.1, D.out.2.2]; rfl, ?_⟩
    exact (by repeat (with_reducible (first | exact Below.refl _ _ | assumption | refine bl_alloc ?_ _ | refine bl_drewN ?_ _ | refine bl_drew ?_ | refine bl_call ?_ (by assumption) | (refine bl_setCell ?_ _ (Nat.le_refl _)) | (refine bl_setCell ?_ _ (by first | omega | (simp; done) | (simp; omega))))))
  have hp : 0 < b := by omega
  obtain ⟨d1, d2, d3⟩ := wd_pos x b hp
  have D := Lib.hid (And.intro d1 (And.intro d2 d3))
  clear d1 d2 d3
  have hz' : (b == 0) = false := by simpa using hz
  have OF := Lib.hid (fun w => rwof_any x w hx)
  have bd := InW_bd hx
  have N0 := Lib.hid bd.1
  have N1 := Lib.hid bd.2
  have DP := Lib.hid (div_pos (b := b) hx hp)
  have DN0 := Lib.hid (div_neg0 (b := b) hx hp)
  have DN1 := Lib.hid (div_neg1 (b := b) hx hp)
  have QA := Lib.hid (quot_abs (b := b) bd.1 hp)
  clear bd hz hng
  generalize absW x = n at *
  obtain ⟨s, hs⟩ : ∃ s, decide (x < 0) = s := ⟨_, rfl⟩
  have OF := OF.out
  rw [hs] at OF
  have OF := Lib.hid OF
  have HSG := Lib.hid hs
  clear hs
  go_enter Try.func58, Try.ntmps58
  go_wp2_with fail
  refine (OF.out _).mono ?_
  rintro e w1 ⟨rfl, hb1⟩
  obtain ⟨hc1, hf1, hz1⟩ := own_stays hb1 (b := w.heap.size + 1) (by go_simp)
  go_wp2
  go_loopw [8, 9] (fun l i wr => (∃ k : Nat, k < 8 ∧ i = .int .i64 k ∧ l = .int .u64 (PB n k 0 % b) ∧ DW w w1.heap.size s (fun j => if k < j then dg (n / b) j else dg n j) wr) ∨ (i = .int .i64 (-1) ∧ l = .int .u64 (n % b) ∧ DW w w1.heap.size s (dg (n / b)) wr)) (fun _ i _ => (intOf i + 1).toNat)
  case atStart =>
    refine .inl ⟨7, by omega, rfl, by rw [PB_zero n 7 (by omega), top0 N0.out N1.out]; simp, ⟨(by repeat (with_reducible (first | exact Below.refl _ _ | assumption | refine bl_alloc ?_ _ | refine bl_drewN ?_ _ | refine bl_drew ?_ | refine bl_call ?_ (by assumption) | (refine bl_setCell ?_ _ (Nat.le_refl _)) | (refine bl_setCell ?_ _ (by first | omega | (simp; done) | (simp; omega)))))), hz1, by go_simp, by go_simp, ?_, by go_simp, by go_simp, by go_simp, by go_simp⟩⟩
    intro j hj; simp only [show ¬ 7 < j by omega, if_false]; rcases lt8 hj with rfl | rfl | rfl | rfl | rfl | rfl | rfl | rfl <;> go_simp
  case round =>
    clear hc1 hf1 hb1
    generalize w1.heap.size = c at *
    rcases hrel with ⟨k, hk, rfl, rfl, hM⟩ | ⟨rfl, rfl, hM⟩
    · have HM := Lib.hid hM
      clear hM
      have hk' : (k : Int) < 8 := by omega
      have c1 := HM.out.de k hk
      rw [if_neg (Nat.lt_irrefl k)] at c1
      have fe := HM.out.fe
      have z4 := HM.out.s4
      have c2 := dg_bd n k
      obtain ⟨c2, c3⟩ := c2
      go_wp2
      go_loop [8, 10, 11] (fun l d bi => ∃ t : Nat, t ≤ 16 ∧ bi = .int .u64 (bt t) ∧ l = .int .u64 (PB n k t % b) ∧ d = .int .u64 (DB n b k t) ∧ 0 ≤ DB n b k t ∧ DB n b k t + 1 ≤ p2 t) (fun _ _ bi => (intOf bi).toNat)
      case atStart => exact ⟨0, by omega, rfl, rfl, by rw [DB_zero], by rw [DB_zero]; omega, by rw [DB_zero]; decide⟩
      case round =>
        obtain ⟨t, ht, rfl, rfl, rfl, d0, d1⟩ := hrel
        have d2 := p2_le t ht
        by_cases htt : t < 16
        · obtain ⟨s1, s2⟩ := bit_step (n := n) (b := b) k t htt hp
          have S1 := Lib.hid s1
          have S2 := Lib.hid s2
          have B2 := Lib.hid (bt_next t htt)
          obtain ⟨g0, g1, g2⟩ := bt_bd t
          have g2 := g2 htt
          have g3 : (bt t == 0) = false := by simp; omega
          have r0 : 0 ≤ PB n k t % b := Int.emod_nonneg _ (by omega)
          have r1 : PB n k t % b < b := Int.emod_lt_of_pos _ hp
          have q0 : 0 ≤ dg n k / bt t := Int.ediv_nonneg c2 (by omega)
          have q1 : dg n k / bt t ≤ 65535 := by have := Int.ediv_le_self (bt t) c2; omega
          have P2 := Lib.hid (show p2 (t + 1) = 2 * p2 t from rfl)
          clear s1 s2
          generalize hbt : bt t = B at *
          generalize hR : PB n k t % b = R at *
          generalize hD : DB n b k t = DD at *
          have HBT := Lib.hid hbt
          clear hbt hR hD
          by_cases hge : b ≤ R * 2 + dg n k / B % 2
          · obtain ⟨e1, e2⟩ := S1.out hge
            have E1 := Lib.hid e1
            have E2 := Lib.hid e2
            clear e1 e2
            go_wp2
            go_round
            case rel => exact ⟨t + 1, by omega, by rw [← B2.out], by rw [E1.out], by rw [E2.out], by rw [E2.out]; omega, by rw [E2.out, P2.out]; omega⟩
            case measure => simp [intOf]; omega
          · obtain ⟨e1, e2⟩ := S2.out (by omega)
            have E1 := Lib.hid e1
            have E2 := Lib.hid e2
            clear e1 e2
            have hlt : R * 2 + dg n k / B % 2 < b := by omega
            go_wp2
            go_round
            case rel => exact ⟨t + 1, by omega, by rw [← B2.out], by rw [E1.out], by rw [E2.out], by rw [E2.out]; omega, by rw [E2.out, P2.out]; omega⟩
            case measure => simp [intOf]; omega
        · obtain rfl : t = 16 := by omega
          have z : bt 16 = 0 := by decide
          have DE := Lib.hid (DB_end k hk hp d0 (by have : p2 16 = 65536 := (by decide); omega))
          have PE := Lib.hid (PB_end n k)
          have PZ := Lib.hid (fun h : 0 < k => (PB_zero n (k - 1) (by omega)))
          generalize DB n b k 16 = DD at *
          generalize hR : PB n k 16 = R at *
          have HR := Lib.hid hR
          clear hR
          go_wp2
          go_roundw
          case rel =>
            by_cases h0 : k = 0
            · subst h0
              refine .inr ⟨by go_num, by rw [PE.out]; simp [pw], HM.out.set 0 (by omega) _ DE.out.symm (fun j hj hn => by rw [if_pos (by omega)])⟩
            · refine .inl ⟨k - 1, by omega, by go_num, ?_, HM.out.set k hk _ ?_ (fun j hj hn => ?_)⟩
              · rw [PZ.out (by omega), show k - 1 + 1 = k by omega, PE.out]
              · rw [if_pos (by omega)]; exact DE.out.symm
              · by_cases h : k < j
                · rw [if_pos h, if_pos (by omega)]
                · rw [if_neg h, if_neg (by omega)]
          case measure => simp [intOf]
    · have N0 := N0.out
      have N1 := N1.out
      have Q := QA.out
      have HB := Lib.hid hM.below
      have e0 := hM.e0
      have qs := hM.de
      have fe := Lib.hid hM.fe
      have R0 := Lib.hid hM.r0
      have R1 := Lib.hid hM.r1
      have FR := Lib.hid hM.fr
      have s4 := hM.s4
      have s1 := hM.s1
      have Z := Lib.hid (show w.heap.size + 1 < wr.heap.size by omega)
      clear hM
      have t0 := qs 0 (by omega)
      have t1 := qs 1 (by omega)
      have t2 := qs 2 (by omega)
      have t3 := qs 3 (by omega)
      have t4 := qs 4 (by omega)
      have t5 := qs 5 (by omega)
      have t6 := qs 6 (by omega)
      have t7 := qs 7 (by omega)
      have QS := Lib.hid qs
      clear qs
      obtain ⟨Q0, Q1, Q2, Q3, Q4⟩ := Q
      have qm : n / b < 340282366920938463463374607431768211456 := by omega
      clear Q4 Q1
      by_cases hsR : s = true ∧ 0 < n % b
      · obtain ⟨rfl, hR⟩ := hsR
        have hxn : x < 0 := by simpa using HSG.out
        obtain ⟨f1, f2, f3⟩ := DN1.out hxn hR
        have F1 := Lib.hid f1
        have F2 := Lib.hid f2
        have PT := fun w => put_any true 0 1 w ⟨by decide, by decide⟩ ⟨by decide, by decide⟩
        rw [Int.zero_mul, Int.zero_add] at PT
        have PT := Lib.hid PT
        have PL := fun w => plus_same true (n / b) 1 w Q0 qm (by decide) (by decide)
        rw [Int.emod_eq_of_lt (by omega) f3, show decide (n / b + 1 < 340282366920938463463374607431768211456) = true by simpa using f3] at PL
        have PL := Lib.hid PL
        have BK := Lib.hid (fun w => back_any true (n / b + 1) w (by omega) f3)
        clear f1 f2 f3 hxn N0 N1 Q0 qm
        generalize n / b + 1 = q1 at *
        generalize n / b = q at *
        generalize n % b = r at *
        generalize backV true q1 = V at *
        generalize backB true q1 = vb at *
        go_wp2_with fail
        have fe := fe.out
        go_region_with (first | (go_at_call 67; (with_reducible refine (PT.out _).mono ?_); rintro e w2 ⟨rfl, hb2⟩; obtain ⟨hc2, hf2, hz2⟩ := own_stays hb2 (b := c) (by first | (simp; done) | (simp; omega) | omega)) | (go_at_call 76; (with_reducible refine (PL.out _).mono ?_); rintro e w3 ⟨rfl, hb3⟩; obtain ⟨hc3, hf3, hz3⟩ := own_stays hb3 (b := c) (by first | (simp; done) | (simp; omega) | omega)))
        all_goals
          have d0 : w3.cell? ⟨c, 0, none⟩ = some (.bool true) := by rw [hc3, hc2]; simpa using e0
          have d1 : Digs w3 c 1 (dg q) := by intro j hj; rw [hc3, hc2]; simpa using QS.out j hj
          obtain ⟨a0, a1⟩ := putL_num d0 d1 true q1
          have hb := HB.out
          have HB3 := Lib.hid (putL_below (show Below w.heap.size w w3 from (by repeat (with_reducible (first | exact Below.refl _ _ | assumption | refine bl_alloc ?_ _ | refine bl_drewN ?_ _ | refine bl_drew ?_ | refine bl_call ?_ (by assumption) | (refine bl_setCell ?_ _ (Nat.le_refl _)) | (refine bl_setCell ?_ _ (by first | omega | (simp; done) | (simp; omega))))))) (b := c) (by omega) 0 (numL true q1))
          obtain ⟨hd2, hg2, hy2⟩ := own_stays hb2 (b := w.heap.size + 1) (by first | exact Z.out | (simp; have := Z.out; omega))
          obtain ⟨hd3, hg3, hy3⟩ := own_stays hb3 (b := w.heap.size + 1) (by first | exact hy2 | (simp; omega))
          have R0' : (putL w3 c 0 (numL true q1)).cell? ⟨w.heap.size + 1, 0, none⟩ = some (.int .i64 0) := (putL_other _ _ _ _ (by omega)).trans (by rw [hd3, hd2]; simpa using R0.out)
          have R1' : (putL w3 c 0 (numL true q1)).cell? ⟨w.heap.size + 1, 1, none⟩ = some (.int .u64 0) := (putL_other _ _ _ _ (by omega)).trans (by rw [hd3, hd2]; simpa using R1.out)
          have FR' : ∀ o, (putL w3 c 0 (numL true q1)).frozen? ⟨w.heap.size + 1, o, none⟩ = false := fun o => by rw [putL_frozen, hg3, hg2]; simpa using FR.out o
          have Z' := Lib.hid (show w.heap.size + 1 < (putL w3 c 0 (numL true q1)).heap.size by rw [putL_size]; exact hy3)
          have R0' := Lib.hid R0'
          have R1' := Lib.hid R1'
          have FR' := Lib.hid FR'
          have A1 := Lib.hid a1
          change Exit.then _ _ Exit.normal _ (putL w3 c 0 (numL true q1))
          clear hc2 hf2 hc3 hf3 hd2 hg2 hd3 hg3 d0 d1 a1 hb hb2 hb3 fe e0 t0 t1 t2 t3 t4 t5 t6 t7
          generalize putL w3 c 0 (numL true q1) = W at *
          have t0 := A1.out 0 (by omega)
          have t1 := A1.out 1 (by omega)
          have t2 := A1.out 2 (by omega)
          have t3 := A1.out 3 (by omega)
          have t4 := A1.out 4 (by omega)
          have t5 := A1.out 5 (by omega)
          have t6 := A1.out 6 (by omega)
          have t7 := A1.out 7 (by omega)
          go_wp2_with fail
          refine (BK.out _).mono ?_
          rintro e w4 ⟨rfl, hb4⟩
          obtain ⟨hc4, hf4, hz4⟩ := own_stays hb4 (b := w.heap.size + 1) Z'.out
          have fr := FR'.out
          go_wp2
          have q0 : w4.cell? ⟨w.heap.size + 1, 0, none⟩ = some (.int .i64 0) := by rw [hc4]; exact R0'.out
          have q1 : w4.cell? ⟨w.heap.size + 1, 1, none⟩ = some (.int .u64 0) := by rw [hc4]; exact R1'.out
          obtain ⟨u0, u1⟩ := set2 (.int .i64 (hiW V)) (.int .u64 (loW V)) q0 q1
          have hb := HB3.out
          refine bodyPost_ret (v := .tuple #[wideA V, .int .i64 (b - r), .int .i64 0]) (by simp [results, Try.results58, go_sem, u0, u1, hz4]) rfl ⟨by rw [D.out.1, D.out.2.1, D.out.2.2, F1.out, F2.out], ?_⟩
          exact (by repeat (with_reducible (first | exact Below.refl _ _ | assumption | refine bl_alloc ?_ _ | refine bl_drewN ?_ _ | refine bl_drew ?_ | refine bl_call ?_ (by assumption) | (refine bl_setCell ?_ _ (Nat.le_refl _)) | (refine bl_setCell ?_ _ (by first | omega | (simp; done) | (simp; omega))))))
      · have F : backV s (n / b) = x / b ∧ n % b = x % b := by
          by_cases hxn : x < 0
          · have : s = true := by rw [← HSG.out]; simpa using hxn
            subst this
            have hR0 : n % b = 0 := by
              have : ¬ 0 < n % b := fun h => hsR ⟨rfl, h⟩
              omega
            have := DN0.out hxn hR0
            exact ⟨this.1, by rw [hR0]; exact this.2⟩
          · have : s = false := by rw [← HSG.out]; simpa using hxn
            subst this
            exact DP.out (by first | exact hxn | omega)
        have F1 := Lib.hid F.1
        have F2 := Lib.hid F.2
        have BK := Lib.hid (fun w => back_any s (n / b) w Q0 qm)
        clear F N0 N1 Q0 qm
        generalize n / b = q at *
        generalize n % b = r at *
        generalize backV s q = V at *
        generalize backB s q = vb at *
        have fr := FR.out
        have r0 := R0.out
        have r1 := R1.out
        have hcase : s = false ∨ (s = true ∧ ¬ 0 < r) := by
          cases s
          · exact .inl rfl
          · exact .inr ⟨rfl, fun h => hsR ⟨rfl, h⟩⟩
        clear hsR
        rcases hcase with rfl | ⟨rfl, hr⟩
        all_goals
          go_wp2_with fail
          refine (BK.out _).mono ?_
          rintro e w4 ⟨rfl, hb4⟩
          obtain ⟨hc4, hf4, hz4⟩ := own_stays hb4 (b := w.heap.size + 1) Z.out
          go_wp2
          have q0 : w4.cell? ⟨w.heap.size + 1, 0, none⟩ = some (.int .i64 0) := by rw [hc4]; exact R0.out
          have q1 : w4.cell? ⟨w.heap.size + 1, 1, none⟩ = some (.int .u64 0) := by rw [hc4]; exact R1.out
          obtain ⟨u0, u1⟩ := set2 (.int .i64 (hiW V)) (.int .u64 (loW V)) q0 q1
          have hb := HB.out
          refine bodyPost_ret (v := .tuple #[wideA V, .int .i64 r, .int .i64 0]) (by simp [results, Try.results58, go_sem, u0, u1, hz4]) rfl ⟨by rw [D.out.1, D.out.2.1, D.out.2.2, F1.out, F2.out], ?_⟩
          exact (by repeat (with_reducible (first | exact Below.refl _ _ | assumption | refine bl_alloc ?_ _ | refine bl_drewN ?_ _ | refine bl_drew ?_ | refine bl_call ?_ (by assumption) | (refine bl_setCell ?_ _ (Nat.le_refl _)) | (refine bl_setCell ?_ _ (by first | omega | (simp; done) | (simp; omega))))))
end Go.Proofs.Ytkejohmghacdhaa
