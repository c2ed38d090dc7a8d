import Derived.Test.YtkejohmghacdhaaDoorDzC
import Derived.Test.YtkejohmghacdhaaDoorRatC
import Derived.Test.YtkejohmghacdhaaDoorRatH
namespace Go.Proofs.YtkejohmghacdhaaDoor
set_option linter.unusedVariables false
set_option linter.unusedSimpArgs false
open Go Go.RowKit
theorem ex_ar {a S x : Int} (hS : 0 < S) (hS1 : S ≤ 9223372036854775807) (h0 : 0 ≤ x) (h1 : x ≤ S) : exN a S x = arN (a * x) S ∧ exD a S x = arD (a * x) S ∧ exE a S x = arE (a * x) S := by
  obtain ⟨_, e1, e2, _, _, e3⟩ := mk_right (mk_ok hS hS1 h0 h1)
  have s : mkS x S = false := by unfold mkS; exact decide_eq_false (by omega)
  have g := gN_pos (n := x) (d := S) (by omega)
  have mx : (mX x S : Int) * (gN x S : Int) = x := by have := mX_mul x S; have h : ((mX x S * gN x S : Nat) : Int) = (x.natAbs : Int) := by rw [this]
                                                      rw [Int.natCast_mul] at h; omega
  have my : (mY x S : Int) * (gN x S : Int) = S := by have := mY_mul x S; have h : ((mY x S * gN x S : Nat) : Int) = (S.natAbs : Int) := by rw [this]
                                                      rw [Int.natCast_mul] at h; omega
  have e1' : mkN x S = (mX x S : Int) := by rw [e1, s]; rfl
  have k := ar_scale (a * mkN x S) (1 * mkD x S) (k := (gN x S : Int)) (by omega)
  rw [e1', e2, Int.one_mul, Int.mul_assoc, mx, my] at k
  unfold exN exD exE
  rw [e1', e2, Int.one_mul]
  exact ⟨k.1.symm, k.2.1.symm, k.2.2.symm⟩
/-- what Floor and Ceil of a ratio p / S in lowest terms tell -/
theorem fl_ar {p S : Int} (hS : 0 < S) (h : arE p S = 0) : flV (arN p S) (arD p S) = p / S ∧ ckR (arN p S) (arD p S) = 0 ∧ (0 < p % S → clV (arN p S) (arD p S) = p / S + 1) := by
  obtain ⟨_, _, e1, e2, ck⟩ := ar_yes hS h
  have gp := gN_pos_q (p := p) hS
  clear h
  generalize arN p S = N at *
  generalize arD p S = B at *
  generalize (gN p S : Int) = G at *
  subst e1
  subst e2
  have fl : N / B = N * G / (B * G) := (Int.mul_ediv_mul_of_pos_left _ _ gp).symm
  have d1 := (ck_true ck).1
  refine ⟨by unfold flV; rw [if_pos ck, fl], (ck_true ck).2.2, fun hr => ?_⟩
  have hd : 1 < B := by
    rcases Int.lt_or_eq_of_le d1 with h1 | h1
    · exact h1
    · exfalso
      rw [← h1, Int.one_mul, Int.mul_emod_left] at hr
      omega
  unfold clV
  rw [if_pos ck, if_pos hd, fl]
theorem RowF.val {w : World} {b n : Nat} {f : Nat → Int} (h : RowF w b n f) (j : Nat) (hj : j < n) {v : Int} (e : f j = v) : w.cell? ⟨b, j, none⟩ = some (.int .i64 v) := e ▸ (h j hj).1
theorem add_ar {p q S : Int} (hS : 0 < S) (h1 : arE p S = 0) (h2 : arE q S = 0) :
    cpB (arN p S) (arD p S) (arN q S) (arD q S) = true ∧ arN (smP false (arN p S) (arD p S) (arN q S) (arD q S)) (arD p S * arD q S) = arN (p + q) S ∧
      arD (smP false (arN p S) (arD p S) (arN q S) (arD q S)) (arD p S * arD q S) = arD (p + q) S ∧ arE (smP false (arN p S) (arD p S) (arN q S) (arD q S)) (arD p S * arD q S) = arE (p + q) S := by
  obtain ⟨_, _, a1, a2, k1⟩ := ar_yes hS h1
  obtain ⟨_, _, b1, b2, k2⟩ := ar_yes hS h2
  have d1 := (ck_true k1).1
  have d2 := (ck_true k2).1
  generalize arN p S = n at *
  generalize arD p S = d at *
  generalize arN q S = m at *
  generalize arD q S = c at *
  generalize (gN p S : Int) = g at *
  generalize (gN q S : Int) = k at *
  refine ⟨by unfold cpB; rw [k1, k2]; rfl, ?_⟩
  have dc : 0 < d * c := Int.mul_pos (by omega) (by omega)
  have e : smP false n d m c = n * c + m * d := by unfold smP; simp
  -- both times S
  have x1 : n * S = p * d := by rw [a1]; conv => lhs; rw [a2]
                                rw [← Int.mul_assoc, Int.mul_right_comm]
  have x2 : m * S = q * c := by rw [b1]; conv => lhs; rw [b2]
                                rw [← Int.mul_assoc, Int.mul_right_comm]
  have key : (n * c + m * d) * S = (p + q) * (d * c) := by
    rw [Int.add_mul, Int.mul_right_comm n c S, x1, Int.mul_right_comm m d S, x2, Int.add_mul, Int.mul_assoc p d c, Int.mul_assoc q c d, Int.mul_comm c d]
  have s1 := ar_scale (n * c + m * d) (d * c) hS
  have s2 := ar_scale (p + q) S dc
  rw [key, Int.mul_comm (d * c) S] at s1
  rw [e]
  exact ⟨s1.1.symm.trans s2.1, s1.2.1.symm.trans s2.2.1, s1.2.2.symm.trans s2.2.2⟩
/-- the shares of those ahead of k, together -/
def sumX (a : Int) (xs : List Int) (k : Nat) : Int := a * sumI (xs.take k)
theorem sumX_succ (a : Int) (xs : List Int) (k : Nat) (hk : k < xs.length) : sumX a xs (k + 1) = sumX a xs k + a * xs.getD k 0 := by
  unfold sumX; rw [sumI_take_succ xs k hk, Int.mul_add]
theorem ar_zero {S : Int} (hS : 0 < S) (h : S ≤ 9223372036854775807) : arN 0 S = 0 ∧ arD 0 S = 1 ∧ arE 0 S = 0 := by
  have := ar_scale 0 1 hS
  rw [Int.zero_mul, Int.one_mul] at this
  have l := ar_low (n := 0) (d := 1) ⟨by decide, by decide⟩ ⟨by decide, by decide⟩ (by decide)
  exact ⟨this.1.trans l.1, this.2.1.trans l.2.1, this.2.2.trans l.2.2⟩
theorem ar_whole {a S : Int} (hS : 0 < S) (ha : In a) : arN (a * S) S = a ∧ arD (a * S) S = 1 := by
  have := ar_scale a 1 hS
  rw [Int.one_mul] at this
  have l := ar_low (n := a) (d := 1) ha ⟨by decide, by decide⟩ (decide_eq_true ⟨by decide, by unfold gN; simp⟩)
  exact ⟨this.1.trans l.1, this.2.1.trans l.2.1⟩
theorem add_E (p S : Int) : arE p S = 0 ∨ arE p S = 2 := by unfold arE; split; exact .inl rfl; exact .inr rfl
set_option maxRecDepth 100000 in
set_option maxHeartbeats 8000000 in
theorem exact_good (a : Int) (n : Nat) (xs : List Int) (f g q r L sn sd : Nat → Int) (ad : Option Addr) (cap : Nat) (w : World) (hT : Hid (Tab w)) (hn0 : 0 < n) (hn : n ≤ 30) (HS : Hid (SlI .i64 w ad xs))
    (E1 : Hid (∀ w, SlI .i64 w ad xs → Calls Tryd.prog 19 #[.int .i64 a, .slice ad n cap] w (ExOk n n f g w)))
    (C1 : Hid (∀ w, SlI .i64 w ad xs → Calls Tryd.prog 20 #[.int .i64 a, .slice ad n cap] w fun e w' => ∃ b, w.heap.size ≤ b ∧ e = .returned (.tuple #[.slice (some ⟨b, 0, none⟩) n n, .int .i64 0]) ∧ RowF w' b n L ∧ Below w.heap.size w w'))
    (FL : Hid (∀ k W, k < n → Calls Tryd.prog 21 #[ratA (f k) (g k)] W fun e w' => e = .returned (.tuple #[.int .i64 (q k), .int .i64 0]) ∧ Below W.heap.size W w'))
    (CL : Hid (∀ k W, k < n → ∃ v, (0 < r k → v = q k + 1) ∧ Calls Tryd.prog 22 #[ratA (f k) (g k)] W fun e w' => e = .returned (.tuple #[.int .i64 v, .int .i64 0]) ∧ Below W.heap.size W w'))
    (ok : Nat → Prop) (O0 : Hid (ok 0)) (AD : Hid (∀ k W, k < n → ok k → Tab W → ((Calls Tryd.prog 9 #[ratA (sn k) (sd k), ratA (f k) (g k)] W fun e w' => e = .returned (.tuple #[ratA (sn (k + 1)) (sd (k + 1)), .int .i64 0]) ∧ Below W.heap.size W w') ∧ ok (k + 1)) ∨ (∃ x y, Calls Tryd.prog 9 #[ratA (sn k) (sd k), ratA (f k) (g k)] W fun e w' => e = .returned (.tuple #[ratA x y, .int .i64 2]) ∧ Below W.heap.size W w')))
    (D : Hid (∀ k, k < n → L k = q k ∨ (L k = q k + 1 ∧ 0 < r k))) (Z : Hid (sn 0 = 0 ∧ sd 0 = 1 ∧ sn n = a ∧ sd n = 1)) :
    Calls Tryd.prog 7 #[.int .i64 a, .slice ad n cap] w fun e w' => e = .returned (.bool true) ∧ Below w.heap.size w w' := by
  have t1 : decide ((30 : Int) < (n : Int)) = false := decide_eq_false (by omega)
  have hq := run_ratSame
  go_enter Tryd.func7, Tryd.ntmps7
  go_wp2_with fail
  refine (live4 _).mono ?_
  rintro e w1 ⟨rfl, hb1⟩
  have s1 := Lib.hid (HS.out.go hb1)
  have B1 := Lib.hid hb1
  clear hb1
  go_wp2_with fail
  refine (E1.out _ s1.out).mono ?_
  rintro e w2 ⟨hb, h2⟩
  have B2 := Lib.hid (bl_call B1.out hb)
  have s2 := Lib.hid (s1.out.go hb)
  clear hb s1 B1
  rcases h2 with ⟨h, _⟩ | ⟨_, bx, cx, rfl, hbx, hr⟩
  · exact absurd h (Nat.lt_irrefl _)
  have X2 := Lib.hid hr
  clear hr hbx
  go_wp2_with fail
  refine (C1.out _ s2.out).mono ?_
  rintro e w3 ⟨bl, _, rfl, hr, hb⟩
  have B3 := Lib.hid (bl_call B2.out hb)
  have X3 := Lib.hid (X2.out.go hb)
  have L3 := Lib.hid hr
  clear hb hr B2 X2 s2 E1 C1
  obtain ⟨z0, z1, z2, z3⟩ := Z.out
  have S3 : Aside ((w3.alloc (.cells #[.int .i64 0, .int .i64 1] 23)).cell? ⟨w3.heap.size, 0, none⟩ = some (.int .i64 (sn 0)) ∧ (w3.alloc (.cells #[.int .i64 0, .int .i64 1] 23)).cell? ⟨w3.heap.size, 1, none⟩ = some (.int .i64 (sd 0)) ∧ ∀ o, (w3.alloc (.cells #[.int .i64 0, .int .i64 1] 23)).frozen? ⟨w3.heap.size, o, none⟩ = false) := by
    show _ ∧ _
    rw [z0, z1]
    exact ⟨by simp, by simp, fun o => by simp⟩
  have B4 : Aside (Below w.heap.size w (w3.alloc (.cells #[.int .i64 0, .int .i64 1] 23))) := bl_alloc B3.out _
  have X4 := Lib.hid (X3.out.go (bl_alloc (Below.refl _ _) (.cells #[.int .i64 0, .int .i64 1] 23)))
  have L4 := Lib.hid (L3.out.go (bl_alloc (Below.refl _ _) (.cells #[.int .i64 0, .int .i64 1] 23)))
  have hbs := B3.out.size
  have hxs : bx ≠ w3.heap.size := by have := X3.out.lt (by omega); omega
  have hls : bl ≠ w3.heap.size := by have := L3.out.lt hn0; omega
  have ZZ := Lib.hid (And.intro z2 z3)
  clear B3 X3 L3 z0 z1 z2 z3
  go_wp2
  generalize w3.alloc (.cells #[.int .i64 0, .int .i64 1] 23) = w4 at S3 B4 X4 L4 ⊢
  generalize w3.heap.size = bs at S3 hbs hxs hls ⊢
  go_loopw [68] (fun i wr => ∃ k : Nat, k ≤ n ∧ i = .int .i64 k ∧ Aside (Below w.heap.size w wr) ∧ Aside (RowF wr bx (n * 2) (cellR f g n)) ∧ Aside (RowF wr bl n L) ∧ Aside (wr.cell? ⟨bs, 0, none⟩ = some (.int .i64 (sn k)) ∧ wr.cell? ⟨bs, 1, none⟩ = some (.int .i64 (sd k)) ∧ ∀ o, wr.frozen? ⟨bs, o, none⟩ = false) ∧ Hid (ok k)) (fun i _ => n - (intOf i).toNat)
  case atStart => exact ⟨0, by omega, rfl, B4, X4, L4, S3, O0⟩
  case round =>
    clear B4 X4 L4 S3
    obtain ⟨k, hk, rfl, HB, HX, HLr, HQ, OK⟩ := hrel
    by_cases hlt : k < n
    · have hz : (k : Int) < (n : Int) := by omega
      have x0 := HX.out.val (k * 2) (by omega) (cellR_a hlt)
      have x1 := HX.out.val (k * 2 + 1) (by omega) (cellR_b hlt)
      have hbs1 : bs < wr.heap.size := World.block_lt_of_cell? wr ⟨bs, 0, none⟩ HQ.out.1
      go_wp2_with fail
      refine (FL.out k _ hlt).mono ?_
      rintro e w5 ⟨rfl, hb5⟩
      -- what the round has laid
      have A5 : Below wr.heap.size wr w5 := bl_call (bl_alloc (Below.refl _ _) _) hb5
      have bk := own_stays hb5 (b := wr.heap.size) (by simp)
      have y0 : w5.cell? ⟨wr.heap.size, 0, none⟩ = some (.int .i64 (f k)) := by rw [bk.1]; simp
      have y1 : w5.cell? ⟨wr.heap.size, 1, none⟩ = some (.int .i64 (g k)) := by rw [bk.1]; simp
      have yz := bk.2.2
      have A5 := Lib.hid A5
      clear hb5 bk x0 x1
      obtain ⟨cv, hcv, CC⟩ := CL.out k w5 hlt
      have HCV := Lib.hid hcv
      clear hcv
      go_wp2_with fail
      refine CC.mono ?_
      rintro e w6 ⟨rfl, hb6⟩
      have A6 := Lib.hid (bl_call A5.out hb6)
      have bk := own_stays hb6 (b := wr.heap.size) yz
      have y0' : w6.cell? ⟨wr.heap.size, 0, none⟩ = some (.int .i64 (f k)) := by rw [bk.1]; exact y0
      have y1' : w6.cell? ⟨wr.heap.size, 1, none⟩ = some (.int .i64 (g k)) := by rw [bk.1]; exact y1
      have yz' := bk.2.2
      clear hb6 bk y0 y1 yz A5 CC
      have l0 := ((HLr.out.go A6.out) k hlt).1
      have q6 : w6.cell? ⟨bs, 0, none⟩ = some (.int .i64 (sn k)) := (A6.out.cell (p := ⟨bs, 0, none⟩) hbs1).trans HQ.out.1
      have q7 : w6.cell? ⟨bs, 1, none⟩ = some (.int .i64 (sd k)) := (A6.out.cell (p := ⟨bs, 1, none⟩) hbs1).trans HQ.out.2.1
      have hT6 : Tab w6 := hT.out.go (bl_call HB.out A6.out)
      have next : ∃ x y er, (er = 0 ∧ x = sn (k + 1) ∧ y = sd (k + 1) ∧ ok (k + 1) ∨ er = 2) ∧ Calls Tryd.prog 9 #[ratA (sn k) (sd k), ratA (f k) (g k)] w6 fun e w' => e = .returned (.tuple #[ratA x y, .int .i64 er]) ∧ Below w6.heap.size w6 w' := by
        rcases AD.out k w6 hlt OK.out hT6 with ⟨h, ho⟩ | ⟨x, y, h⟩
        · exact ⟨_, _, 0, .inl ⟨rfl, rfl, rfl, ho⟩, h⟩
        · exact ⟨x, y, 2, .inr rfl, h⟩
      obtain ⟨x, y, er, her, CA⟩ := next
      have HER := Lib.hid her
      have dk := D.out k hlt
      clear her hT6
      have fin : ∀ w8 : World, Below w6.heap.size w6 w8 → Hid (Below w.heap.size w w8 ∧ RowF w8 bx (n * 2) (cellR f g n) ∧ RowF w8 bl n L ∧ w8.cell? ⟨bs, 0, none⟩ = some (.int .i64 (sn k)) ∧ w8.cell? ⟨bs, 1, none⟩ = some (.int .i64 (sd k)) ∧ ∀ o, w8.frozen? ⟨bs, o, none⟩ = false) := fun w8 hb => by
        have A8 := bl_call A6.out hb
        exact ⟨bl_call HB.out A8, HX.out.go A8, HLr.out.go A8, (A8.cell (p := ⟨bs, 0, none⟩) hbs1).trans HQ.out.1, (A8.cell (p := ⟨bs, 1, none⟩) hbs1).trans HQ.out.2.1, fun o => (A8.frozen (p := ⟨bs, o, none⟩) hbs1).trans (HQ.out.2.2 o)⟩
      have FIN := Lib.hid fin
      clear fin
      have tail : True := trivial
      have tt : (L k = q k) ∨ (L k = q k + 1 ∧ cv = q k + 1) := by
        rcases dk with h | ⟨h, h2⟩
        · exact .inl h
        · exact .inr ⟨h, HCV.out h2⟩
      clear dk HCV
      rcases tt with h | ⟨h, rfl⟩
      all_goals
        rw [h] at l0
        have u1 : (q k != q k) = false := by simp
        have u2 : (q k + 1 != q k) = true := by simp; omega
        have u3 : (q k + 1 != q k + 1) = false := by simp
        clear h
        go_wp2_with fail
        refine CA.mono ?_
        rintro e w8 ⟨rfl, hb8⟩
        have F8 := Lib.hid (FIN.out w8 hb8)
        clear hb8 q6 q7 l0 y0' y1' yz' FIN A6 CA
        rcases HER.out with ⟨rfl, rfl, rfl, ho⟩ | rfl
        · have c0 := F8.out.2.2.2.1
          have c1 := F8.out.2.2.2.2.1
          have cf := F8.out.2.2.2.2.2
          have hlt8 : bs < w8.heap.size := World.block_lt_of_cell? w8 ⟨bs, 0, none⟩ c0
          have OK2 := Lib.hid ho
          clear ho
          have G : ∀ o : Obj, Below w.heap.size w (((w8.setCell ⟨bs, 0, none⟩ (.int .i64 (sn (k + 1)))).setCell ⟨bs, 1, none⟩ (.int .i64 (sd (k + 1)))).alloc o) ∧ RowF (((w8.setCell ⟨bs, 0, none⟩ (.int .i64 (sn (k + 1)))).setCell ⟨bs, 1, none⟩ (.int .i64 (sd (k + 1)))).alloc o) bx (n * 2) (cellR f g n) ∧
              RowF (((w8.setCell ⟨bs, 0, none⟩ (.int .i64 (sn (k + 1)))).setCell ⟨bs, 1, none⟩ (.int .i64 (sd (k + 1)))).alloc o) bl n L ∧ ((((w8.setCell ⟨bs, 0, none⟩ (.int .i64 (sn (k + 1)))).setCell ⟨bs, 1, none⟩ (.int .i64 (sd (k + 1)))).alloc o).cell? ⟨bs, 0, none⟩ = some (.int .i64 (sn (k + 1))) ∧
              (((w8.setCell ⟨bs, 0, none⟩ (.int .i64 (sn (k + 1)))).setCell ⟨bs, 1, none⟩ (.int .i64 (sd (k + 1)))).alloc o).cell? ⟨bs, 1, none⟩ = some (.int .i64 (sd (k + 1))) ∧ ∀ j, (((w8.setCell ⟨bs, 0, none⟩ (.int .i64 (sn (k + 1)))).setCell ⟨bs, 1, none⟩ (.int .i64 (sd (k + 1)))).alloc o).frozen? ⟨bs, j, none⟩ = false) := fun o => by
            obtain ⟨f1, f2, f3, f4, f5, f6⟩ := F8.out
            have al : Below ((w8.setCell ⟨bs, 0, none⟩ (.int .i64 (sn (k + 1)))).setCell ⟨bs, 1, none⟩ (.int .i64 (sd (k + 1)))).heap.size ((w8.setCell ⟨bs, 0, none⟩ (.int .i64 (sn (k + 1)))).setCell ⟨bs, 1, none⟩ (.int .i64 (sd (k + 1)))) (((w8.setCell ⟨bs, 0, none⟩ (.int .i64 (sn (k + 1)))).setCell ⟨bs, 1, none⟩ (.int .i64 (sd (k + 1)))).alloc o) := bl_alloc (Below.refl _ _) o
            have hl : bs < ((w8.setCell ⟨bs, 0, none⟩ (.int .i64 (sn (k + 1)))).setCell ⟨bs, 1, none⟩ (.int .i64 (sd (k + 1)))).heap.size := by simpa using hlt8
            obtain ⟨s0, s1⟩ := set2 (.int .i64 (sn (k + 1))) (.int .i64 (sd (k + 1))) f4 f5
            refine ⟨bl_alloc ((f1.setCell hbs _).setCell hbs _) _, ((f2.other (p := ⟨bs, 0, none⟩) (Ne.symm hxs) _).other (p := ⟨bs, 1, none⟩) (Ne.symm hxs) _).go al, ((f3.other (p := ⟨bs, 0, none⟩) (Ne.symm hls) _).other (p := ⟨bs, 1, none⟩) (Ne.symm hls) _).go al, (al.cell (p := ⟨bs, 0, none⟩) hl).trans ((World.cell?_setCell_other _ _ _ _ (by simp)).trans s0), (al.cell (p := ⟨bs, 1, none⟩) hl).trans s1, fun j => (al.frozen (p := ⟨bs, j, none⟩) hl).trans (by simpa using f6 j)⟩
          have G := Lib.hid G
          clear HER F8
          go_wp2
          go_roundw
          case rel => exact ⟨k + 1, by omega, by go_num, (G.out _).1, (G.out _).2.1, (G.out _).2.2.1, (G.out _).2.2.2, OK2⟩
          case measure => simp [intOf]; omega
        · clear HER
          go_wp2
          go_ret
          exact ⟨rfl, bl_alloc F8.out.1 _⟩
    · obtain rfl : k = n := by omega
      have hz : ¬ (k : Int) < (k : Int) := by omega
      have c0 := HQ.out.1
      have c1 := HQ.out.2.1
      rw [ZZ.out.1] at c0
      rw [ZZ.out.2] at c1
      go_wp2
      go_ret
      exact ⟨ret_b (by first | rfl | simp), HB.out⟩
set_option maxRecDepth 100000 in
set_option maxHeartbeats 2000000 in
theorem exact_bad (a u v : Int) (n : Nat) (xs : List Int) (ad : Option Addr) (cap : Nat) (w : World) (hn : n ≤ 30) (hu : (u == 0) = false) (huv : (v == u) = true ∨ ((v == u) = false ∧ u = 2)) (HS : Hid (SlI .i64 w ad xs))
    (E1 : Hid (∀ w, SlI .i64 w ad xs → Calls Tryd.prog 19 #[.int .i64 a, .slice ad n cap] w fun e w' => e = .returned (.tuple #[.slice none 0 0, .int .i64 u]) ∧ Below w.heap.size w w'))
    (C1 : Hid (∀ w, SlI .i64 w ad xs → Calls Tryd.prog 20 #[.int .i64 a, .slice ad n cap] w fun e w' => (∃ b c m, e = .returned (.tuple #[.slice b c m, .int .i64 v])) ∧ Below w.heap.size w w')) :
    Calls Tryd.prog 7 #[.int .i64 a, .slice ad n cap] w fun e w' => e = .returned (.bool true) ∧ Below w.heap.size w w' := by
  have t1 : decide ((30 : Int) < (n : Int)) = false := decide_eq_false (by omega)
  rcases huv with hv | ⟨hv, rfl⟩
  all_goals
    go_enter Tryd.func7, Tryd.ntmps7
    go_wp2_with fail
    refine (live4 _).mono ?_
    rintro e w1 ⟨rfl, hb1⟩
    have s1 := Lib.hid (HS.out.go hb1)
    have B1 := Lib.hid hb1
    clear hb1
    go_wp2_with fail
    refine (E1.out _ s1.out).mono ?_
    rintro e w2 ⟨rfl, hb⟩
    have B2 := Lib.hid (bl_call B1.out hb)
    have s2 := Lib.hid (s1.out.go hb)
    clear hb s1 B1
    have C := C1.out _ s2.out
    go_wp2_with fail
    refine C.mono ?_
    rintro e w3 ⟨⟨b, c, m, rfl⟩, hb⟩
    have B3 := Lib.hid (bl_call B2.out hb)
    clear hb B2 s2 C
    go_wp2
    go_ret
    exact ⟨rfl, B3.out⟩
theorem shareExact_any (a : Int) (xs : List Int) (ad : Option Addr) (cap : Nat) (w : World) (ha : In a) (hn : xs.length ≤ 9223372036854775807) (hx : ∀ k, k < xs.length → In (xs.getD k 0)) (hs : SlI .i64 w ad xs) (hT : Tab w) :
    Calls Tryd.prog 7 #[.int .i64 a, .slice ad xs.length cap] w fun e w' => e = .returned (.bool true) ∧ Below w.heap.size w w' := by
  by_cases h : 30 < xs.length
  · have t1 : decide ((30 : Int) < (xs.length : Int)) = true := decide_eq_true (by omega)
    clear hx hs
    generalize xs.length = n at *
    go_enter Tryd.func7, Tryd.ntmps7
    go_wp2_with fail
    refine (live4 _).mono ?_
    rintro e w1 ⟨rfl, hb1⟩
    go_wp2_with fail
    go_ret
    exact ⟨rfl, (by repeat (with_reducible (first | exact Below.refl _ _ | assumption | refine bl_alloc ?_ _ | refine bl_drewN ?_ _ | refine bl_drew ?_ | refine bl_call ?_ (by assumption) | (refine bl_setCell ?_ _ (Nat.le_refl _)) | (refine bl_setCell ?_ _ (by first | omega | (simp; done) | (simp; omega))))))⟩
  by_cases hE : allE xs = 0
  · obtain ⟨WO, hN⟩ := wok_of hE
    have sp := fun w h => split_yes a xs ad cap w hn hx h ha hE
    obtain ⟨p, h1, h2, h3⟩ := first_bad (fun k => exE a (sumI xs) (xs.getD k 0)) (fun k => exE_02 _ _ _) xs.length
    have hA := fun w hs => all_any xs ad cap w hn hx hs
    rw [hE, hN] at hA
    have ex : ∀ w, SlI .i64 w ad xs → Calls Tryd.prog 19 #[.int .i64 a, .slice ad xs.length cap] w (ExOk xs.length p (fun k => exN a (sumI xs) (xs.getD k 0)) (fun k => exD a (sumI xs) (xs.getD k 0)) w) := fun w hs =>
      exact_walk a (sumI xs) xs.length p xs (fun k => mkN (xs.getD k 0) (sumI xs)) (fun k => mkD (xs.getD k 0) (sumI xs)) _ _ (fun k => exE a (sumI xs) (xs.getD k 0)) ad cap w WO.nonempty WO.len h1 rfl hs h2 h3 (hA w hs)
        (fun k W hk => ex_make WO.sum WO.fit (WO.x_bd hk).1 (WO.x_bd hk).2 W) (fun k W hk => ex_mul WO.sum WO.fit (WO.x_bd hk).1 (WO.x_bd hk).2 ha W)
    by_cases hp : p < xs.length
    · refine exact_bad a 2 0 xs.length xs ad cap w (by omega) (by decide) (.inr ⟨by decide, rfl⟩) hs (fun w h => (ex w h).mono ?_) (fun w h => (sp w h).mono ?_)
      · rintro e w' ⟨hb, ⟨_, rfl⟩ | ⟨h, _⟩⟩
        · exact ⟨rfl, hb⟩
        · omega
      · rintro e w' ⟨b, _, rfl, _, hb⟩
        exact ⟨⟨_, _, _, rfl⟩, hb⟩
    · obtain rfl : p = xs.length := by omega
      have ar := fun k (hk : k < xs.length) => ex_ar (a := a) WO.sum WO.fit (WO.x_bd hk).1 (WO.x_bd hk).2
      have e0 : ∀ k, k < xs.length → arE (a * xs.getD k 0) (sumI xs) = 0 := fun k hk => by rw [← (ar k hk).2.2]; exact h2 k hk
      have inf : ∀ k, k < xs.length → In (exN a (sumI xs) (xs.getD k 0)) ∧ In (exD a (sumI xs) (xs.getD k 0)) := fun k hk => by
        obtain ⟨i1, i2, _⟩ := ar_yes WO.sum (e0 k hk)
        rw [(ar k hk).1, (ar k hk).2.1]; exact ⟨i1, i2⟩
      have add := fun k (hk : k < xs.length) (hok : arE (sumX a xs k) (sumI xs) = 0) => add_ar WO.sum hok (e0 k hk)
      refine exact_good a xs.length xs (fun k => exN a (sumI xs) (xs.getD k 0)) (fun k => exD a (sumI xs) (xs.getD k 0)) (fun k => (shQ a xs).getD k 0) (fun k => (shR a xs).getD k 0) (fun k => (shL a xs).getD k 0) (fun k => arN (sumX a xs k) (sumI xs)) (fun k => arD (sumX a xs k) (sumI xs)) ad cap w hT WO.nonempty (by omega) hs ex sp
        (fun k W hk => by
          have F := rat_floor _ _ W (inf k hk).1 (inf k hk).2
          obtain ⟨f1, f2, _⟩ := fl_ar WO.sum (e0 k hk)
          rw [(ar k hk).1, (ar k hk).2.1, f1, f2, ← at_shQ hk] at F
          show Calls _ _ #[ratA (exN a (sumI xs) (xs.getD k 0)) (exD a (sumI xs) (xs.getD k 0))] _ _
          rw [(ar k hk).1, (ar k hk).2.1]
          exact F)
        (fun k W hk => by
          have F := rat_ceil _ _ W (inf k hk).1 (inf k hk).2
          obtain ⟨_, f2, f3⟩ := fl_ar WO.sum (e0 k hk)
          refine ⟨clV (arN (a * xs.getD k 0) (sumI xs)) (arD (a * xs.getD k 0) (sumI xs)), fun hr => ?_, ?_⟩
          · show _ = (shQ a xs).getD k 0 + 1
            rw [at_shQ hk]
            have hr' : 0 < (shR a xs).getD k 0 := hr
            rw [at_shR hk] at hr'
            exact f3 hr'
          · show Calls _ _ #[ratA (exN a (sumI xs) (xs.getD k 0)) (exD a (sumI xs) (xs.getD k 0))] _ _
            rw [(ar k hk).1, (ar k hk).2.1, f2] at F
            rw [(ar k hk).1, (ar k hk).2.1]
            exact F)
        (fun k => arE (sumX a xs k) (sumI xs) = 0) (by
          show arE (sumX a xs 0) (sumI xs) = 0
          rw [show sumX a xs 0 = 0 by unfold sumX; simp [sumI]]
          exact (ar_zero WO.sum WO.fit).2.2)
        (fun k W hk hok hTW => by
          obtain ⟨a1, a2, a3, a4⟩ := add k hk hok
          obtain ⟨j1, j2, _⟩ := ar_yes WO.sum hok
          have F := rat_add (arN (sumX a xs k) (sumI xs)) (arD (sumX a xs k) (sumI xs)) _ _ W j1 j2 (inf k hk).1 (inf k hk).2 hTW
          rw [(ar k hk).1, (ar k hk).2.1, a1, vN_yes, vN_yes, vE_yes, a2, a3, a4, ← sumX_succ a xs k hk] at F
          have G : Calls Tryd.prog 9 #[ratA (arN (sumX a xs k) (sumI xs)) (arD (sumX a xs k) (sumI xs)), ratA (exN a (sumI xs) (xs.getD k 0)) (exD a (sumI xs) (xs.getD k 0))] W fun e w' => e = .returned (.tuple #[ratA (arN (sumX a xs (k + 1)) (sumI xs)) (arD (sumX a xs (k + 1)) (sumI xs)), .int .i64 (arE (sumX a xs (k + 1)) (sumI xs))]) ∧ Below W.heap.size W w' := by
            rw [(ar k hk).1, (ar k hk).2.1]; exact F
          rcases add_E (sumX a xs (k + 1)) (sumI xs) with h | h
          · rw [h] at G; exact .inl ⟨G, h⟩
          · rw [h] at G; exact .inr ⟨_, _, G⟩)
        (fun k hk => WO.parts a hk) (by
          have e0 : sumX a xs 0 = 0 := by unfold sumX; simp [sumI]
          have en : sumX a xs xs.length = a * sumI xs := by unfold sumX; rw [List.take_length]
          have z := ar_zero WO.sum WO.fit
          have w := ar_whole WO.sum ha
          show arN (sumX a xs 0) (sumI xs) = 0 ∧ arD (sumX a xs 0) (sumI xs) = 1 ∧ arN (sumX a xs xs.length) (sumI xs) = a ∧ arD (sumX a xs xs.length) (sumI xs) = 1
          rw [e0, en]
          exact ⟨z.1, z.2.1, w.1, w.2⟩)
  · exact exact_bad a (allE xs) (allE xs) xs.length xs ad cap w (by omega) (by simpa using hE) (.inl (by simp)) hs (fun w h => exact_no a xs ad cap w hn hx h hE) (fun w h => (split_no a xs ad cap w hn hx h hE).mono fun e w' ⟨he, hb⟩ => ⟨⟨_, _, _, he⟩, hb⟩)
end Go.Proofs.YtkejohmghacdhaaDoor
