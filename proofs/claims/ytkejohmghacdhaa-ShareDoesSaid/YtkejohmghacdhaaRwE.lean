/- Contracts of the reference's chapter 2: the lesser digits first. -/
import Derived.Test.YtkejohmghacdhaaRwD
namespace Go.Proofs.Ytkejohmghacdhaa
set_option linter.unusedVariables false
set_option linter.unusedSimpArgs false
open Go.RowKit
/-- values stored one behind the other -/
def putL (w : World) (b o : Nat) : List Value → World
  | [] => w
  | v :: vs => putL (w.setCell ⟨b, o, none⟩ v) b (o + 1) vs
theorem putL_other (w : World) (b o : Nat) (vs : List Value) {c p : Nat} (h : c ≠ b) : (putL w b o vs).cell? ⟨c, p, none⟩ = w.cell? ⟨c, p, none⟩ := by
  induction vs generalizing w o with
  | nil => rfl
  | cons v vs ih => show (putL (w.setCell ⟨b, o, none⟩ v) b (o + 1) vs).cell? _ = _; rw [ih, World.cell?_setCell_other _ _ _ _ (fun e => h (by injection e with e1 _ _; first | exact e1 | exact e1.symm))]
theorem putL_low (w : World) (b o : Nat) (vs : List Value) {p : Nat} (h : p < o) : (putL w b o vs).cell? ⟨b, p, none⟩ = w.cell? ⟨b, p, none⟩ := by
  induction vs generalizing w o with
  | nil => rfl
  | cons v vs ih => show (putL (w.setCell ⟨b, o, none⟩ v) b (o + 1) vs).cell? _ = _; rw [ih _ _ (by omega), World.cell?_setCell_other _ _ _ _ (fun e => by injection e with _ e2 _; omega)]
theorem putL_frozen (w : World) (b o : Nat) (vs : List Value) (a : Addr) : (putL w b o vs).frozen? a = w.frozen? a := by
  induction vs generalizing w o with
  | nil => rfl
  | cons v vs ih => show (putL (w.setCell ⟨b, o, none⟩ v) b (o + 1) vs).frozen? a = _; rw [ih]; simp
theorem putL_size (w : World) (b o : Nat) (vs : List Value) : (putL w b o vs).heap.size = w.heap.size := by
  induction vs generalizing w o with
  | nil => rfl
  | cons v vs ih => show (putL (w.setCell ⟨b, o, none⟩ v) b (o + 1) vs).heap.size = _; rw [ih]; simp
theorem putL_below {w0 w : World} (h : Below w0.heap.size w0 w) {b : Nat} (hb : w0.heap.size ≤ b) (o : Nat) (vs : List Value) : Below w0.heap.size w0 (putL w b o vs) := by
  induction vs generalizing w o with
  | nil => exact h
  | cons v vs ih => exact ih (bl_setCell h v hb) (o + 1)
theorem putL_at (w : World) (b o : Nat) (vs : List Value) (he : ∀ j, j < vs.length → ∃ u, w.cell? ⟨b, o + j, none⟩ = some u) : ∀ j (hj : j < vs.length), (putL w b o vs).cell? ⟨b, o + j, none⟩ = some vs[j] := by
  induction vs generalizing w o with
  | nil => intro j hj; simp at hj
  | cons v vs ih =>
    intro j hj
    show (putL (w.setCell ⟨b, o, none⟩ v) b (o + 1) vs).cell? _ = _
    match j, hj with
    | 0, _ =>
      rw [Nat.add_zero, putL_low _ _ _ _ (by omega)]
      obtain ⟨u, hu⟩ := he 0 (by simp)
      simpa using World.cell?_setCell_same _ _ v hu
    | j + 1, hj =>
      have := ih (w.setCell ⟨b, o, none⟩ v) (o + 1) (fun i hi => by
        obtain ⟨u, hu⟩ := he (i + 1) (by simp; omega)
        refine ⟨u, ?_⟩
        rw [World.cell?_setCell_other _ _ _ _ (fun e => by injection e with _ e2 _; omega), show o + 1 + i = o + (i + 1) by omega]; exact hu) j (by simp at hj; omega)
      rw [show o + (j + 1) = o + 1 + j by omega, this]; simp
abbrev numL (b : Bool) (n : Int) : List Value := [.bool b, .int .u64 (dg n 0), .int .u64 (dg n 1), .int .u64 (dg n 2), .int .u64 (dg n 3), .int .u64 (dg n 4), .int .u64 (dg n 5), .int .u64 (dg n 6), .int .u64 (dg n 7)]
theorem putL_num {w : World} {b : Nat} {s0 : Bool} {f : Nat → Int} (h0 : w.cell? ⟨b, 0, none⟩ = some (.bool s0)) (hd : Digs w b 1 f) (s : Bool) (n : Int) :
    (putL w b 0 (numL s n)).cell? ⟨b, 0, none⟩ = some (.bool s) ∧ Digs (putL w b 0 (numL s n)) b 1 (dg n) := by
  have he : ∀ j, j < (numL s n).length → ∃ u, w.cell? ⟨b, 0 + j, none⟩ = some u := fun j hj => by
    match j with
    | 0 => exact ⟨_, h0⟩
    | j + 1 => exact ⟨_, by have := hd j (by simp at hj; omega); rw [show 0 + (j + 1) = 1 + j by omega]; exact this⟩
  have h := putL_at w b 0 (numL s n) he
  refine ⟨by simpa using h 0 (by simp), fun j hj => ?_⟩
  rcases lt8 hj with rfl | rfl | rfl | rfl | rfl | rfl | rfl | rfl
  · simpa using h 1 (by simp)
  · simpa using h 2 (by simp)
  · simpa using h 3 (by simp)
  · simpa using h 4 (by simp)
  · simpa using h 5 (by simp)
  · simpa using h 6 (by simp)
  · simpa using h 7 (by simp)
  · simpa using h 8 (by simp)
theorem putL_other_digs {w : World} {b c : Nat} {f : Nat → Int} (hd : Digs w c 1 f) (h : c ≠ b) (vs : List Value) : Digs (putL w b 0 vs) c 1 f := fun j hj => (putL_other w b 0 vs h).trans (hd j hj)
set_option maxRecDepth 100000 in
set_option maxHeartbeats 8000000 in
theorem plus_lt (b : Bool) (n m : Int) (w : World) (hn : 0 ≤ n) (hn1 : n < 340282366920938463463374607431768211456) (hm : 0 ≤ m) (hm1 : m < 340282366920938463463374607431768211456) (hnm : n < m) :
    Calls Try.prog 76 #[numA b n, numA (!b) m] w fun e w' => e = .returned (.tuple #[numA (!b) (m - n), .bool true]) ∧ Below w.heap.size w w' := by
  have C := fun w => rcmp_any n m w hn hn1 hm hm1
  have hc0 : cmpI n m < 0 := by rw [cmpI_lt hnm]; decide
  generalize cmpI n m = c at *
  have C := Lib.hid C
  have HN := Lib.hid hn
  have HM := Lib.hid hm
  have HNM := Lib.hid (Int.le_of_lt hnm)
  clear hn hn1 hm hm1 hnm
  have Z := Lib.hid (lkA_zero m n)
  cases b
  · go_enter Try.func76, Try.ntmps76
    go_wp2_with fail
    refine (C.out _).mono ?_
    rintro e w1 ⟨rfl, hb1⟩
    obtain ⟨hc1, hf1, hz1⟩ := own_stays hb1 (b := w.heap.size) (by go_simp)
    obtain ⟨hd1, hg1, hy1⟩ := own_stays hb1 (b := w.heap.size + 1) (by go_simp)
    obtain ⟨hx1, hh1, hx2⟩ := own_stays hb1 (b := w.heap.size + 2) (by go_simp)
    have HB := Lib.hid (show Below w.heap.size w w1 from (by repeat (with_reducible (first | exact Below.refl _ _ | assumption | refine bl_alloc ?_ _ | refine bl_drewN ?_ _ | refine bl_drew ?_ | refine bl_call ?_ (by assumption) | (refine bl_setCell ?_ _ (Nat.le_refl _)) | (refine bl_setCell ?_ _ (by first | omega | (simp; done) | (simp; omega)))))))
    clear hb1
    have d0 : w1.cell? ⟨w.heap.size, 0, none⟩ = some (.bool false) := by rw [hc1]; go_simp
    have d1 : Digs w1 w.heap.size 1 (dg n) := by intro j hj; rw [hc1]; rcases lt8 hj with rfl | rfl | rfl | rfl | rfl | rfl | rfl | rfl <;> go_simp
    have d2 : w1.cell? ⟨w.heap.size + 1, 0, none⟩ = some (.bool true) := by rw [hd1]; go_simp
    have d3 : Digs w1 (w.heap.size + 1) 1 (dg m) := by intro j hj; rw [hd1]; rcases lt8 hj with rfl | rfl | rfl | rfl | rfl | rfl | rfl | rfl <;> go_simp
    have d4 : w1.cell? ⟨w.heap.size + 2, 0, none⟩ = some (.bool false) := by rw [hx1]; go_simp
    have d5 : Digs w1 (w.heap.size + 2) 1 (fun _ => 0) := by intro j hj; rw [hx1]; rcases lt8 hj with rfl | rfl | rfl | rfl | rfl | rfl | rfl | rfl <;> go_simp
    have f0 : ∀ o, w1.frozen? ⟨w.heap.size, o, none⟩ = false := by intro o; rw [hf1]; go_simp
    have f2 : ∀ o, w1.frozen? ⟨w.heap.size + 2, o, none⟩ = false := by intro o; rw [hh1]; go_simp
    obtain ⟨a0, a1⟩ := putL_num d0 d1 true m
    have D1 := Lib.hid d1
    have D3 := Lib.hid d3
    have D5 := Lib.hid d5
    have A1 := Lib.hid a1
    clear d1 d3 d5 a1
    go_wp2
    change Code.wp _ _ _ _ (putL (putL w1 w.heap.size 0 (numL true m)) (w.heap.size + 1) 0 (numL false n))
    have e0 : (putL (putL w1 w.heap.size 0 (numL true m)) (w.heap.size + 1) 0 (numL false n)).cell? ⟨w.heap.size, 0, none⟩ = some (.bool true) := (putL_other _ _ _ _ (by omega)).trans a0
    have e1 := Lib.hid (putL_other_digs (b := w.heap.size + 1) A1.out (by omega) (numL false n))
    obtain ⟨_, e3⟩ := putL_num (w := putL w1 w.heap.size 0 (numL true m)) (b := w.heap.size + 1) ((putL_other _ _ _ _ (by omega)).trans d2) (putL_other_digs D3.out (by omega) _) false n
    have e3 := Lib.hid e3
    have e4 : (putL (putL w1 w.heap.size 0 (numL true m)) (w.heap.size + 1) 0 (numL false n)).cell? ⟨w.heap.size + 2, 0, none⟩ = some (.bool false) := ((putL_other _ _ _ _ (by omega)).trans (putL_other _ _ _ _ (by omega))).trans d4
    have e5 := Lib.hid (putL_other_digs (b := w.heap.size + 1) (putL_other_digs (b := w.heap.size) D5.out (by omega) (numL true m)) (by omega) (numL false n))
    have e6 : ∀ o, (putL (putL w1 w.heap.size 0 (numL true m)) (w.heap.size + 1) 0 (numL false n)).frozen? ⟨w.heap.size, o, none⟩ = false := fun o => by rw [putL_frozen, putL_frozen]; exact f0 o
    have e7 : ∀ o, (putL (putL w1 w.heap.size 0 (numL true m)) (w.heap.size + 1) 0 (numL false n)).frozen? ⟨w.heap.size + 2, o, none⟩ = false := fun o => by rw [putL_frozen, putL_frozen]; exact f2 o
    have e8 := Lib.hid (show w.heap.size + 2 < (putL (putL w1 w.heap.size 0 (numL true m)) (w.heap.size + 1) 0 (numL false n)).heap.size by rw [putL_size, putL_size]; exact hx2)
    have e9 := Lib.hid (putL_below (putL_below HB.out (Nat.le_refl _) 0 (numL true m)) (b := w.heap.size + 1) (by omega) 0 (numL false n))
    clear hc1 hf1 hd1 hg1 hx1 hh1 d0 d2 d4 f0 f2 a0 D1 D3 D5 A1
    generalize putL (putL w1 w.heap.size 0 (numL true m)) (w.heap.size + 1) 0 (numL false n) = W at *
    go_loopw [6, 24] (fun l i wr => ∃ k : Nat, k ≤ 8 ∧ i = .int .i64 k ∧ l = .int .u64 (lkA m n k) ∧ Below w.heap.size w wr ∧ w.heap.size + 2 < wr.heap.size ∧ wr.cell? ⟨w.heap.size, 0, none⟩ = some (.bool true) ∧ Digs wr w.heap.size 1 (fun j => if j < k then dg (m - n) j else dg m j) ∧ (∀ o, wr.frozen? ⟨w.heap.size, o, none⟩ = false) ∧ Digs wr (w.heap.size + 1) 1 (dg n) ∧ wr.cell? ⟨w.heap.size + 2, 0, none⟩ = some (.bool false) ∧ Digs wr (w.heap.size + 2) 1 (fun _ => 0) ∧ (∀ o, wr.frozen? ⟨w.heap.size + 2, o, none⟩ = false)) (fun _ i _ => 8 - (intOf i).toNat)
    case atStart =>
      exact ⟨0, by omega, rfl, by rw [Z.out], e9.out, e8.out, e0, by simpa using e1.out, e6, e3.out, e4, e5.out, e7⟩
    case round =>
      clear e0 e4 e6 e7
      obtain ⟨k, hk, rfl, rfl, hbr, hz, q0, qd, qf, rd, t0, td, tf⟩ := hrel
      by_cases hlt : k < 8
      · have c1 := qd k hlt
        simp only [Nat.lt_irrefl, if_false] at c1
        have c2 := rd k hlt
        obtain ⟨s1, s2, s3, s4⟩ := sub_step HM.out HN.out HNM.out k hlt
        have S1 := Lib.hid s1
        have S2 := Lib.hid s2
        obtain ⟨g0, g1⟩ := lkA_bd m n k
        obtain ⟨g2, g3⟩ := dg_bd m k
        obtain ⟨g4, g5⟩ := dg_bd n k
        have w1 : IntKind.u64.wrap (dg m k + 65536) = dg m k + 65536 := by rw [IntKind.wrap_u64]; omega
        have w2 : IntKind.u64.wrap (dg m k + 65536 - dg n k) = dg m k + 65536 - dg n k := by rw [IntKind.wrap_u64]; omega
        have w3 : IntKind.u64.wrap (dg m k + 65536 - dg n k - lkA m n k) = dg m k + 65536 - dg n k - lkA m n k := by rw [IntKind.wrap_u64]; omega
        have s5 : (dg m k + 65536 - dg n k - lkA m n k) / 65536 ≤ 1 := by omega
        have s6 : 0 ≤ (dg m k + 65536 - dg n k - lkA m n k) / 65536 := by omega
        have hk' : (k : Int) < 8 := by omega
        have QD := Lib.hid qd
        have RD := Lib.hid rd
        have TD := Lib.hid td
        have HB := Lib.hid hbr
        clear s1 s2 qd rd td hbr
        go_wp2_with fail
        go_quiet (fail)
        clear w1 w2 w3
        go_wp2
        go_roundw
        case rel =>
          refine ⟨k + 1, by omega, by go_num, by rw [← S2.out], bl_setCell (bl_drewN HB.out _) _ (Nat.le_refl _), by simpa using hz, ?_, ?_, by simpa using qf, ?_, ?_, ?_, by simpa using tf⟩
          · rw [World.cell?_setCell_other _ _ _ _ (by simp)]; exact q0
          · refine Digs.set (f := fun j => if j < k then dg (m - n) j else dg m j) (fun j hj => QD.out j hj) k hlt _ ?_ ?_
            · simp only [Nat.lt_succ_self, if_true]; exact S1.out.symm
            · intro j hj hn
              by_cases h : j < k
              · simp only [if_pos h, if_pos (Nat.lt_succ_of_lt h)]
              · simp only [if_neg h]; rw [if_neg (by omega)]
          · exact Digs.other (fun j hj => RD.out j hj) (by simp) _
          · rw [World.cell?_setCell_other _ _ _ _ (by simp)]; exact t0
          · exact Digs.other (fun j hj => TD.out j hj) (by simp) _
        case measure => simp [intOf]; omega
      · obtain rfl : k = 8 := by omega
        generalize hs : m - n = s at *
        have HS := Lib.hid hs
        clear hs
        have qs : ∀ j, j < 8 → wr.cell? ⟨w.heap.size, 1 + j, none⟩ = some (.int .u64 (dg s j)) := fun j hj => by
          rw [qd j hj]; simp only [if_pos hj]
        clear qd hk
        have s0 := qs 0 (by omega)
        have s1 := qs 1 (by omega)
        have s2 := qs 2 (by omega)
        have s3 := qs 3 (by omega)
        have s4 := qs 4 (by omega)
        have s5 := qs 5 (by omega)
        have s6 := qs 6 (by omega)
        have s7 := qs 7 (by omega)
        have u0 := td 0 (by omega)
        have u1 := td 1 (by omega)
        have u2 := td 2 (by omega)
        have u3 := td 3 (by omega)
        have u4 := td 4 (by omega)
        have u5 := td 5 (by omega)
        have u6 := td 6 (by omega)
        have u7 := td 7 (by omega)
        clear qs td rd
        go_wp2
        obtain ⟨v0, v1, v2, v3, v4, v5, v6, v7, v8⟩ := set9 (.bool true) (.int .u64 (dg s 0)) (.int .u64 (dg s 1)) (.int .u64 (dg s 2)) (.int .u64 (dg s 3)) (.int .u64 (dg s 4)) (.int .u64 (dg s 5)) (.int .u64 (dg s 6)) (.int .u64 (dg s 7)) t0 u0 u1 u2 u3 u4 u5 u6 u7
        refine bodyPost_ret (v := .tuple #[numA true s, .bool true]) (by simp [results, Try.results76, go_sem, v0, v1, v2, v3, v4, v5, v6, v7, v8]) rfl ⟨by rw [HS.out], ?_⟩
        exact (by repeat (with_reducible (first | exact Below.refl _ _ | assumption | refine bl_alloc ?_ _ | refine bl_drewN ?_ _ | refine bl_drew ?_ | refine bl_call ?_ (by assumption) | (refine bl_setCell ?_ _ (Nat.le_refl _)) | (refine bl_setCell ?_ _ (by first | omega | (simp; done) | (simp; omega))))))
  · go_enter Try.func76, Try.ntmps76
    go_wp2_with fail
    refine (C.out _).mono ?_
    rintro e w1 ⟨rfl, hb1⟩
    obtain ⟨hc1, hf1, hz1⟩ := own_stays hb1 (b := w.heap.size) (by go_simp)
    obtain ⟨hd1, hg1, hy1⟩ := own_stays hb1 (b := w.heap.size + 1) (by go_simp)
    obtain ⟨hx1, hh1, hx2⟩ := own_stays hb1 (b := w.heap.size + 2) (by go_simp)
    have HB := Lib.hid (show Below w.heap.size w w1 from (by repeat (with_reducible (first | exact Below.refl _ _ | assumption | refine bl_alloc ?_ _ | refine bl_drewN ?_ _ | refine bl_drew ?_ | refine bl_call ?_ (by assumption) | (refine bl_setCell ?_ _ (Nat.le_refl _)) | (refine bl_setCell ?_ _ (by first | omega | (simp; done) | (simp; omega)))))))
    clear hb1
    have d0 : w1.cell? ⟨w.heap.size, 0, none⟩ = some (.bool true) := by rw [hc1]; go_simp
    have d1 : Digs w1 w.heap.size 1 (dg n) := by intro j hj; rw [hc1]; rcases lt8 hj with rfl | rfl | rfl | rfl | rfl | rfl | rfl | rfl <;> go_simp
    have d2 : w1.cell? ⟨w.heap.size + 1, 0, none⟩ = some (.bool false) := by rw [hd1]; go_simp
    have d3 : Digs w1 (w.heap.size + 1) 1 (dg m) := by intro j hj; rw [hd1]; rcases lt8 hj with rfl | rfl | rfl | rfl | rfl | rfl | rfl | rfl <;> go_simp
    have d4 : w1.cell? ⟨w.heap.size + 2, 0, none⟩ = some (.bool false) := by rw [hx1]; go_simp
    have d5 : Digs w1 (w.heap.size + 2) 1 (fun _ => 0) := by intro j hj; rw [hx1]; rcases lt8 hj with rfl | rfl | rfl | rfl | rfl | rfl | rfl | rfl <;> go_simp
    have f0 : ∀ o, w1.frozen? ⟨w.heap.size, o, none⟩ = false := by intro o; rw [hf1]; go_simp
    have f2 : ∀ o, w1.frozen? ⟨w.heap.size + 2, o, none⟩ = false := by intro o; rw [hh1]; go_simp
    obtain ⟨a0, a1⟩ := putL_num d0 d1 false m
    have D1 := Lib.hid d1
    have D3 := Lib.hid d3
    have D5 := Lib.hid d5
    have A1 := Lib.hid a1
    clear d1 d3 d5 a1
    go_wp2
    change Code.wp _ _ _ _ (putL (putL w1 w.heap.size 0 (numL false m)) (w.heap.size + 1) 0 (numL true n))
    have e0 : (putL (putL w1 w.heap.size 0 (numL false m)) (w.heap.size + 1) 0 (numL true n)).cell? ⟨w.heap.size, 0, none⟩ = some (.bool false) := (putL_other _ _ _ _ (by omega)).trans a0
    have e1 := Lib.hid (putL_other_digs (b := w.heap.size + 1) A1.out (by omega) (numL true n))
    obtain ⟨_, e3⟩ := putL_num (w := putL w1 w.heap.size 0 (numL false m)) (b := w.heap.size + 1) ((putL_other _ _ _ _ (by omega)).trans d2) (putL_other_digs D3.out (by omega) _) true n
    have e3 := Lib.hid e3
    have e4 : (putL (putL w1 w.heap.size 0 (numL false m)) (w.heap.size + 1) 0 (numL true n)).cell? ⟨w.heap.size + 2, 0, none⟩ = some (.bool false) := ((putL_other _ _ _ _ (by omega)).trans (putL_other _ _ _ _ (by omega))).trans d4
    have e5 := Lib.hid (putL_other_digs (b := w.heap.size + 1) (putL_other_digs (b := w.heap.size) D5.out (by omega) (numL false m)) (by omega) (numL true n))
    have e6 : ∀ o, (putL (putL w1 w.heap.size 0 (numL false m)) (w.heap.size + 1) 0 (numL true n)).frozen? ⟨w.heap.size, o, none⟩ = false := fun o => by rw [putL_frozen, putL_frozen]; exact f0 o
    have e7 : ∀ o, (putL (putL w1 w.heap.size 0 (numL false m)) (w.heap.size + 1) 0 (numL true n)).frozen? ⟨w.heap.size + 2, o, none⟩ = false := fun o => by rw [putL_frozen, putL_frozen]; exact f2 o
    have e8 := Lib.hid (show w.heap.size + 2 < (putL (putL w1 w.heap.size 0 (numL false m)) (w.heap.size + 1) 0 (numL true n)).heap.size by rw [putL_size, putL_size]; exact hx2)
    have e9 := Lib.hid (putL_below (putL_below HB.out (Nat.le_refl _) 0 (numL false m)) (b := w.heap.size + 1) (by omega) 0 (numL true n))
    clear hc1 hf1 hd1 hg1 hx1 hh1 d0 d2 d4 f0 f2 a0 D1 D3 D5 A1
    generalize putL (putL w1 w.heap.size 0 (numL false m)) (w.heap.size + 1) 0 (numL true n) = W at *
    go_loopw [6, 24] (fun l i wr => ∃ k : Nat, k ≤ 8 ∧ i = .int .i64 k ∧ l = .int .u64 (lkA m n k) ∧ Below w.heap.size w wr ∧ w.heap.size + 2 < wr.heap.size ∧ wr.cell? ⟨w.heap.size, 0, none⟩ = some (.bool false) ∧ Digs wr w.heap.size 1 (fun j => if j < k then dg (m - n) j else dg m j) ∧ (∀ o, wr.frozen? ⟨w.heap.size, o, none⟩ = false) ∧ Digs wr (w.heap.size + 1) 1 (dg n) ∧ wr.cell? ⟨w.heap.size + 2, 0, none⟩ = some (.bool false) ∧ Digs wr (w.heap.size + 2) 1 (fun _ => 0) ∧ (∀ o, wr.frozen? ⟨w.heap.size + 2, o, none⟩ = false)) (fun _ i _ => 8 - (intOf i).toNat)
    case atStart =>
      exact ⟨0, by omega, rfl, by rw [Z.out], e9.out, e8.out, e0, by simpa using e1.out, e6, e3.out, e4, e5.out, e7⟩
    case round =>
      clear e0 e4 e6 e7
      obtain ⟨k, hk, rfl, rfl, hbr, hz, q0, qd, qf, rd, t0, td, tf⟩ := hrel
      by_cases hlt : k < 8
      · have c1 := qd k hlt
        simp only [Nat.lt_irrefl, if_false] at c1
        have c2 := rd k hlt
        obtain ⟨s1, s2, s3, s4⟩ := sub_step HM.out HN.out HNM.out k hlt
        have S1 := Lib.hid s1
        have S2 := Lib.hid s2
        obtain ⟨g0, g1⟩ := lkA_bd m n k
        obtain ⟨g2, g3⟩ := dg_bd m k
        obtain ⟨g4, g5⟩ := dg_bd n k
        have w1 : IntKind.u64.wrap (dg m k + 65536) = dg m k + 65536 := by rw [IntKind.wrap_u64]; omega
        have w2 : IntKind.u64.wrap (dg m k + 65536 - dg n k) = dg m k + 65536 - dg n k := by rw [IntKind.wrap_u64]; omega
        have w3 : IntKind.u64.wrap (dg m k + 65536 - dg n k - lkA m n k) = dg m k + 65536 - dg n k - lkA m n k := by rw [IntKind.wrap_u64]; omega
        have s5 : (dg m k + 65536 - dg n k - lkA m n k) / 65536 ≤ 1 := by omega
        have s6 : 0 ≤ (dg m k + 65536 - dg n k - lkA m n k) / 65536 := by omega
        have hk' : (k : Int) < 8 := by omega
        have QD := Lib.hid qd
        have RD := Lib.hid rd
        have TD := Lib.hid td
        have HB := Lib.hid hbr
        clear s1 s2 qd rd td hbr
        go_wp2_with fail
        go_quiet (fail)
        clear w1 w2 w3
        go_wp2
        go_roundw
        case rel =>
          refine ⟨k + 1, by omega, by go_num, by rw [← S2.out], bl_setCell (bl_drewN HB.out _) _ (Nat.le_refl _), by simpa using hz, ?_, ?_, by simpa using qf, ?_, ?_, ?_, by simpa using tf⟩
          · rw [World.cell?_setCell_other _ _ _ _ (by simp)]; exact q0
          · refine Digs.set (f := fun j => if j < k then dg (m - n) j else dg m j) (fun j hj => QD.out j hj) k hlt _ ?_ ?_
            · simp only [Nat.lt_succ_self, if_true]; exact S1.out.symm
            · intro j hj hn
              by_cases h : j < k
              · simp only [if_pos h, if_pos (Nat.lt_succ_of_lt h)]
              · simp only [if_neg h]; rw [if_neg (by omega)]
          · exact Digs.other (fun j hj => RD.out j hj) (by simp) _
          · rw [World.cell?_setCell_other _ _ _ _ (by simp)]; exact t0
          · exact Digs.other (fun j hj => TD.out j hj) (by simp) _
        case measure => simp [intOf]; omega
      · obtain rfl : k = 8 := by omega
        generalize hs : m - n = s at *
        have HS := Lib.hid hs
        clear hs
        have qs : ∀ j, j < 8 → wr.cell? ⟨w.heap.size, 1 + j, none⟩ = some (.int .u64 (dg s j)) := fun j hj => by
          rw [qd j hj]; simp only [if_pos hj]
        clear qd hk
        have s0 := qs 0 (by omega)
        have s1 := qs 1 (by omega)
        have s2 := qs 2 (by omega)
        have s3 := qs 3 (by omega)
        have s4 := qs 4 (by omega)
        have s5 := qs 5 (by omega)
        have s6 := qs 6 (by omega)
        have s7 := qs 7 (by omega)
        have u0 := td 0 (by omega)
        have u1 := td 1 (by omega)
        have u2 := td 2 (by omega)
        have u3 := td 3 (by omega)
        have u4 := td 4 (by omega)
        have u5 := td 5 (by omega)
        have u6 := td 6 (by omega)
        have u7 := td 7 (by omega)
        clear qs td rd
        go_wp2
        obtain ⟨v0, v1, v2, v3, v4, v5, v6, v7, v8⟩ := set9 (.bool false) (.int .u64 (dg s 0)) (.int .u64 (dg s 1)) (.int .u64 (dg s 2)) (.int .u64 (dg s 3)) (.int .u64 (dg s 4)) (.int .u64 (dg s 5)) (.int .u64 (dg s 6)) (.int .u64 (dg s 7)) t0 u0 u1 u2 u3 u4 u5 u6 u7
        refine bodyPost_ret (v := .tuple #[numA false s, .bool true]) (by simp [results, Try.results76, go_sem, v0, v1, v2, v3, v4, v5, v6, v7, v8]) rfl ⟨by rw [HS.out], ?_⟩
        exact (by repeat (with_reducible (first | exact Below.refl _ _ | assumption | refine bl_alloc ?_ _ | refine bl_drewN ?_ _ | refine bl_drew ?_ | refine bl_call ?_ (by assumption) | (refine bl_setCell ?_ _ (Nat.le_refl _)) | (refine bl_setCell ?_ _ (by first | omega | (simp; done) | (simp; omega))))))
end Go.Proofs.Ytkejohmghacdhaa
