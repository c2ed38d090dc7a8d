/- Contracts of the reference's chapter 2: digits added. -/
import Derived.Test.YtkejohmghacdhaaRwC
namespace Go.Proofs.Ytkejohmghacdhaa
set_option linter.unusedVariables false
set_option linter.unusedSimpArgs false
open Go.RowKit
/-- A number lies in block b. -/
def NumAt (w : World) (b : Nat) (s : Bool) (n : Int) : Prop := w.cell? ⟨b, 0, none⟩ = some (.bool s) ∧ Digs w b 1 (dg n) ∧ (∀ o, w.frozen? ⟨b, o, none⟩ = false) ∧ b < w.heap.size
set_option maxRecDepth 100000 in
set_option maxHeartbeats 4000000 in
theorem plus_same (b : Bool) (n m : Int) (w : World) (hn : 0 ≤ n) (hn1 : n < 340282366920938463463374607431768211456) (hm : 0 ≤ m) (hm1 : m < 340282366920938463463374607431768211456) :
    Calls Try.prog 76 #[numA b n, numA b m] w fun e w' => e = .returned (.tuple #[numA b ((n + m) % 340282366920938463463374607431768211456), .bool (decide (n + m < 340282366920938463463374607431768211456))]) ∧ Below w.heap.size w w' := by
  have HN := Lib.hid hn
  have HM := Lib.hid hm
  have HN1 := Lib.hid hn1
  have HM1 := Lib.hid hm1
  clear hn hn1 hm hm1
  have Z := Lib.hid (cyA_zero n m)
  go_enter Try.func76, Try.ntmps76
  go_wp2
  go_loopw [9, 49] (fun l i wr => ∃ k : Nat, k ≤ 8 ∧ i = .int .i64 k ∧ l = .int .u64 (cyA n m k) ∧ Below w.heap.size w wr ∧ w.heap.size + 2 < wr.heap.size ∧ wr.cell? ⟨w.heap.size, 0, none⟩ = some (.bool b) ∧ Digs wr w.heap.size 1 (fun j => if j < k then dg (n + m) j else dg n j) ∧ (∀ o, wr.frozen? ⟨w.heap.size, o, none⟩ = false) ∧ Digs wr (w.heap.size + 1) 1 (dg m) ∧ wr.cell? ⟨w.heap.size + 2, 0, none⟩ = some (.bool false) ∧ Digs wr (w.heap.size + 2) 1 (fun _ => 0) ∧ (∀ o, wr.frozen? ⟨w.heap.size + 2, o, none⟩ = false)) (fun _ i _ => 8 - (intOf i).toNat)
  case atStart =>
    refine ⟨0, by omega, rfl, by rw [Z.out], (by repeat (with_reducible (first | exact Below.refl _ _ | assumption | refine bl_alloc ?_ _ | refine bl_drewN ?_ _ | refine bl_drew ?_ | refine bl_call ?_ (by assumption) | (refine bl_setCell ?_ _ (Nat.le_refl _)) | (refine bl_setCell ?_ _ (by simp))))), by go_simp, by go_simp, ?_, by go_simp, ?_, by go_simp, ?_, by go_simp⟩
    · intro j hj; rcases lt8 hj with rfl | rfl | rfl | rfl | rfl | rfl | rfl | rfl <;> go_simp
    · intro j hj; rcases lt8 hj with rfl | rfl | rfl | rfl | rfl | rfl | rfl | rfl <;> go_simp
    · intro j hj; rcases lt8 hj with rfl | rfl | rfl | rfl | rfl | rfl | rfl | rfl <;> go_simp
  case round =>
    obtain ⟨k, hk, rfl, rfl, hbr, hz, q0, qd, qf, rd, t0, td, tf⟩ := hrel
    by_cases hlt : k < 8
    · have c1 := qd k hlt
      simp only [Nat.lt_irrefl, if_false] at c1
      have c2 := rd k hlt
      obtain ⟨s1, s2⟩ := add_step HN.out HM.out k hlt
      have S1 := Lib.hid s1
      have S2 := Lib.hid s2
      have g0 := cyA_bd (n := n) (m := m) k (by omega)
      obtain ⟨g0, g1⟩ := g0
      obtain ⟨g2, g3⟩ := dg_bd n k
      obtain ⟨g4, g5⟩ := dg_bd m k
      have w1 : IntKind.u64.wrap (dg n k + dg m k) = dg n k + dg m k := by rw [IntKind.wrap_u64]; omega
      have w2 : IntKind.u64.wrap (cyA n m k + (dg n k + dg m k)) = cyA n m k + (dg n k + dg m k) := by rw [IntKind.wrap_u64]; omega
      have w3 : 0 ≤ cyA n m k + (dg n k + dg m k) := by omega
      have hk' : (k : Int) < 8 := by omega
      have QD := Lib.hid qd
      have RD := Lib.hid rd
      have TD := Lib.hid td
      have HB := Lib.hid hbr
      clear s1 s2 qd rd td hbr
      go_wp2_with fail
      go_quiet (fail)
      clear w1 w2
      go_wp2
      go_roundw
      case rel =>
        refine ⟨k + 1, by omega, by go_num, by rw [← S2.out], bl_setCell (bl_drewN HB.out _) _ (Nat.le_refl _), by simpa using hz, ?_, ?_, by simpa using qf, ?_, ?_, ?_, by simpa using tf⟩
        · rw [World.cell?_setCell_other _ _ _ _ (by simp)]; exact q0
        · refine Digs.set (f := fun j => if j < k then dg (n + m) j else dg n j) (fun j hj => QD.out j hj) k hlt _ ?_ ?_
          · simp only [Nat.lt_succ_self, if_true]; exact S1.out.symm
          · intro j hj hn
            by_cases h : j < k
            · simp only [if_pos h, if_pos (Nat.lt_succ_of_lt h)]
            · simp only [if_neg h]; rw [if_neg (by omega)]
        · exact Digs.other (fun j hj => RD.out j hj) (by simp) _
        · rw [World.cell?_setCell_other _ _ _ _ (by simp)]; exact t0
        · exact Digs.other (fun j hj => TD.out j hj) (by simp) _
      case measure => simp [intOf]; omega
    · obtain rfl : k = 8 := by omega
      have NN := Lib.hid (show ∀ j, j < 8 → dg (n + m) j = dg ((n + m) % 340282366920938463463374607431768211456) j from fun j hj => dg_mod _ j hj)
      have C8 := Lib.hid (cy_eight HN.out HN1.out HM.out HM1.out)
      generalize hs : (n + m) % 340282366920938463463374607431768211456 = s at *
      have HS := Lib.hid hs
      clear hs
      have qs : ∀ j, j < 8 → wr.cell? ⟨w.heap.size, 1 + j, none⟩ = some (.int .u64 (dg s j)) := fun j hj => by
        rw [qd j hj]; simp only [if_pos hj, NN.out j hj]
      clear qd hk
      have s0 := qs 0 (by omega)
      have s1 := qs 1 (by omega)
      have s2 := qs 2 (by omega)
      have s3 := qs 3 (by omega)
      have s4 := qs 4 (by omega)
      have s5 := qs 5 (by omega)
      have s6 := qs 6 (by omega)
      have s7 := qs 7 (by omega)
      have u0 := td 0 (by omega)
      have u1 := td 1 (by omega)
      have u2 := td 2 (by omega)
      have u3 := td 3 (by omega)
      have u4 := td 4 (by omega)
      have u5 := td 5 (by omega)
      have u6 := td 6 (by omega)
      have u7 := td 7 (by omega)
      clear qs td rd
      go_wp2
      obtain ⟨v0, v1, v2, v3, v4, v5, v6, v7, v8⟩ := set9 (.bool b) (.int .u64 (dg s 0)) (.int .u64 (dg s 1)) (.int .u64 (dg s 2)) (.int .u64 (dg s 3)) (.int .u64 (dg s 4)) (.int .u64 (dg s 5)) (.int .u64 (dg s 6)) (.int .u64 (dg s 7)) t0 u0 u1 u2 u3 u4 u5 u6 u7
      refine bodyPost_ret (v := .tuple #[numA b s, .bool (cyA n m 8 == 0)]) (by simp [results, Try.results76, go_sem, v0, v1, v2, v3, v4, v5, v6, v7, v8]) rfl ⟨by rw [C8.out, HS.out], ?_⟩
      exact (by repeat (with_reducible (first | exact Below.refl _ _ | assumption | refine bl_alloc ?_ _ | refine bl_drewN ?_ _ | refine bl_drew ?_ | refine bl_call ?_ (by assumption) | (refine bl_setCell ?_ _ (Nat.le_refl _)) | (refine bl_setCell ?_ _ (by first | omega | (simp; done) | (simp; omega))))))

set_option maxRecDepth 100000 in
set_option maxHeartbeats 8000000 in
theorem plus_ge (b : Bool) (n m : Int) (w : World) (hn : 0 ≤ n) (hn1 : n < 340282366920938463463374607431768211456) (hm : 0 ≤ m) (hm1 : m < 340282366920938463463374607431768211456) (hnm : m ≤ n) :
    Calls Try.prog 76 #[numA b n, numA (!b) m] w fun e w' => e = .returned (.tuple #[numA b (n - m), .bool true]) ∧ Below w.heap.size w w' := by
  have C := fun w => rcmp_any n m w hn hn1 hm hm1
  have hc0 : 0 ≤ cmpI n m := by rcases Int.lt_or_eq_of_le hnm with h | h; rw [cmpI_gt h]; decide; rw [cmpI_eq h.symm]; decide
  generalize cmpI n m = c at *
  have C := Lib.hid C
  have HN := Lib.hid hn
  have HM := Lib.hid hm
  have HNM := Lib.hid hnm
  clear hn hn1 hm hm1 hnm
  have Z := Lib.hid (lkA_zero n m)
  cases b
  · go_enter Try.func76, Try.ntmps76
    go_wp2_with fail
    refine (C.out _).mono ?_
    rintro e w1 ⟨rfl, hb1⟩
    obtain ⟨hc1, hf1, hz1⟩ := own_stays hb1 (b := w.heap.size) (by go_simp)
    obtain ⟨hd1, hg1, hy1⟩ := own_stays hb1 (b := w.heap.size + 1) (by go_simp)
    obtain ⟨hx1, hh1, hx2⟩ := own_stays hb1 (b := w.heap.size + 2) (by go_simp)
    have HB := Lib.hid (show Below w.heap.size w w1 from (by repeat (with_reducible (first | exact Below.refl _ _ | assumption | refine bl_alloc ?_ _ | refine bl_drewN ?_ _ | refine bl_drew ?_ | refine bl_call ?_ (by assumption) | (refine bl_setCell ?_ _ (Nat.le_refl _)) | (refine bl_setCell ?_ _ (by first | omega | (simp; done) | (simp; omega)))))))
    clear hb1
    go_wp2
    go_loopw [6, 24] (fun l i wr => ∃ k : Nat, k ≤ 8 ∧ i = .int .i64 k ∧ l = .int .u64 (lkA n m k) ∧ Below w.heap.size w wr ∧ w.heap.size + 2 < wr.heap.size ∧ wr.cell? ⟨w.heap.size, 0, none⟩ = some (.bool false) ∧ Digs wr w.heap.size 1 (fun j => if j < k then dg (n - m) j else dg n j) ∧ (∀ o, wr.frozen? ⟨w.heap.size, o, none⟩ = false) ∧ Digs wr (w.heap.size + 1) 1 (dg m) ∧ wr.cell? ⟨w.heap.size + 2, 0, none⟩ = some (.bool false) ∧ Digs wr (w.heap.size + 2) 1 (fun _ => 0) ∧ (∀ o, wr.frozen? ⟨w.heap.size + 2, o, none⟩ = false)) (fun _ i _ => 8 - (intOf i).toNat)
    case atStart =>
      refine ⟨0, by omega, rfl, by rw [Z.out], HB.out, by first | exact hx2 | omega, by go_simp, ?_, by go_simp, ?_, by go_simp, ?_, by go_simp⟩
      · intro j hj; rcases lt8 hj with rfl | rfl | rfl | rfl | rfl | rfl | rfl | rfl <;> go_simp
      · intro j hj; rcases lt8 hj with rfl | rfl | rfl | rfl | rfl | rfl | rfl | rfl <;> go_simp
      · intro j hj; rcases lt8 hj with rfl | rfl | rfl | rfl | rfl | rfl | rfl | rfl <;> go_simp
    case round =>
      clear hc1 hf1 hd1 hg1 hx1 hh1
      obtain ⟨k, hk, rfl, rfl, hbr, hz, q0, qd, qf, rd, t0, td, tf⟩ := hrel
      by_cases hlt : k < 8
      · have c1 := qd k hlt
        simp only [Nat.lt_irrefl, if_false] at c1
        have c2 := rd k hlt
        obtain ⟨s1, s2, s3, s4⟩ := sub_step HN.out HM.out HNM.out k hlt
        have S1 := Lib.hid s1
        have S2 := Lib.hid s2
        obtain ⟨g0, g1⟩ := lkA_bd n m k
        obtain ⟨g2, g3⟩ := dg_bd n k
        obtain ⟨g4, g5⟩ := dg_bd m k
        have w1 : IntKind.u64.wrap (dg n k + 65536) = dg n k + 65536 := by rw [IntKind.wrap_u64]; omega
        have w2 : IntKind.u64.wrap (dg n k + 65536 - dg m k) = dg n k + 65536 - dg m k := by rw [IntKind.wrap_u64]; omega
        have w3 : IntKind.u64.wrap (dg n k + 65536 - dg m k - lkA n m k) = dg n k + 65536 - dg m k - lkA n m k := by rw [IntKind.wrap_u64]; omega
        have s5 : (dg n k + 65536 - dg m k - lkA n m k) / 65536 ≤ 1 := by omega
        have s6 : 0 ≤ (dg n k + 65536 - dg m k - lkA n m k) / 65536 := by omega
        have hk' : (k : Int) < 8 := by omega
        have QD := Lib.hid qd
        have RD := Lib.hid rd
        have TD := Lib.hid td
        have HB := Lib.hid hbr
        clear s1 s2 qd rd td hbr
        go_wp2_with fail
        go_quiet (fail)
        clear w1 w2 w3
        go_wp2
        go_roundw
        case rel =>
          refine ⟨k + 1, by omega, by go_num, by rw [← S2.out], bl_setCell (bl_drewN HB.out _) _ (Nat.le_refl _), by simpa using hz, ?_, ?_, by simpa using qf, ?_, ?_, ?_, by simpa using tf⟩
          · rw [World.cell?_setCell_other _ _ _ _ (by simp)]; exact q0
          · refine Digs.set (f := fun j => if j < k then dg (n - m) j else dg n j) (fun j hj => QD.out j hj) k hlt _ ?_ ?_
            · simp only [Nat.lt_succ_self, if_true]; exact S1.out.symm
            · intro j hj hn
              by_cases h : j < k
              · simp only [if_pos h, if_pos (Nat.lt_succ_of_lt h)]
              · simp only [if_neg h]; rw [if_neg (by omega)]
          · exact Digs.other (fun j hj => RD.out j hj) (by simp) _
          · rw [World.cell?_setCell_other _ _ _ _ (by simp)]; exact t0
          · exact Digs.other (fun j hj => TD.out j hj) (by simp) _
        case measure => simp [intOf]; omega
      · obtain rfl : k = 8 := by omega
        generalize hs : n - m = s at *
        have HS := Lib.hid hs
        clear hs
        have qs : ∀ j, j < 8 → wr.cell? ⟨w.heap.size, 1 + j, none⟩ = some (.int .u64 (dg s j)) := fun j hj => by
          rw [qd j hj]; simp only [if_pos hj]
        clear qd hk
        have s0 := qs 0 (by omega)
        have s1 := qs 1 (by omega)
        have s2 := qs 2 (by omega)
        have s3 := qs 3 (by omega)
        have s4 := qs 4 (by omega)
        have s5 := qs 5 (by omega)
        have s6 := qs 6 (by omega)
        have s7 := qs 7 (by omega)
        have u0 := td 0 (by omega)
        have u1 := td 1 (by omega)
        have u2 := td 2 (by omega)
        have u3 := td 3 (by omega)
        have u4 := td 4 (by omega)
        have u5 := td 5 (by omega)
        have u6 := td 6 (by omega)
        have u7 := td 7 (by omega)
        clear qs td rd
        go_wp2
        obtain ⟨v0, v1, v2, v3, v4, v5, v6, v7, v8⟩ := set9 (.bool false) (.int .u64 (dg s 0)) (.int .u64 (dg s 1)) (.int .u64 (dg s 2)) (.int .u64 (dg s 3)) (.int .u64 (dg s 4)) (.int .u64 (dg s 5)) (.int .u64 (dg s 6)) (.int .u64 (dg s 7)) t0 u0 u1 u2 u3 u4 u5 u6 u7
        refine bodyPost_ret (v := .tuple #[numA false s, .bool true]) (by simp [results, Try.results76, go_sem, v0, v1, v2, v3, v4, v5, v6, v7, v8]) rfl ⟨by rw [HS.out], ?_⟩
        exact (by repeat (with_reducible (first | exact Below.refl _ _ | assumption | refine bl_alloc ?_ _ | refine bl_drewN ?_ _ | refine bl_drew ?_ | refine bl_call ?_ (by assumption) | (refine bl_setCell ?_ _ (Nat.le_refl _)) | (refine bl_setCell ?_ _ (by first | omega | (simp; done) | (simp; omega))))))
  · go_enter Try.func76, Try.ntmps76
    go_wp2_with fail
    refine (C.out _).mono ?_
    rintro e w1 ⟨rfl, hb1⟩
    obtain ⟨hc1, hf1, hz1⟩ := own_stays hb1 (b := w.heap.size) (by go_simp)
    obtain ⟨hd1, hg1, hy1⟩ := own_stays hb1 (b := w.heap.size + 1) (by go_simp)
    obtain ⟨hx1, hh1, hx2⟩ := own_stays hb1 (b := w.heap.size + 2) (by go_simp)
    have HB := Lib.hid (show Below w.heap.size w w1 from (by repeat (with_reducible (first | exact Below.refl _ _ | assumption | refine bl_alloc ?_ _ | refine bl_drewN ?_ _ | refine bl_drew ?_ | refine bl_call ?_ (by assumption) | (refine bl_setCell ?_ _ (Nat.le_refl _)) | (refine bl_setCell ?_ _ (by first | omega | (simp; done) | (simp; omega)))))))
    clear hb1
    go_wp2
    go_loopw [6, 24] (fun l i wr => ∃ k : Nat, k ≤ 8 ∧ i = .int .i64 k ∧ l = .int .u64 (lkA n m k) ∧ Below w.heap.size w wr ∧ w.heap.size + 2 < wr.heap.size ∧ wr.cell? ⟨w.heap.size, 0, none⟩ = some (.bool true) ∧ Digs wr w.heap.size 1 (fun j => if j < k then dg (n - m) j else dg n j) ∧ (∀ o, wr.frozen? ⟨w.heap.size, o, none⟩ = false) ∧ Digs wr (w.heap.size + 1) 1 (dg m) ∧ wr.cell? ⟨w.heap.size + 2, 0, none⟩ = some (.bool false) ∧ Digs wr (w.heap.size + 2) 1 (fun _ => 0) ∧ (∀ o, wr.frozen? ⟨w.heap.size + 2, o, none⟩ = false)) (fun _ i _ => 8 - (intOf i).toNat)
    case atStart =>
      refine ⟨0, by omega, rfl, by rw [Z.out], HB.out, by first | exact hx2 | omega, by go_simp, ?_, by go_simp, ?_, by go_simp, ?_, by go_simp⟩
      · intro j hj; rcases lt8 hj with rfl | rfl | rfl | rfl | rfl | rfl | rfl | rfl <;> go_simp
      · intro j hj; rcases lt8 hj with rfl | rfl | rfl | rfl | rfl | rfl | rfl | rfl <;> go_simp
      · intro j hj; rcases lt8 hj with rfl | rfl | rfl | rfl | rfl | rfl | rfl | rfl <;> go_simp
    case round =>
      clear hc1 hf1 hd1 hg1 hx1 hh1
      obtain ⟨k, hk, rfl, rfl, hbr, hz, q0, qd, qf, rd, t0, td, tf⟩ := hrel
      by_cases hlt : k < 8
      · have c1 := qd k hlt
        simp only [Nat.lt_irrefl, if_false] at c1
        have c2 := rd k hlt
        obtain ⟨s1, s2, s3, s4⟩ := sub_step HN.out HM.out HNM.out k hlt
        have S1 := Lib.hid s1
        have S2 := Lib.hid s2
        obtain ⟨g0, g1⟩ := lkA_bd n m k
        obtain ⟨g2, g3⟩ := dg_bd n k
        obtain ⟨g4, g5⟩ := dg_bd m k
        have w1 : IntKind.u64.wrap (dg n k + 65536) = dg n k + 65536 := by rw [IntKind.wrap_u64]; omega
        have w2 : IntKind.u64.wrap (dg n k + 65536 - dg m k) = dg n k + 65536 - dg m k := by rw [IntKind.wrap_u64]; omega
        have w3 : IntKind.u64.wrap (dg n k + 65536 - dg m k - lkA n m k) = dg n k + 65536 - dg m k - lkA n m k := by rw [IntKind.wrap_u64]; omega
        have s5 : (dg n k + 65536 - dg m k - lkA n m k) / 65536 ≤ 1 := by omega
        have s6 : 0 ≤ (dg n k + 65536 - dg m k - lkA n m k) / 65536 := by omega
        have hk' : (k : Int) < 8 := by omega
        have QD := Lib.hid qd
        have RD := Lib.hid rd
        have TD := Lib.hid td
        have HB := Lib.hid hbr
        clear s1 s2 qd rd td hbr
        go_wp2_with fail
        go_quiet (fail)
        clear w1 w2 w3
        go_wp2
        go_roundw
        case rel =>
          refine ⟨k + 1, by omega, by go_num, by rw [← S2.out], bl_setCell (bl_drewN HB.out _) _ (Nat.le_refl _), by simpa using hz, ?_, ?_, by simpa using qf, ?_, ?_, ?_, by simpa using tf⟩
          · rw [World.cell?_setCell_other _ _ _ _ (by simp)]; exact q0
          · refine Digs.set (f := fun j => if j < k then dg (n - m) j else dg n j) (fun j hj => QD.out j hj) k hlt _ ?_ ?_
            · simp only [Nat.lt_succ_self, if_true]; exact S1.out.symm
            · intro j hj hn
              by_cases h : j < k
              · simp only [if_pos h, if_pos (Nat.lt_succ_of_lt h)]
              · simp only [if_neg h]; rw [if_neg (by omega)]
          · exact Digs.other (fun j hj => RD.out j hj) (by simp) _
          · rw [World.cell?_setCell_other _ _ _ _ (by simp)]; exact t0
          · exact Digs.other (fun j hj => TD.out j hj) (by simp) _
        case measure => simp [intOf]; omega
      · obtain rfl : k = 8 := by omega
        generalize hs : n - m = s at *
        have HS := Lib.hid hs
        clear hs
        have qs : ∀ j, j < 8 → wr.cell? ⟨w.heap.size, 1 + j, none⟩ = some (.int .u64 (dg s j)) := fun j hj => by
          rw [qd j hj]; simp only [if_pos hj]
        clear qd hk
        have s0 := qs 0 (by omega)
        have s1 := qs 1 (by omega)
        have s2 := qs 2 (by omega)
        have s3 := qs 3 (by omega)
        have s4 := qs 4 (by omega)
        have s5 := qs 5 (by omega)
        have s6 := qs 6 (by omega)
        have s7 := qs 7 (by omega)
        have u0 := td 0 (by omega)
        have u1 := td 1 (by omega)
        have u2 := td 2 (by omega)
        have u3 := td 3 (by omega)
        have u4 := td 4 (by omega)
        have u5 := td 5 (by omega)
        have u6 := td 6 (by omega)
        have u7 := td 7 (by omega)
        clear qs td rd
        go_wp2
        obtain ⟨v0, v1, v2, v3, v4, v5, v6, v7, v8⟩ := set9 (.bool true) (.int .u64 (dg s 0)) (.int .u64 (dg s 1)) (.int .u64 (dg s 2)) (.int .u64 (dg s 3)) (.int .u64 (dg s 4)) (.int .u64 (dg s 5)) (.int .u64 (dg s 6)) (.int .u64 (dg s 7)) t0 u0 u1 u2 u3 u4 u5 u6 u7
        refine bodyPost_ret (v := .tuple #[numA true s, .bool true]) (by simp [results, Try.results76, go_sem, v0, v1, v2, v3, v4, v5, v6, v7, v8]) rfl ⟨by rw [HS.out], ?_⟩
        exact (by repeat (with_reducible (first | exact Below.refl _ _ | assumption | refine bl_alloc ?_ _ | refine bl_drewN ?_ _ | refine bl_drew ?_ | refine bl_call ?_ (by assumption) | (refine bl_setCell ?_ _ (Nat.le_refl _)) | (refine bl_setCell ?_ _ (by first | omega | (simp; done) | (simp; omega))))))
end Go.Proofs.Ytkejohmghacdhaa
