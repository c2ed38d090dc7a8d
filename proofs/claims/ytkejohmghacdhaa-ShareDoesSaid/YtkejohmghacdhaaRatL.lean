/- Contracts of r03: lowest. Printed by mklow.py. -/
import Derived.Test.YtkejohmghacdhaaRatD
import Derived.Test.YtkejohmghacdhaaMathT
namespace Go.Proofs.Ytkejohmghacdhaa
set_option linter.unusedVariables false
set_option linter.unusedSimpArgs false
open Go.RowKit
theorem capN_of' {a : Int} (h : In a) : capN a = a ∧ errN a = 0 := by
  unfold capN errN; rw [if_pos ((fitB_iff a).2 h), if_pos ((fitB_iff a).2 h)]; exact ⟨rfl, rfl⟩
theorem capN_not' {a : Int} (h : ¬ In a) : capN a = 0 ∧ errN a = 2 := by
  unfold capN errN; rw [if_neg (fun k => h ((fitB_iff a).1 k)), if_neg (fun k => h ((fitB_iff a).1 k))]; exact ⟨rfl, rfl⟩
theorem u64_nat {R : Nat} (h : R < 9223372036854775808) : IntKind.u64.wrap (R : Int) = (R : Int) := u64_in (by omega) (by omega)
def loK {α : Type} (x y z : α) (k : Nat) : α := if k = 0 then x else if k = 1 then y else z
theorem InW_ediv {n : Int} (g : Int) (h : InW n) (hg : 0 < g) : InW (n / g) := by
  have h1 : (n / g).natAbs ≤ n.natAbs := Int.natAbs_ediv_le_natAbs _ _
  unfold InW at h ⊢
  by_cases h3 : 0 ≤ n
  · have := Int.ediv_nonneg h3 (show 0 ≤ g by omega); omega
  · have : n / g < 0 := Int.ediv_lt_of_lt_mul hg (by omega)
    omega
/-- one round: what is reckoned of n and x -/
theorem low_step {n x : Int} (hn : InW n) (hx : In x) (x0 : 0 < x) (w : World) : ∃ (g R : Nat) (q0 r0 : Int), gN n x = g ∧ 0 < g ∧ (g : Int) ≤ x ∧ R < 9223372036854775808 ∧
    (∀ w, Calls Try.prog 58 #[wideA n, .int .i64 x] w fun e w' => e = .returned (.tuple #[wideA q0, .int .i64 (R : Int), .int .i64 0]) ∧ Below w.heap.size w w') ∧
    (∀ w, Calls Try.prog 41 #[.int .u64 x, .int .u64 (R : Int)] w fun e w' => e = .returned (.int .u64 (g : Int)) ∧ Below w.heap.size w w') ∧
    (∀ w, Calls Try.prog 58 #[wideA n, .int .i64 (g : Int)] w fun e w' => e = .returned (.tuple #[wideA (n / (g : Int)), .int .i64 r0, .int .i64 0]) ∧ Below w.heap.size w w') ∧
    InW (n / (g : Int)) ∧ x.tdiv (g : Int) = x / (g : Int) ∧ In (x / (g : Int)) ∧ 0 < x / (g : Int) := by
  have gp := gN_pos_q (p := n) x0
  have gx : (gN n x : Int) ≤ x := Int.le_of_dvd x0 (gN_dvd n x).2
  have hm := gN_mod n x0
  have rn := Int.emod_nonneg n (show x ≠ 0 by omega)
  have rl := Int.emod_lt_of_pos n x0
  have xm := hx.2
  obtain ⟨X, rfl⟩ := Int.eq_ofNat_of_zero_le (show 0 ≤ x by omega)
  obtain ⟨g, hg⟩ : ∃ g, gN n (X : Int) = g := ⟨_, rfl⟩
  obtain ⟨R, hR⟩ : ∃ R, (n % (X : Int)).natAbs = R := ⟨_, rfl⟩
  rw [hg] at gp gx hm
  rw [hR, Int.natAbs_natCast, Nat.gcd_comm] at hm
  have iG : In (g : Int) := ⟨by omega, by omega⟩
  obtain ⟨u1, u2, u3⟩ := wd_pos n (X : Int) x0
  obtain ⟨u4, u5, u6⟩ := wd_pos n (g : Int) gp
  have D := fun w => rwdiv_any n (X : Int) w hn hx
  rw [u3, show wdR n (X : Int) = (R : Int) by rw [u2]; omega] at D
  have E := fun w => rwdiv_any n (g : Int) w hn iG
  rw [u4, u6] at E
  have C := fun w => r3common X R w (by omega) (by omega)
  rw [hm] at C
  have q0 : 0 < (X : Int) / (g : Int) := Int.ediv_pos_of_pos_of_dvd x0 (by omega) (by rw [← hg]; exact (gN_dvd n (X : Int)).2)
  have q1 : (X : Int) / (g : Int) ≤ (X : Int) := Int.ediv_le_self _ (by omega)
  exact ⟨g, R, _, _, hg, by omega, gx, by omega, D, C, E, InW_ediv _ hn gp, Int.tdiv_eq_ediv_of_nonneg (by omega), ⟨by omega, by omega⟩, q0⟩
set_option maxRecDepth 100000 in
set_option maxHeartbeats 16000000 in
theorem lowest_any (n d c : Int) (w : World) (hn : InW n) (hd : In d) (hc : In c) (d0 : 0 < d) (c0 : 0 < c) :
    Calls Try.prog 83 #[wideA n, .int .i64 d, .int .i64 c] w fun e w' => e = .returned (.tuple #[ratA (arN n (d * c)) (arD n (d * c)), .int .i64 (arE n (d * c))]) ∧ Below w.heap.size w w' := by
  obtain ⟨g, R, q0, r0, eg, g0, gd, R0, D1, C1, E1, i1, t1, j1, p1⟩ := low_step hn hd d0 w
  obtain ⟨h, S, q1, r1, eh, h0, hh, S0, D2, C2, E2, i2, t2, j2, p2⟩ := low_step i1 hc c0 w
  obtain ⟨_, _, _, _, a1, a2⟩ := low_ar d0 c0 eg eh
  obtain ⟨n1, en1⟩ : ∃ x, n / (g : Int) = x := ⟨_, rfl⟩
  rw [en1] at E1 i1 D2 E2 i2 a1 a2
  obtain ⟨n2, en2⟩ : ∃ x, n1 / (h : Int) = x := ⟨_, rfl⟩
  rw [en2] at E2 i2 a1 a2
  obtain ⟨dq, edq⟩ : ∃ x, d / (g : Int) = x := ⟨_, rfl⟩
  rw [edq] at t1 j1 p1 a1 a2
  obtain ⟨cq, ecq⟩ : ∃ x, c / (h : Int) = x := ⟨_, rfl⟩
  rw [ecq] at t2 j2 p2 a1 a2
  obtain ⟨p, ep⟩ : ∃ p, dq * cq = p := ⟨_, rfl⟩
  rw [ep] at a1 a2
  have RR := Lib.hid (show (In n2 → (In p ∧ arN n (d * c) = n2 ∧ arD n (d * c) = p ∧ arE n (d * c) = 0) ∨ (¬ In p ∧ arN n (d * c) = 0 ∧ arD n (d * c) = 0 ∧ arE n (d * c) = 2)) ∧ (¬ In n2 → arN n (d * c) = 0 ∧ arD n (d * c) = 0 ∧ arE n (d * c) = 2) from
    ⟨fun h => by
      by_cases h2 : In p
      · exact .inl ⟨h2, a1 ⟨h, h2⟩⟩
      · exact .inr ⟨h2, a2 (fun k => h2 k.2)⟩, fun h => a2 (fun k => h k.1)⟩)
  have FT := Lib.hid (fun w => rfit_any n2 w i2)
  have ML := fun w => r1mul dq cq w j1 j2
  rw [ep] at ML
  have ML := Lib.hid ML
  have x0 : ∀ w, (Instr.index 65 (.agg #[.int .i64 d, .int .i64 c]) (.int .i64 0)).run Try.prog w = .ok (.int .i64 d) w := fun _ => by kernel_rfl
  have x1 : ∀ w, (Instr.index 65 (.agg #[.int .i64 d, .int .i64 c]) (.int .i64 1)).run Try.prog w = .ok (.int .i64 c) w := fun _ => by kernel_rfl
  have dm := hd.2
  have cm := hc.2
  have iG : In (g : Int) := ⟨by omega, Int.le_trans gd dm⟩
  have iH : In (h : Int) := ⟨by omega, Int.le_trans hh cm⟩
  have wd : wrap64 dq = dq := wrap64_of j1
  have wc : wrap64 cq = cq := wrap64_of j2
  have wg : wrap64 (g : Int) = (g : Int) := wrap64_of iG
  have wh : wrap64 (h : Int) = (h : Int) := wrap64_of iH
  have ud : IntKind.u64.wrap d = d := u64_in (Int.le_of_lt d0) dm
  have uc : IntKind.u64.wrap c = c := u64_in (Int.le_of_lt c0) cm
  have uR : IntKind.u64.wrap (R : Int) = (R : Int) := u64_nat R0
  have uS : IntKind.u64.wrap (S : Int) = (S : Int) := u64_nat S0
  have gz : ¬ g = 0 := Nat.ne_of_gt g0
  have hz : ¬ h = 0 := Nat.ne_of_gt h0
  have gz1 : ((g : Int) == 0) = false := by simpa using gz
  have hz1 : ((h : Int) == 0) = false := by simpa using hz
  have gp : (0 : Int) < (g : Int) := Int.natCast_pos.2 g0
  have hp : (0 : Int) < (h : Int) := Int.natCast_pos.2 h0
  have D1 := Lib.hid D1
  have C1 := Lib.hid C1
  have E1 := Lib.hid E1
  have D2 := Lib.hid D2
  have C2 := Lib.hid C2
  have E2 := Lib.hid E2
  generalize arN n (d * c) = rN at *
  generalize arD n (d * c) = rD at *
  generalize arE n (d * c) = rE at *
  clear a1 a2 eg eh en1 en2 edq ecq ep i1 i2 j1 j2 p1 p2 dm cm iG iH hn hd hc d0 c0 gd hh R0 S0 g0 h0
  go_enter Try.func83, Try.ntmps83
  go_wp2
  go_loopw [22] (fun i wr => ∃ k : Nat, k ≤ 2 ∧ i = .int .i64 k ∧ wr.cell? ⟨w.heap.size, 0, none⟩ = some (.int .i64 (hiW (loK n n1 n2 k))) ∧ wr.cell? ⟨w.heap.size, 1, none⟩ = some (.int .u64 (loW (loK n n1 n2 k))) ∧
      wr.cell? ⟨w.heap.size + 1, 0, none⟩ = some (.int .i64 0) ∧ wr.cell? ⟨w.heap.size + 1, 1, none⟩ = some (.int .i64 0) ∧
      wr.cell? ⟨w.heap.size + 2, 0, none⟩ = some (.int .i64 (loK d dq dq k)) ∧ wr.cell? ⟨w.heap.size + 2, 1, none⟩ = some (.int .i64 (loK c c cq k)) ∧
      (∀ o, wr.frozen? ⟨w.heap.size, o, none⟩ = false) ∧ (∀ o, wr.frozen? ⟨w.heap.size + 1, o, none⟩ = false) ∧ (∀ o, wr.frozen? ⟨w.heap.size + 2, o, none⟩ = false) ∧
      w.heap.size + 2 < wr.heap.size ∧ Below w.heap.size w wr) (fun i _ => 2 - (intOf i).toNat)
  case atStart => exact ⟨0, by omega, rfl, by go_simp; rfl, by go_simp; rfl, by go_simp, by go_simp, by go_simp; rfl, by go_simp; rfl, by go_simp, by go_simp, by go_simp, by go_simp, (by repeat (with_reducible (first | exact Below.refl _ _ | assumption | refine bl_alloc ?_ _ | refine bl_drewN ?_ _ | refine bl_drew ?_ | refine bl_call ?_ (by assumption) | (refine bl_setCell ?_ _ (Nat.le_refl _)) | (refine bl_setCell ?_ _ (by first | omega | (simp; done) | (simp; omega))))))⟩
  case round =>
    obtain ⟨k, hk, rfl, n0, n1', z0, z1, e0, e1, f0, f1, f2, hsz, hbr⟩ := hrel
    have HBr := Lib.hid hbr
    clear hbr
    have hk' : k = 0 ∨ k = 1 ∨ k = 2 := by omega
    rcases hk' with rfl | rfl | rfl
    · change wr.cell? ⟨w.heap.size, 0, none⟩ = some (.int .i64 (hiW n)) at n0
      change wr.cell? ⟨w.heap.size, 1, none⟩ = some (.int .u64 (loW n)) at n1'
      change wr.cell? ⟨w.heap.size + 2, 0, none⟩ = some (.int .i64 d) at e0
      change wr.cell? ⟨w.heap.size + 2, 1, none⟩ = some (.int .i64 c) at e1
      clear hk
      go_wp2_with fail
      refine (D1.out _).mono ?_
      rintro e v1 ⟨rfl, hb1⟩
      have o1_0 := own_stays hb1 (b := w.heap.size) (by first | assumption | (simp; done) | (simp; omega) | omega)
      have n1_0_0 : v1.cell? ⟨w.heap.size, 0, none⟩ = some (.int .i64 (hiW n)) := (o1_0.1 0).trans (by go_simp)
      have n1_0_1 : v1.cell? ⟨w.heap.size, 1, none⟩ = some (.int .u64 (loW n)) := (o1_0.1 1).trans (by go_simp)
      have f1_0 : ∀ o, v1.frozen? ⟨w.heap.size, o, none⟩ = false := fun o => (o1_0.2.1 o).trans (by go_simp)
      have s1_0 : w.heap.size < v1.heap.size := o1_0.2.2
      have o1_1 := own_stays hb1 (b := w.heap.size + 1) (by first | assumption | (simp; done) | (simp; omega) | omega)
      have n1_1_0 : v1.cell? ⟨w.heap.size + 1, 0, none⟩ = some (.int .i64 0) := (o1_1.1 0).trans (by go_simp)
      have n1_1_1 : v1.cell? ⟨w.heap.size + 1, 1, none⟩ = some (.int .i64 0) := (o1_1.1 1).trans (by go_simp)
      have f1_1 : ∀ o, v1.frozen? ⟨w.heap.size + 1, o, none⟩ = false := fun o => (o1_1.2.1 o).trans (by go_simp)
      have s1_1 : w.heap.size + 1 < v1.heap.size := o1_1.2.2
      have o1_2 := own_stays hb1 (b := w.heap.size + 2) (by first | assumption | (simp; done) | (simp; omega) | omega)
      have n1_2_0 : v1.cell? ⟨w.heap.size + 2, 0, none⟩ = some (.int .i64 d) := (o1_2.1 0).trans (by go_simp)
      have n1_2_1 : v1.cell? ⟨w.heap.size + 2, 1, none⟩ = some (.int .i64 c) := (o1_2.1 1).trans (by go_simp)
      have f1_2 : ∀ o, v1.frozen? ⟨w.heap.size + 2, o, none⟩ = false := fun o => (o1_2.2.1 o).trans (by go_simp)
      have s1_2 : w.heap.size + 2 < v1.heap.size := o1_2.2.2
      have HBx := HBr.out
      have HB1 := Lib.hid (show Below w.heap.size w v1 from bl_call (by repeat (with_reducible (first | exact Below.refl _ _ | assumption | refine bl_alloc ?_ _ | refine bl_drewN ?_ _ | refine bl_drew ?_ | refine bl_call ?_ (by assumption) | (refine bl_setCell ?_ _ (Nat.le_refl _)) | (refine bl_setCell ?_ _ (by first | omega | (simp; done) | (simp; omega)))))) hb1)
      clear HBx
      clear hb1 o1_0 o1_1 o1_2 n0 n1' z0 z1 e0 e1 f0 f1 f2 hsz HBr
      go_wp2_with fail
      refine (C1.out _).mono ?_
      rintro e v2 ⟨rfl, hb2⟩
      have o2_0 := own_stays hb2 (b := w.heap.size) (by first | assumption | (simp; done) | (simp; omega) | omega)
      have n2_0_0 : v2.cell? ⟨w.heap.size, 0, none⟩ = some (.int .i64 (hiW n)) := (o2_0.1 0).trans (by go_simp)
      have n2_0_1 : v2.cell? ⟨w.heap.size, 1, none⟩ = some (.int .u64 (loW n)) := (o2_0.1 1).trans (by go_simp)
      have f2_0 : ∀ o, v2.frozen? ⟨w.heap.size, o, none⟩ = false := fun o => (o2_0.2.1 o).trans (by go_simp)
      have s2_0 : w.heap.size < v2.heap.size := o2_0.2.2
      have o2_1 := own_stays hb2 (b := w.heap.size + 1) (by first | assumption | (simp; done) | (simp; omega) | omega)
      have n2_1_0 : v2.cell? ⟨w.heap.size + 1, 0, none⟩ = some (.int .i64 0) := (o2_1.1 0).trans (by go_simp)
      have n2_1_1 : v2.cell? ⟨w.heap.size + 1, 1, none⟩ = some (.int .i64 0) := (o2_1.1 1).trans (by go_simp)
      have f2_1 : ∀ o, v2.frozen? ⟨w.heap.size + 1, o, none⟩ = false := fun o => (o2_1.2.1 o).trans (by go_simp)
      have s2_1 : w.heap.size + 1 < v2.heap.size := o2_1.2.2
      have o2_2 := own_stays hb2 (b := w.heap.size + 2) (by first | assumption | (simp; done) | (simp; omega) | omega)
      have n2_2_0 : v2.cell? ⟨w.heap.size + 2, 0, none⟩ = some (.int .i64 d) := (o2_2.1 0).trans (by go_simp)
      have n2_2_1 : v2.cell? ⟨w.heap.size + 2, 1, none⟩ = some (.int .i64 c) := (o2_2.1 1).trans (by go_simp)
      have f2_2 : ∀ o, v2.frozen? ⟨w.heap.size + 2, o, none⟩ = false := fun o => (o2_2.2.1 o).trans (by go_simp)
      have s2_2 : w.heap.size + 2 < v2.heap.size := o2_2.2.2
      have HBx := HB1.out
      have HB2 := Lib.hid (show Below w.heap.size w v2 from bl_call (by repeat (with_reducible (first | exact Below.refl _ _ | assumption | refine bl_alloc ?_ _ | refine bl_drewN ?_ _ | refine bl_drew ?_ | refine bl_call ?_ (by assumption) | (refine bl_setCell ?_ _ (Nat.le_refl _)) | (refine bl_setCell ?_ _ (by first | omega | (simp; done) | (simp; omega)))))) hb2)
      clear HBx
      clear hb2 o2_0 o2_1 o2_2 n1_0_0 n1_0_1 f1_0 s1_0 n1_1_0 n1_1_1 f1_1 s1_1 n1_2_0 n1_2_1 f1_2 s1_2 HB1
      go_wp2_with fail
      refine (E1.out _).mono ?_
      rintro e v3 ⟨rfl, hb3⟩
      have o3_0 := own_stays hb3 (b := w.heap.size) (by first | assumption | (simp; done) | (simp; omega) | omega)
      have n3_0_0 : v3.cell? ⟨w.heap.size, 0, none⟩ = some (.int .i64 (hiW n)) := (o3_0.1 0).trans (by go_simp)
      have n3_0_1 : v3.cell? ⟨w.heap.size, 1, none⟩ = some (.int .u64 (loW n)) := (o3_0.1 1).trans (by go_simp)
      have f3_0 : ∀ o, v3.frozen? ⟨w.heap.size, o, none⟩ = false := fun o => (o3_0.2.1 o).trans (by go_simp)
      have s3_0 : w.heap.size < v3.heap.size := o3_0.2.2
      have o3_1 := own_stays hb3 (b := w.heap.size + 1) (by first | assumption | (simp; done) | (simp; omega) | omega)
      have n3_1_0 : v3.cell? ⟨w.heap.size + 1, 0, none⟩ = some (.int .i64 0) := (o3_1.1 0).trans (by go_simp)
      have n3_1_1 : v3.cell? ⟨w.heap.size + 1, 1, none⟩ = some (.int .i64 0) := (o3_1.1 1).trans (by go_simp)
      have f3_1 : ∀ o, v3.frozen? ⟨w.heap.size + 1, o, none⟩ = false := fun o => (o3_1.2.1 o).trans (by go_simp)
      have s3_1 : w.heap.size + 1 < v3.heap.size := o3_1.2.2
      have o3_2 := own_stays hb3 (b := w.heap.size + 2) (by first | assumption | (simp; done) | (simp; omega) | omega)
      have n3_2_0 : v3.cell? ⟨w.heap.size + 2, 0, none⟩ = some (.int .i64 d) := (o3_2.1 0).trans (by go_simp)
      have n3_2_1 : v3.cell? ⟨w.heap.size + 2, 1, none⟩ = some (.int .i64 c) := (o3_2.1 1).trans (by go_simp)
      have f3_2 : ∀ o, v3.frozen? ⟨w.heap.size + 2, o, none⟩ = false := fun o => (o3_2.2.1 o).trans (by go_simp)
      have s3_2 : w.heap.size + 2 < v3.heap.size := o3_2.2.2
      have HBx := HB2.out
      have HB3 := Lib.hid (show Below w.heap.size w v3 from bl_call (by repeat (with_reducible (first | exact Below.refl _ _ | assumption | refine bl_alloc ?_ _ | refine bl_drewN ?_ _ | refine bl_drew ?_ | refine bl_call ?_ (by assumption) | (refine bl_setCell ?_ _ (Nat.le_refl _)) | (refine bl_setCell ?_ _ (by first | omega | (simp; done) | (simp; omega)))))) hb3)
      clear HBx
      clear hb3 o3_0 o3_1 o3_2 n2_0_0 n2_0_1 f2_0 s2_0 n2_1_0 n2_1_1 f2_1 s2_1 n2_2_0 n2_2_1 f2_2 s2_2 HB2
      go_wp2
      go_roundw
      case rel =>
        have HBx := HB3.out
        exact ⟨1, by omega, rfl, by go_simp; rfl, by go_simp; rfl, by go_simp, by go_simp, by go_simp; rfl, by go_simp; rfl, by go_simp, by go_simp, by go_simp, by go_simp, (by repeat (with_reducible (first | exact Below.refl _ _ | assumption | refine bl_alloc ?_ _ | refine bl_drewN ?_ _ | refine bl_drew ?_ | refine bl_call ?_ (by assumption) | (refine bl_setCell ?_ _ (Nat.le_refl _)) | (refine bl_setCell ?_ _ (by first | omega | (simp; done) | (simp; omega))))))⟩
      case measure => simp [intOf]
    · change wr.cell? ⟨w.heap.size, 0, none⟩ = some (.int .i64 (hiW n1)) at n0
      change wr.cell? ⟨w.heap.size, 1, none⟩ = some (.int .u64 (loW n1)) at n1'
      change wr.cell? ⟨w.heap.size + 2, 0, none⟩ = some (.int .i64 dq) at e0
      change wr.cell? ⟨w.heap.size + 2, 1, none⟩ = some (.int .i64 c) at e1
      clear hk
      go_wp2_with fail
      refine (D2.out _).mono ?_
      rintro e v1 ⟨rfl, hb1⟩
      have o1_0 := own_stays hb1 (b := w.heap.size) (by first | assumption | (simp; done) | (simp; omega) | omega)
      have n1_0_0 : v1.cell? ⟨w.heap.size, 0, none⟩ = some (.int .i64 (hiW n1)) := (o1_0.1 0).trans (by go_simp)
      have n1_0_1 : v1.cell? ⟨w.heap.size, 1, none⟩ = some (.int .u64 (loW n1)) := (o1_0.1 1).trans (by go_simp)
      have f1_0 : ∀ o, v1.frozen? ⟨w.heap.size, o, none⟩ = false := fun o => (o1_0.2.1 o).trans (by go_simp)
      have s1_0 : w.heap.size < v1.heap.size := o1_0.2.2
      have o1_1 := own_stays hb1 (b := w.heap.size + 1) (by first | assumption | (simp; done) | (simp; omega) | omega)
      have n1_1_0 : v1.cell? ⟨w.heap.size + 1, 0, none⟩ = some (.int .i64 0) := (o1_1.1 0).trans (by go_simp)
      have n1_1_1 : v1.cell? ⟨w.heap.size + 1, 1, none⟩ = some (.int .i64 0) := (o1_1.1 1).trans (by go_simp)
      have f1_1 : ∀ o, v1.frozen? ⟨w.heap.size + 1, o, none⟩ = false := fun o => (o1_1.2.1 o).trans (by go_simp)
      have s1_1 : w.heap.size + 1 < v1.heap.size := o1_1.2.2
      have o1_2 := own_stays hb1 (b := w.heap.size + 2) (by first | assumption | (simp; done) | (simp; omega) | omega)
      have n1_2_0 : v1.cell? ⟨w.heap.size + 2, 0, none⟩ = some (.int .i64 dq) := (o1_2.1 0).trans (by go_simp)
      have n1_2_1 : v1.cell? ⟨w.heap.size + 2, 1, none⟩ = some (.int .i64 c) := (o1_2.1 1).trans (by go_simp)
      have f1_2 : ∀ o, v1.frozen? ⟨w.heap.size + 2, o, none⟩ = false := fun o => (o1_2.2.1 o).trans (by go_simp)
      have s1_2 : w.heap.size + 2 < v1.heap.size := o1_2.2.2
      have HBx := HBr.out
      have HB1 := Lib.hid (show Below w.heap.size w v1 from bl_call (by repeat (with_reducible (first | exact Below.refl _ _ | assumption | refine bl_alloc ?_ _ | refine bl_drewN ?_ _ | refine bl_drew ?_ | refine bl_call ?_ (by assumption) | (refine bl_setCell ?_ _ (Nat.le_refl _)) | (refine bl_setCell ?_ _ (by first | omega | (simp; done) | (simp; omega)))))) hb1)
      clear HBx
      clear hb1 o1_0 o1_1 o1_2 n0 n1' z0 z1 e0 e1 f0 f1 f2 hsz HBr
      go_wp2_with fail
      refine (C2.out _).mono ?_
      rintro e v2 ⟨rfl, hb2⟩
      have o2_0 := own_stays hb2 (b := w.heap.size) (by first | assumption | (simp; done) | (simp; omega) | omega)
      have n2_0_0 : v2.cell? ⟨w.heap.size, 0, none⟩ = some (.int .i64 (hiW n1)) := (o2_0.1 0).trans (by go_simp)
      have n2_0_1 : v2.cell? ⟨w.heap.size, 1, none⟩ = some (.int .u64 (loW n1)) := (o2_0.1 1).trans (by go_simp)
      have f2_0 : ∀ o, v2.frozen? ⟨w.heap.size, o, none⟩ = false := fun o => (o2_0.2.1 o).trans (by go_simp)
      have s2_0 : w.heap.size < v2.heap.size := o2_0.2.2
      have o2_1 := own_stays hb2 (b := w.heap.size + 1) (by first | assumption | (simp; done) | (simp; omega) | omega)
      have n2_1_0 : v2.cell? ⟨w.heap.size + 1, 0, none⟩ = some (.int .i64 0) := (o2_1.1 0).trans (by go_simp)
      have n2_1_1 : v2.cell? ⟨w.heap.size + 1, 1, none⟩ = some (.int .i64 0) := (o2_1.1 1).trans (by go_simp)
      have f2_1 : ∀ o, v2.frozen? ⟨w.heap.size + 1, o, none⟩ = false := fun o => (o2_1.2.1 o).trans (by go_simp)
      have s2_1 : w.heap.size + 1 < v2.heap.size := o2_1.2.2
      have o2_2 := own_stays hb2 (b := w.heap.size + 2) (by first | assumption | (simp; done) | (simp; omega) | omega)
      have n2_2_0 : v2.cell? ⟨w.heap.size + 2, 0, none⟩ = some (.int .i64 dq) := (o2_2.1 0).trans (by go_simp)
      have n2_2_1 : v2.cell? ⟨w.heap.size + 2, 1, none⟩ = some (.int .i64 c) := (o2_2.1 1).trans (by go_simp)
      have f2_2 : ∀ o, v2.frozen? ⟨w.heap.size + 2, o, none⟩ = false := fun o => (o2_2.2.1 o).trans (by go_simp)
      have s2_2 : w.heap.size + 2 < v2.heap.size := o2_2.2.2
      have HBx := HB1.out
      have HB2 := Lib.hid (show Below w.heap.size w v2 from bl_call (by repeat (with_reducible (first | exact Below.refl _ _ | assumption | refine bl_alloc ?_ _ | refine bl_drewN ?_ _ | refine bl_drew ?_ | refine bl_call ?_ (by assumption) | (refine bl_setCell ?_ _ (Nat.le_refl _)) | (refine bl_setCell ?_ _ (by first | omega | (simp; done) | (simp; omega)))))) hb2)
      clear HBx
      clear hb2 o2_0 o2_1 o2_2 n1_0_0 n1_0_1 f1_0 s1_0 n1_1_0 n1_1_1 f1_1 s1_1 n1_2_0 n1_2_1 f1_2 s1_2 HB1
      go_wp2_with fail
      refine (E2.out _).mono ?_
      rintro e v3 ⟨rfl, hb3⟩
      have o3_0 := own_stays hb3 (b := w.heap.size) (by first | assumption | (simp; done) | (simp; omega) | omega)
      have n3_0_0 : v3.cell? ⟨w.heap.size, 0, none⟩ = some (.int .i64 (hiW n1)) := (o3_0.1 0).trans (by go_simp)
      have n3_0_1 : v3.cell? ⟨w.heap.size, 1, none⟩ = some (.int .u64 (loW n1)) := (o3_0.1 1).trans (by go_simp)
      have f3_0 : ∀ o, v3.frozen? ⟨w.heap.size, o, none⟩ = false := fun o => (o3_0.2.1 o).trans (by go_simp)
      have s3_0 : w.heap.size < v3.heap.size := o3_0.2.2
      have o3_1 := own_stays hb3 (b := w.heap.size + 1) (by first | assumption | (simp; done) | (simp; omega) | omega)
      have n3_1_0 : v3.cell? ⟨w.heap.size + 1, 0, none⟩ = some (.int .i64 0) := (o3_1.1 0).trans (by go_simp)
      have n3_1_1 : v3.cell? ⟨w.heap.size + 1, 1, none⟩ = some (.int .i64 0) := (o3_1.1 1).trans (by go_simp)
      have f3_1 : ∀ o, v3.frozen? ⟨w.heap.size + 1, o, none⟩ = false := fun o => (o3_1.2.1 o).trans (by go_simp)
      have s3_1 : w.heap.size + 1 < v3.heap.size := o3_1.2.2
      have o3_2 := own_stays hb3 (b := w.heap.size + 2) (by first | assumption | (simp; done) | (simp; omega) | omega)
      have n3_2_0 : v3.cell? ⟨w.heap.size + 2, 0, none⟩ = some (.int .i64 dq) := (o3_2.1 0).trans (by go_simp)
      have n3_2_1 : v3.cell? ⟨w.heap.size + 2, 1, none⟩ = some (.int .i64 c) := (o3_2.1 1).trans (by go_simp)
      have f3_2 : ∀ o, v3.frozen? ⟨w.heap.size + 2, o, none⟩ = false := fun o => (o3_2.2.1 o).trans (by go_simp)
      have s3_2 : w.heap.size + 2 < v3.heap.size := o3_2.2.2
      have HBx := HB2.out
      have HB3 := Lib.hid (show Below w.heap.size w v3 from bl_call (by repeat (with_reducible (first | exact Below.refl _ _ | assumption | refine bl_alloc ?_ _ | refine bl_drewN ?_ _ | refine bl_drew ?_ | refine bl_call ?_ (by assumption) | (refine bl_setCell ?_ _ (Nat.le_refl _)) | (refine bl_setCell ?_ _ (by first | omega | (simp; done) | (simp; omega)))))) hb3)
      clear HBx
      clear hb3 o3_0 o3_1 o3_2 n2_0_0 n2_0_1 f2_0 s2_0 n2_1_0 n2_1_1 f2_1 s2_1 n2_2_0 n2_2_1 f2_2 s2_2 HB2
      go_wp2
      go_roundw
      case rel =>
        have HBx := HB3.out
        exact ⟨2, by omega, rfl, by go_simp; rfl, by go_simp; rfl, by go_simp, by go_simp, by go_simp; rfl, by go_simp; rfl, by go_simp, by go_simp, by go_simp, by go_simp, (by repeat (with_reducible (first | exact Below.refl _ _ | assumption | refine bl_alloc ?_ _ | refine bl_drewN ?_ _ | refine bl_drew ?_ | refine bl_call ?_ (by assumption) | (refine bl_setCell ?_ _ (Nat.le_refl _)) | (refine bl_setCell ?_ _ (by first | omega | (simp; done) | (simp; omega))))))⟩
      case measure => simp [intOf]
    · change wr.cell? ⟨w.heap.size, 0, none⟩ = some (.int .i64 (hiW n2)) at n0
      change wr.cell? ⟨w.heap.size, 1, none⟩ = some (.int .u64 (loW n2)) at n1'
      change wr.cell? ⟨w.heap.size + 2, 0, none⟩ = some (.int .i64 dq) at e0
      change wr.cell? ⟨w.heap.size + 2, 1, none⟩ = some (.int .i64 cq) at e1
      clear hk
      go_wp2_with fail
      refine (FT.out _).mono ?_
      rintro e v1 ⟨rfl, hb1⟩
      have o1_0 := own_stays hb1 (b := w.heap.size + 1) (by first | assumption | (simp; done) | (simp; omega) | omega)
      have n1_0_0 : v1.cell? ⟨w.heap.size + 1, 0, none⟩ = some (.int .i64 0) := (o1_0.1 0).trans (by go_simp)
      have n1_0_1 : v1.cell? ⟨w.heap.size + 1, 1, none⟩ = some (.int .i64 0) := (o1_0.1 1).trans (by go_simp)
      have f1_0 : ∀ o, v1.frozen? ⟨w.heap.size + 1, o, none⟩ = false := fun o => (o1_0.2.1 o).trans (by go_simp)
      have s1_0 : w.heap.size + 1 < v1.heap.size := o1_0.2.2
      have o1_1 := own_stays hb1 (b := w.heap.size + 2) (by first | assumption | (simp; done) | (simp; omega) | omega)
      have n1_1_0 : v1.cell? ⟨w.heap.size + 2, 0, none⟩ = some (.int .i64 dq) := (o1_1.1 0).trans (by go_simp)
      have n1_1_1 : v1.cell? ⟨w.heap.size + 2, 1, none⟩ = some (.int .i64 cq) := (o1_1.1 1).trans (by go_simp)
      have s1_1 : w.heap.size + 2 < v1.heap.size := o1_1.2.2
      have HBx := HBr.out
      have HB1 := Lib.hid (show Below w.heap.size w v1 from bl_call (by repeat (with_reducible (first | exact Below.refl _ _ | assumption | refine bl_alloc ?_ _ | refine bl_drewN ?_ _ | refine bl_drew ?_ | refine bl_call ?_ (by assumption) | (refine bl_setCell ?_ _ (Nat.le_refl _)) | (refine bl_setCell ?_ _ (by first | omega | (simp; done) | (simp; omega)))))) hb1)
      clear HBx
      clear hb1 o1_0 o1_1 n0 n1' z0 z1 e0 e1 f0 f1 f2 hsz HBr
      by_cases i1 : In n2
      · have c1 := capN_of' i1
        rw [c1.1, c1.2]
        go_wp2_with fail
        refine (ML.out _).mono ?_
        rintro e u ⟨rfl, rfl⟩
        rcases RR.out.1 i1 with ⟨i2, e1, e2, e3⟩ | ⟨i2, e1, e2, e3⟩
        · have c2 := capN_of' i2
          rw [c2.1, c2.2]
          have EE := Lib.hid (And.intro e1 (And.intro e2 e3))
          clear e1 e2 e3 c1 c2 i1 i2
          go_wp2
          refine bodyPost_ret (v := .tuple #[ratA n2 p, .int .i64 0]) (by simp [results, Try.results83, go_sem, *]) rfl ⟨ret_re EE.out.1.symm EE.out.2.1.symm EE.out.2.2.symm, ?_⟩
          have := HB1.out
          exact (by repeat (with_reducible (first | exact Below.refl _ _ | assumption | refine bl_alloc ?_ _ | refine bl_drewN ?_ _ | refine bl_drew ?_ | refine bl_call ?_ (by assumption) | (refine bl_setCell ?_ _ (Nat.le_refl _)) | (refine bl_setCell ?_ _ (by first | omega | (simp; done) | (simp; omega))))))
        · have c2 := capN_not' i2
          rw [c2.1, c2.2]
          have EE := Lib.hid (And.intro e1 (And.intro e2 e3))
          clear e1 e2 e3 c1 c2 i1 i2
          go_wp2
          refine bodyPost_ret (v := .tuple #[ratA 0 0, .int .i64 2]) (by simp [results, Try.results83, go_sem, *]) rfl ⟨ret_re EE.out.1.symm EE.out.2.1.symm EE.out.2.2.symm, ?_⟩
          have := HB1.out
          exact (by repeat (with_reducible (first | exact Below.refl _ _ | assumption | refine bl_alloc ?_ _ | refine bl_drewN ?_ _ | refine bl_drew ?_ | refine bl_call ?_ (by assumption) | (refine bl_setCell ?_ _ (Nat.le_refl _)) | (refine bl_setCell ?_ _ (by first | omega | (simp; done) | (simp; omega))))))
      · have c1 := capN_not' i1
        rw [c1.1, c1.2]
        have EE := Lib.hid (RR.out.2 i1)
        clear i1 c1
        go_wp2
        refine bodyPost_ret (v := .tuple #[ratA 0 0, .int .i64 2]) (by simp [results, Try.results83, go_sem, *]) rfl ⟨ret_re EE.out.1.symm EE.out.2.1.symm EE.out.2.2.symm, ?_⟩
        have := HB1.out
        exact (by repeat (with_reducible (first | exact Below.refl _ _ | assumption | refine bl_alloc ?_ _ | refine bl_drewN ?_ _ | refine bl_drew ?_ | refine bl_call ?_ (by assumption) | (refine bl_setCell ?_ _ (Nat.le_refl _)) | (refine bl_setCell ?_ _ (by first | omega | (simp; done) | (simp; omega))))))
end Go.Proofs.Ytkejohmghacdhaa
