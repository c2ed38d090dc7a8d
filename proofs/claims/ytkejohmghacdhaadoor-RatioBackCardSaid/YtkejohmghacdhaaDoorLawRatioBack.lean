import Derived.Test.YtkejohmghacdhaaDoorLawRatio3
import Derived.Test.YtkejohmghacdhaaDoorRatH
import Derived.Test.YtkejohmghacdhaaDoorMathS
namespace Go.Proofs.YtkejohmghacdhaaDoor
set_option linter.unusedVariables false
set_option linter.unusedSimpArgs false
open Go.RowKit
theorem back_sub {n d m c : Int} (hn : In n) (hd : In d) (hm : In m) (hc : In c) (h : vE (cpB n d m c) (arE (smP false n d m c) (d * c)) = 0) (w : World) (hT : Tab w) :
    Calls Tryd.prog 12 #[ratA (vN (cpB n d m c) (arN (smP false n d m c) (d * c))) (vN (cpB n d m c) (arD (smP false n d m c) (d * c))), ratA m c] w fun e w' => e = .returned (.tuple #[ratA n d, .int .i64 0]) ∧ Below w.heap.size w w' := by
  obtain ⟨k1, k2⟩ := cpB_true.1 (vE_zero h).1
  have d1 := (ck_true k1).1
  have c1 := (ck_true k2).1
  obtain ⟨g, g0, i1, i2, e1, e2, k3⟩ := op_right (Int.mul_pos (show 0 < d by omega) (show 0 < c by omega)) h
  have S := rat_sub _ _ m c w i1 i2 hm hc hT
  rw [cpB_true.2 ⟨k3, k2⟩, vN_yes, vN_yes, vE_yes] at S
  obtain ⟨b1, b2, b3⟩ := add_back hn hd k1 (show 0 < c by omega) g0 e1 e2
  rw [b1, b2, b3] at S
  exact S
theorem back_div {n d m c : Int} (hn : In n) (hd : In d) (hm : In m) (hc : In c) (h : vE (cpB n d m c) (arE (n * m) (d * c)) = 0) (h0 : m ≠ 0) (w : World) :
    Calls Tryd.prog 15 #[ratA (vN (cpB n d m c) (arN (n * m) (d * c))) (vN (cpB n d m c) (arD (n * m) (d * c))), ratA m c] w fun e w' => e = .returned (.tuple #[ratA n d, .int .i64 0]) ∧ Below w.heap.size w w' := by
  obtain ⟨k1, k2⟩ := cpB_true.1 (vE_zero h).1
  have d1 := (ck_true k1).1
  have c1 := (ck_true k2).1
  obtain ⟨g, g0, i1, i2, e1, e2, k3⟩ := op_right (Int.mul_pos (show 0 < d by omega) (show 0 < c by omega)) h
  have S := rat_div _ _ m c w i1 i2 hm hc
  rw [cpB_true.2 ⟨k3, k2⟩, vN_yes, vN_yes, vE_yes] at S
  obtain ⟨b1, b2, b3⟩ := mul_back hn hd k1 (show 0 < c by omega) h0 g0 e1 e2
  rw [b1, b2, b3] at S
  exact S
set_option maxRecDepth 100000 in
set_option maxHeartbeats 8000000 in
theorem ratioBack_any (n d m c : Int) (w : World) (hn : In n) (hd : In d) (hm : In m) (hc : In c) (hT : Tab w) :
    Calls Tryd.prog 5 #[ratA n d, ratA m c] w fun e w' => e = .returned (.bool true) ∧ Below w.heap.size w w' := by
  have A1 := Lib.hid (fun w hT => rat_add n d m c w hn hd hm hc hT)
  have M1 := Lib.hid (fun w => rat_mul n d m c w hn hd hm hc)
  have BS := Lib.hid (fun h w hT => back_sub hn hd hm hc h w hT)
  have BD := Lib.hid (fun h h0 w => back_div hn hd hm hc h h0 w)
  have TB := Lib.hid hT
  clear hT hn hd hm hc
  generalize vN (cpB n d m c) (arN (smP false n d m c) (d * c)) = sN at *
  generalize vN (cpB n d m c) (arD (smP false n d m c) (d * c)) = sD at *
  generalize vE (cpB n d m c) (arE (smP false n d m c) (d * c)) = sE at *
  generalize vN (cpB n d m c) (arN (n * m) (d * c)) = pN at *
  generalize vN (cpB n d m c) (arD (n * m) (d * c)) = pD at *
  generalize vE (cpB n d m c) (arE (n * m) (d * c)) = pE at *
  go_enter Tryd.func5, Tryd.ntmps5
  go_wp2_with fail
  refine (live3 _).mono ?_
  rintro e v1 ⟨rfl, hb1⟩
  have o1_0 := own_stays hb1 (b := w.heap.size) (by first | assumption | (simp; done) | (simp; omega) | omega)
  have n1_0_0 : v1.cell? ⟨w.heap.size, 0, none⟩ = some (.int .i64 n) := (o1_0.1 0).trans (by go_simp)
  have n1_0_1 : v1.cell? ⟨w.heap.size, 1, none⟩ = some (.int .i64 d) := (o1_0.1 1).trans (by go_simp)
  have s1_0 : w.heap.size < v1.heap.size := o1_0.2.2
  have o1_1 := own_stays hb1 (b := w.heap.size + 1) (by first | assumption | (simp; done) | (simp; omega) | omega)
  have n1_1_0 : v1.cell? ⟨w.heap.size + 1, 0, none⟩ = some (.int .i64 m) := (o1_1.1 0).trans (by go_simp)
  have n1_1_1 : v1.cell? ⟨w.heap.size + 1, 1, none⟩ = some (.int .i64 c) := (o1_1.1 1).trans (by go_simp)
  have s1_1 : w.heap.size + 1 < v1.heap.size := o1_1.2.2
  have HB1 := Lib.hid (show Below w.heap.size w v1 from bl_call (by repeat (with_reducible (first | exact Below.refl _ _ | assumption | refine bl_alloc ?_ _ | refine bl_drewN ?_ _ | refine bl_drew ?_ | refine bl_call ?_ (by assumption) | (refine bl_setCell ?_ _ (Nat.le_refl _)) | (refine bl_setCell ?_ _ (by first | omega | (simp; done) | (simp; omega)))))) hb1)
  clear hb1 o1_0 o1_1 
  go_wp2_with fail
  refine (A1.out _ ?_).mono ?_
  · have HBz := HB1.out
    exact TB.out.go (by repeat (with_reducible (first | exact Below.refl _ _ | assumption | refine bl_alloc ?_ _ | refine bl_drewN ?_ _ | refine bl_drew ?_ | refine bl_call ?_ (by assumption) | (refine bl_setCell ?_ _ (Nat.le_refl _)) | (refine bl_setCell ?_ _ (by first | omega | (simp; done) | (simp; omega))))))
  rintro e v2 ⟨rfl, hb2⟩
  have o2_0 := own_stays hb2 (b := w.heap.size) (by first | assumption | (simp; done) | (simp; omega) | omega)
  have n2_0_0 : v2.cell? ⟨w.heap.size, 0, none⟩ = some (.int .i64 n) := (o2_0.1 0).trans (by go_simp)
  have n2_0_1 : v2.cell? ⟨w.heap.size, 1, none⟩ = some (.int .i64 d) := (o2_0.1 1).trans (by go_simp)
  have s2_0 : w.heap.size < v2.heap.size := o2_0.2.2
  have o2_1 := own_stays hb2 (b := w.heap.size + 1) (by first | assumption | (simp; done) | (simp; omega) | omega)
  have n2_1_0 : v2.cell? ⟨w.heap.size + 1, 0, none⟩ = some (.int .i64 m) := (o2_1.1 0).trans (by go_simp)
  have n2_1_1 : v2.cell? ⟨w.heap.size + 1, 1, none⟩ = some (.int .i64 c) := (o2_1.1 1).trans (by go_simp)
  have s2_1 : w.heap.size + 1 < v2.heap.size := o2_1.2.2
  have HBx := HB1.out
  have HB2 := Lib.hid (show Below w.heap.size w v2 from bl_call (by repeat (with_reducible (first | exact Below.refl _ _ | assumption | refine bl_alloc ?_ _ | refine bl_drewN ?_ _ | refine bl_drew ?_ | refine bl_call ?_ (by assumption) | (refine bl_setCell ?_ _ (Nat.le_refl _)) | (refine bl_setCell ?_ _ (by first | omega | (simp; done) | (simp; omega)))))) hb2)
  clear HBx
  clear hb2 o2_0 o2_1 n1_0_0 n1_0_1 s1_0 n1_1_0 n1_1_1 s1_1 HB1
  have le_0 : w.heap.size ≤ v2.heap.size := by omega
  have ne_0_0_0 : ¬ w.heap.size = v2.heap.size := by omega
  have nf_0_0_0 : ¬ v2.heap.size = w.heap.size := by omega
  have ne_0_1_0 : ¬ w.heap.size + 1 = v2.heap.size := by omega
  have nf_0_1_0 : ¬ v2.heap.size = w.heap.size + 1 := by omega
  by_cases h1 : sE = 0
  · subst h1
    have BSS := Lib.hid (BS.out rfl)
    go_wp2_with fail
    refine (BSS.out _ ?_).mono ?_
    · have HBz := HB2.out
      exact TB.out.go (by repeat (with_reducible (first | exact Below.refl _ _ | assumption | refine bl_alloc ?_ _ | refine bl_drewN ?_ _ | refine bl_drew ?_ | refine bl_call ?_ (by assumption) | (refine bl_setCell ?_ _ (Nat.le_refl _)) | (refine bl_setCell ?_ _ (by first | omega | (simp; done) | (simp; omega))))))
    rintro e v3 ⟨rfl, hb3⟩
    have o3_0 := own_stays hb3 (b := w.heap.size) (by first | assumption | (simp; done) | (simp; omega) | omega)
    have n3_0_0 : v3.cell? ⟨w.heap.size, 0, none⟩ = some (.int .i64 n) := (o3_0.1 0).trans (by go_simp)
    have n3_0_1 : v3.cell? ⟨w.heap.size, 1, none⟩ = some (.int .i64 d) := (o3_0.1 1).trans (by go_simp)
    have s3_0 : w.heap.size < v3.heap.size := o3_0.2.2
    have o3_1 := own_stays hb3 (b := w.heap.size + 1) (by first | assumption | (simp; done) | (simp; omega) | omega)
    have n3_1_0 : v3.cell? ⟨w.heap.size + 1, 0, none⟩ = some (.int .i64 m) := (o3_1.1 0).trans (by go_simp)
    have n3_1_1 : v3.cell? ⟨w.heap.size + 1, 1, none⟩ = some (.int .i64 c) := (o3_1.1 1).trans (by go_simp)
    have s3_1 : w.heap.size + 1 < v3.heap.size := o3_1.2.2
    have o3_2 := own_stays hb3 (b := v2.heap.size) (by first | assumption | (simp; done) | (simp; omega) | omega)
    have n3_2_0 : v3.cell? ⟨v2.heap.size, 0, none⟩ = some (.int .i64 sN) := (o3_2.1 0).trans (by go_simp)
    have n3_2_1 : v3.cell? ⟨v2.heap.size, 1, none⟩ = some (.int .i64 sD) := (o3_2.1 1).trans (by go_simp)
    have f3_2 : ∀ o, v3.frozen? ⟨v2.heap.size, o, none⟩ = false := fun o => (o3_2.2.1 o).trans (by go_simp)
    have s3_2 : v2.heap.size < v3.heap.size := o3_2.2.2
    have HBx := HB2.out
    have HB3 := Lib.hid (show Below w.heap.size w v3 from bl_call (by repeat (with_reducible (first | exact Below.refl _ _ | assumption | refine bl_alloc ?_ _ | refine bl_drewN ?_ _ | refine bl_drew ?_ | refine bl_call ?_ (by assumption) | (refine bl_setCell ?_ _ (Nat.le_refl _)) | (refine bl_setCell ?_ _ (by first | omega | (simp; done) | (simp; omega)))))) hb3)
    clear HBx
    clear hb3 o3_0 o3_1 o3_2 n2_0_0 n2_0_1 s2_0 n2_1_0 n2_1_1 s2_1 HB2
    have le_1 : w.heap.size ≤ v3.heap.size := by omega
    have ne_1_0_0 : ¬ w.heap.size = v3.heap.size := by omega
    have nf_1_0_0 : ¬ v3.heap.size = w.heap.size := by omega
    have ne_1_1_0 : ¬ w.heap.size + 1 = v3.heap.size := by omega
    have nf_1_1_0 : ¬ v3.heap.size = w.heap.size + 1 := by omega
    have ne_1_2_0 : ¬ v2.heap.size = v3.heap.size := by omega
    have nf_1_2_0 : ¬ v3.heap.size = v2.heap.size := by omega
    go_wp2_with fail
    refine (M1.out _).mono ?_
    rintro e v4 ⟨rfl, hb4⟩
    have o4_0 := own_stays hb4 (b := w.heap.size) (by first | assumption | (simp; done) | (simp; omega) | omega)
    have n4_0_0 : v4.cell? ⟨w.heap.size, 0, none⟩ = some (.int .i64 n) := (o4_0.1 0).trans (by go_simp)
    have n4_0_1 : v4.cell? ⟨w.heap.size, 1, none⟩ = some (.int .i64 d) := (o4_0.1 1).trans (by go_simp)
    have s4_0 : w.heap.size < v4.heap.size := o4_0.2.2
    have o4_1 := own_stays hb4 (b := w.heap.size + 1) (by first | assumption | (simp; done) | (simp; omega) | omega)
    have n4_1_0 : v4.cell? ⟨w.heap.size + 1, 0, none⟩ = some (.int .i64 m) := (o4_1.1 0).trans (by go_simp)
    have n4_1_1 : v4.cell? ⟨w.heap.size + 1, 1, none⟩ = some (.int .i64 c) := (o4_1.1 1).trans (by go_simp)
    have s4_1 : w.heap.size + 1 < v4.heap.size := o4_1.2.2
    have o4_2 := own_stays hb4 (b := v2.heap.size) (by first | assumption | (simp; done) | (simp; omega) | omega)
    have n4_2_0 : v4.cell? ⟨v2.heap.size, 0, none⟩ = some (.int .i64 sN) := (o4_2.1 0).trans (by go_simp)
    have n4_2_1 : v4.cell? ⟨v2.heap.size, 1, none⟩ = some (.int .i64 sD) := (o4_2.1 1).trans (by go_simp)
    have f4_2 : ∀ o, v4.frozen? ⟨v2.heap.size, o, none⟩ = false := fun o => (o4_2.2.1 o).trans (by go_simp)
    have s4_2 : v2.heap.size < v4.heap.size := o4_2.2.2
    have o4_3 := own_stays hb4 (b := v3.heap.size) (by first | assumption | (simp; done) | (simp; omega) | omega)
    have n4_3_0 : v4.cell? ⟨v3.heap.size, 0, none⟩ = some (.int .i64 n) := (o4_3.1 0).trans (by go_simp)
    have n4_3_1 : v4.cell? ⟨v3.heap.size, 1, none⟩ = some (.int .i64 d) := (o4_3.1 1).trans (by go_simp)
    have f4_3 : ∀ o, v4.frozen? ⟨v3.heap.size, o, none⟩ = false := fun o => (o4_3.2.1 o).trans (by go_simp)
    have s4_3 : v3.heap.size < v4.heap.size := o4_3.2.2
    have HBx := HB3.out
    have HB4 := Lib.hid (show Below w.heap.size w v4 from bl_call (by repeat (with_reducible (first | exact Below.refl _ _ | assumption | refine bl_alloc ?_ _ | refine bl_drewN ?_ _ | refine bl_drew ?_ | refine bl_call ?_ (by assumption) | (refine bl_setCell ?_ _ (Nat.le_refl _)) | (refine bl_setCell ?_ _ (by first | omega | (simp; done) | (simp; omega)))))) hb4)
    clear HBx
    clear hb4 o4_0 o4_1 o4_2 o4_3 n3_0_0 n3_0_1 s3_0 n3_1_0 n3_1_1 s3_1 n3_2_0 n3_2_1 f3_2 s3_2 HB3
    have le_2 : w.heap.size ≤ v4.heap.size := by omega
    have ne_2_0_0 : ¬ w.heap.size = v4.heap.size := by omega
    have nf_2_0_0 : ¬ v4.heap.size = w.heap.size := by omega
    have ne_2_1_0 : ¬ w.heap.size + 1 = v4.heap.size := by omega
    have nf_2_1_0 : ¬ v4.heap.size = w.heap.size + 1 := by omega
    have ne_2_2_0 : ¬ v2.heap.size = v4.heap.size := by omega
    have nf_2_2_0 : ¬ v4.heap.size = v2.heap.size := by omega
    have ne_2_3_0 : ¬ v3.heap.size = v4.heap.size := by omega
    have nf_2_3_0 : ¬ v4.heap.size = v3.heap.size := by omega
    by_cases h2 : pE = 0
    · subst h2
      by_cases h3 : m = 0
      · subst h3
        go_wp2
        go_ret
        have HBz := HB4.out
        exact ⟨ret_b (by first | rfl | (simp; done)), (by repeat (with_reducible (first | exact Below.refl _ _ | assumption | refine bl_alloc ?_ _ | refine bl_drewN ?_ _ | refine bl_drew ?_ | refine bl_call ?_ (by assumption) | (refine bl_setCell ?_ _ (Nat.le_refl _)) | (refine bl_setCell ?_ _ (by first | omega | (simp; done) | (simp; omega))))))⟩
      · have m1 : (m != 0) = true := by simpa using h3
        have m2 : (m == 0) = false := by simpa using h3
        have BDD := Lib.hid (BD.out rfl h3)
        clear h3
        go_wp2_with fail
        refine (BDD.out _).mono ?_
        rintro e v5 ⟨rfl, hb5⟩
        have o5_0 := own_stays hb5 (b := w.heap.size) (by first | assumption | (simp; done) | (simp; omega) | omega)
        have n5_0_0 : v5.cell? ⟨w.heap.size, 0, none⟩ = some (.int .i64 n) := (o5_0.1 0).trans (by go_simp)
        have n5_0_1 : v5.cell? ⟨w.heap.size, 1, none⟩ = some (.int .i64 d) := (o5_0.1 1).trans (by go_simp)
        have s5_0 : w.heap.size < v5.heap.size := o5_0.2.2
        have o5_1 := own_stays hb5 (b := w.heap.size + 1) (by first | assumption | (simp; done) | (simp; omega) | omega)
        have n5_1_0 : v5.cell? ⟨w.heap.size + 1, 0, none⟩ = some (.int .i64 m) := (o5_1.1 0).trans (by go_simp)
        have n5_1_1 : v5.cell? ⟨w.heap.size + 1, 1, none⟩ = some (.int .i64 c) := (o5_1.1 1).trans (by go_simp)
        have s5_1 : w.heap.size + 1 < v5.heap.size := o5_1.2.2
        have o5_2 := own_stays hb5 (b := v2.heap.size) (by first | assumption | (simp; done) | (simp; omega) | omega)
        have n5_2_0 : v5.cell? ⟨v2.heap.size, 0, none⟩ = some (.int .i64 sN) := (o5_2.1 0).trans (by go_simp)
        have n5_2_1 : v5.cell? ⟨v2.heap.size, 1, none⟩ = some (.int .i64 sD) := (o5_2.1 1).trans (by go_simp)
        have f5_2 : ∀ o, v5.frozen? ⟨v2.heap.size, o, none⟩ = false := fun o => (o5_2.2.1 o).trans (by go_simp)
        have s5_2 : v2.heap.size < v5.heap.size := o5_2.2.2
        have o5_3 := own_stays hb5 (b := v3.heap.size) (by first | assumption | (simp; done) | (simp; omega) | omega)
        have n5_3_0 : v5.cell? ⟨v3.heap.size, 0, none⟩ = some (.int .i64 n) := (o5_3.1 0).trans (by go_simp)
        have n5_3_1 : v5.cell? ⟨v3.heap.size, 1, none⟩ = some (.int .i64 d) := (o5_3.1 1).trans (by go_simp)
        have f5_3 : ∀ o, v5.frozen? ⟨v3.heap.size, o, none⟩ = false := fun o => (o5_3.2.1 o).trans (by go_simp)
        have s5_3 : v3.heap.size < v5.heap.size := o5_3.2.2
        have o5_4 := own_stays hb5 (b := v4.heap.size) (by first | assumption | (simp; done) | (simp; omega) | omega)
        have n5_4_0 : v5.cell? ⟨v4.heap.size, 0, none⟩ = some (.int .i64 pN) := (o5_4.1 0).trans (by go_simp)
        have n5_4_1 : v5.cell? ⟨v4.heap.size, 1, none⟩ = some (.int .i64 pD) := (o5_4.1 1).trans (by go_simp)
        have f5_4 : ∀ o, v5.frozen? ⟨v4.heap.size, o, none⟩ = false := fun o => (o5_4.2.1 o).trans (by go_simp)
        have s5_4 : v4.heap.size < v5.heap.size := o5_4.2.2
        have HBx := HB4.out
        have HB5 := Lib.hid (show Below w.heap.size w v5 from bl_call (by repeat (with_reducible (first | exact Below.refl _ _ | assumption | refine bl_alloc ?_ _ | refine bl_drewN ?_ _ | refine bl_drew ?_ | refine bl_call ?_ (by assumption) | (refine bl_setCell ?_ _ (Nat.le_refl _)) | (refine bl_setCell ?_ _ (by first | omega | (simp; done) | (simp; omega)))))) hb5)
        clear HBx
        clear hb5 o5_0 o5_1 o5_2 o5_3 o5_4 n4_0_0 n4_0_1 s4_0 n4_1_0 n4_1_1 s4_1 n4_2_0 n4_2_1 f4_2 s4_2 n4_3_0 n4_3_1 f4_3 s4_3 HB4
        have le_3 : w.heap.size ≤ v5.heap.size := by omega
        have ne_3_0_0 : ¬ w.heap.size = v5.heap.size := by omega
        have nf_3_0_0 : ¬ v5.heap.size = w.heap.size := by omega
        have ne_3_1_0 : ¬ w.heap.size + 1 = v5.heap.size := by omega
        have nf_3_1_0 : ¬ v5.heap.size = w.heap.size + 1 := by omega
        have ne_3_2_0 : ¬ v2.heap.size = v5.heap.size := by omega
        have nf_3_2_0 : ¬ v5.heap.size = v2.heap.size := by omega
        have ne_3_3_0 : ¬ v3.heap.size = v5.heap.size := by omega
        have nf_3_3_0 : ¬ v5.heap.size = v3.heap.size := by omega
        have ne_3_4_0 : ¬ v4.heap.size = v5.heap.size := by omega
        have nf_3_4_0 : ¬ v5.heap.size = v4.heap.size := by omega
        go_wp2
        go_ret
        have HBz := HB5.out
        exact ⟨ret_b (by first | rfl | (simp; done)), (by repeat (with_reducible (first | exact Below.refl _ _ | assumption | refine bl_alloc ?_ _ | refine bl_drewN ?_ _ | refine bl_drew ?_ | refine bl_call ?_ (by assumption) | (refine bl_setCell ?_ _ (Nat.le_refl _)) | (refine bl_setCell ?_ _ (by first | omega | (simp; done) | (simp; omega))))))⟩
    · have m2 : (pE == 0) = false := by simpa using h2
      clear h2
      go_wp2
      go_ret
      have HBz := HB4.out
      exact ⟨ret_b (by first | rfl | (simp; done)), (by repeat (with_reducible (first | exact Below.refl _ _ | assumption | refine bl_alloc ?_ _ | refine bl_drewN ?_ _ | refine bl_drew ?_ | refine bl_call ?_ (by assumption) | (refine bl_setCell ?_ _ (Nat.le_refl _)) | (refine bl_setCell ?_ _ (by first | omega | (simp; done) | (simp; omega))))))⟩
  · have m0 : (sE == 0) = false := by simpa using h1
    clear h1
    go_wp2_with fail
    refine (M1.out _).mono ?_
    rintro e v3 ⟨rfl, hb3⟩
    have o3_0 := own_stays hb3 (b := w.heap.size) (by first | assumption | (simp; done) | (simp; omega) | omega)
    have n3_0_0 : v3.cell? ⟨w.heap.size, 0, none⟩ = some (.int .i64 n) := (o3_0.1 0).trans (by go_simp)
    have n3_0_1 : v3.cell? ⟨w.heap.size, 1, none⟩ = some (.int .i64 d) := (o3_0.1 1).trans (by go_simp)
    have s3_0 : w.heap.size < v3.heap.size := o3_0.2.2
    have o3_1 := own_stays hb3 (b := w.heap.size + 1) (by first | assumption | (simp; done) | (simp; omega) | omega)
    have n3_1_0 : v3.cell? ⟨w.heap.size + 1, 0, none⟩ = some (.int .i64 m) := (o3_1.1 0).trans (by go_simp)
    have n3_1_1 : v3.cell? ⟨w.heap.size + 1, 1, none⟩ = some (.int .i64 c) := (o3_1.1 1).trans (by go_simp)
    have s3_1 : w.heap.size + 1 < v3.heap.size := o3_1.2.2
    have o3_2 := own_stays hb3 (b := v2.heap.size) (by first | assumption | (simp; done) | (simp; omega) | omega)
    have n3_2_0 : v3.cell? ⟨v2.heap.size, 0, none⟩ = some (.int .i64 sN) := (o3_2.1 0).trans (by go_simp)
    have n3_2_1 : v3.cell? ⟨v2.heap.size, 1, none⟩ = some (.int .i64 sD) := (o3_2.1 1).trans (by go_simp)
    have f3_2 : ∀ o, v3.frozen? ⟨v2.heap.size, o, none⟩ = false := fun o => (o3_2.2.1 o).trans (by go_simp)
    have s3_2 : v2.heap.size < v3.heap.size := o3_2.2.2
    have HBx := HB2.out
    have HB3 := Lib.hid (show Below w.heap.size w v3 from bl_call (by repeat (with_reducible (first | exact Below.refl _ _ | assumption | refine bl_alloc ?_ _ | refine bl_drewN ?_ _ | refine bl_drew ?_ | refine bl_call ?_ (by assumption) | (refine bl_setCell ?_ _ (Nat.le_refl _)) | (refine bl_setCell ?_ _ (by first | omega | (simp; done) | (simp; omega)))))) hb3)
    clear HBx
    clear hb3 o3_0 o3_1 o3_2 n2_0_0 n2_0_1 s2_0 n2_1_0 n2_1_1 s2_1 HB2
    have le_1 : w.heap.size ≤ v3.heap.size := by omega
    have ne_1_0_0 : ¬ w.heap.size = v3.heap.size := by omega
    have nf_1_0_0 : ¬ v3.heap.size = w.heap.size := by omega
    have ne_1_1_0 : ¬ w.heap.size + 1 = v3.heap.size := by omega
    have nf_1_1_0 : ¬ v3.heap.size = w.heap.size + 1 := by omega
    have ne_1_2_0 : ¬ v2.heap.size = v3.heap.size := by omega
    have nf_1_2_0 : ¬ v3.heap.size = v2.heap.size := by omega
    by_cases h2 : pE = 0
    · subst h2
      by_cases h3 : m = 0
      · subst h3
        go_wp2
        go_ret
        have HBz := HB3.out
        exact ⟨ret_b (by first | rfl | (simp; done)), (by repeat (with_reducible (first | exact Below.refl _ _ | assumption | refine bl_alloc ?_ _ | refine bl_drewN ?_ _ | refine bl_drew ?_ | refine bl_call ?_ (by assumption) | (refine bl_setCell ?_ _ (Nat.le_refl _)) | (refine bl_setCell ?_ _ (by first | omega | (simp; done) | (simp; omega))))))⟩
      · have m1 : (m != 0) = true := by simpa using h3
        have m2 : (m == 0) = false := by simpa using h3
        have BDD := Lib.hid (BD.out rfl h3)
        clear h3
        go_wp2_with fail
        refine (BDD.out _).mono ?_
        rintro e v4 ⟨rfl, hb4⟩
        have o4_0 := own_stays hb4 (b := w.heap.size) (by first | assumption | (simp; done) | (simp; omega) | omega)
        have n4_0_0 : v4.cell? ⟨w.heap.size, 0, none⟩ = some (.int .i64 n) := (o4_0.1 0).trans (by go_simp)
        have n4_0_1 : v4.cell? ⟨w.heap.size, 1, none⟩ = some (.int .i64 d) := (o4_0.1 1).trans (by go_simp)
        have s4_0 : w.heap.size < v4.heap.size := o4_0.2.2
        have o4_1 := own_stays hb4 (b := w.heap.size + 1) (by first | assumption | (simp; done) | (simp; omega) | omega)
        have n4_1_0 : v4.cell? ⟨w.heap.size + 1, 0, none⟩ = some (.int .i64 m) := (o4_1.1 0).trans (by go_simp)
        have n4_1_1 : v4.cell? ⟨w.heap.size + 1, 1, none⟩ = some (.int .i64 c) := (o4_1.1 1).trans (by go_simp)
        have s4_1 : w.heap.size + 1 < v4.heap.size := o4_1.2.2
        have o4_2 := own_stays hb4 (b := v2.heap.size) (by first | assumption | (simp; done) | (simp; omega) | omega)
        have n4_2_0 : v4.cell? ⟨v2.heap.size, 0, none⟩ = some (.int .i64 sN) := (o4_2.1 0).trans (by go_simp)
        have n4_2_1 : v4.cell? ⟨v2.heap.size, 1, none⟩ = some (.int .i64 sD) := (o4_2.1 1).trans (by go_simp)
        have f4_2 : ∀ o, v4.frozen? ⟨v2.heap.size, o, none⟩ = false := fun o => (o4_2.2.1 o).trans (by go_simp)
        have s4_2 : v2.heap.size < v4.heap.size := o4_2.2.2
        have o4_3 := own_stays hb4 (b := v3.heap.size) (by first | assumption | (simp; done) | (simp; omega) | omega)
        have n4_3_0 : v4.cell? ⟨v3.heap.size, 0, none⟩ = some (.int .i64 pN) := (o4_3.1 0).trans (by go_simp)
        have n4_3_1 : v4.cell? ⟨v3.heap.size, 1, none⟩ = some (.int .i64 pD) := (o4_3.1 1).trans (by go_simp)
        have f4_3 : ∀ o, v4.frozen? ⟨v3.heap.size, o, none⟩ = false := fun o => (o4_3.2.1 o).trans (by go_simp)
        have s4_3 : v3.heap.size < v4.heap.size := o4_3.2.2
        have HBx := HB3.out
        have HB4 := Lib.hid (show Below w.heap.size w v4 from bl_call (by repeat (with_reducible (first | exact Below.refl _ _ | assumption | refine bl_alloc ?_ _ | refine bl_drewN ?_ _ | refine bl_drew ?_ | refine bl_call ?_ (by assumption) | (refine bl_setCell ?_ _ (Nat.le_refl _)) | (refine bl_setCell ?_ _ (by first | omega | (simp; done) | (simp; omega)))))) hb4)
        clear HBx
        clear hb4 o4_0 o4_1 o4_2 o4_3 n3_0_0 n3_0_1 s3_0 n3_1_0 n3_1_1 s3_1 n3_2_0 n3_2_1 f3_2 s3_2 HB3
        have le_2 : w.heap.size ≤ v4.heap.size := by omega
        have ne_2_0_0 : ¬ w.heap.size = v4.heap.size := by omega
        have nf_2_0_0 : ¬ v4.heap.size = w.heap.size := by omega
        have ne_2_1_0 : ¬ w.heap.size + 1 = v4.heap.size := by omega
        have nf_2_1_0 : ¬ v4.heap.size = w.heap.size + 1 := by omega
        have ne_2_2_0 : ¬ v2.heap.size = v4.heap.size := by omega
        have nf_2_2_0 : ¬ v4.heap.size = v2.heap.size := by omega
        have ne_2_3_0 : ¬ v3.heap.size = v4.heap.size := by omega
        have nf_2_3_0 : ¬ v4.heap.size = v3.heap.size := by omega
        go_wp2
        go_ret
        have HBz := HB4.out
        exact ⟨ret_b (by first | rfl | (simp; done)), (by repeat (with_reducible (first | exact Below.refl _ _ | assumption | refine bl_alloc ?_ _ | refine bl_drewN ?_ _ | refine bl_drew ?_ | refine bl_call ?_ (by assumption) | (refine bl_setCell ?_ _ (Nat.le_refl _)) | (refine bl_setCell ?_ _ (by first | omega | (simp; done) | (simp; omega))))))⟩
    · have m2 : (pE == 0) = false := by simpa using h2
      clear h2
      go_wp2
      go_ret
      have HBz := HB3.out
      exact ⟨ret_b (by first | rfl | (simp; done)), (by repeat (with_reducible (first | exact Below.refl _ _ | assumption | refine bl_alloc ?_ _ | refine bl_drewN ?_ _ | refine bl_drew ?_ | refine bl_call ?_ (by assumption) | (refine bl_setCell ?_ _ (Nat.le_refl _)) | (refine bl_setCell ?_ _ (by first | omega | (simp; done) | (simp; omega))))))⟩
end Go.Proofs.YtkejohmghacdhaaDoor
