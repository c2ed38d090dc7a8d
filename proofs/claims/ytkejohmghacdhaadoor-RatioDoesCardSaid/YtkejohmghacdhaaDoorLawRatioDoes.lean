import Derived.Test.YtkejohmghacdhaaDoorLawRatio3
import Derived.Test.YtkejohmghacdhaaDoorRatH
import Derived.Test.YtkejohmghacdhaaDoorRatN
import Derived.Test.YtkejohmghacdhaaDoorMathS
namespace Go.Proofs.YtkejohmghacdhaaDoor
set_option linter.unusedVariables false
set_option linter.unusedSimpArgs false
open Go.RowKit
set_option maxRecDepth 100000 in
set_option maxHeartbeats 8000000 in
theorem ratioDoes_any (n d m c : Int) (w : World) (hn : In n) (hd : In d) (hm : In m) (hc : In c) (hT : Tab w) :
    Calls Tryd.prog 4 #[ratA n d, ratA m c] w fun e w' => e = .returned (.bool true) ∧ Below w.heap.size w w' := by
  have A1 := Lib.hid (fun w hT => rat_add n d m c w hn hd hm hc hT)
  have A2 := Lib.hid (fun w => r3add n d m c w hn hd hm hc)
  have S1 := Lib.hid (fun w hT => rat_sub n d m c w hn hd hm hc hT)
  have S2 := Lib.hid (fun w => r3sub n d m c w hn hd hm hc)
  have M1 := Lib.hid (fun w => rat_mul n d m c w hn hd hm hc)
  have M2 := Lib.hid (fun w => r3mul n d m c w hn hd hm hc)
  have D1 := Lib.hid (fun w => rat_div n d m c w hn hd hm hc)
  have D2 := Lib.hid (fun w => r3div n d m c w hn hd hm hc)
  have TB := Lib.hid hT
  clear hT hn hd hm hc
  generalize vN (cpB n d m c) (arN (smP false n d m c) (d * c)) = sN at *
  generalize vN (cpB n d m c) (arD (smP false n d m c) (d * c)) = sD at *
  generalize vE (cpB n d m c) (arE (smP false n d m c) (d * c)) = sE at *
  generalize vN (cpB n d m c) (arN (smP true n d m c) (d * c)) = tN at *
  generalize vN (cpB n d m c) (arD (smP true n d m c) (d * c)) = tD at *
  generalize vE (cpB n d m c) (arE (smP true n d m c) (d * c)) = tE at *
  generalize vN (cpB n d m c) (arN (n * m) (d * c)) = pN at *
  generalize vN (cpB n d m c) (arD (n * m) (d * c)) = pD at *
  generalize vE (cpB n d m c) (arE (n * m) (d * c)) = pE at *
  generalize vN (cpB n d m c) (bN n d m c) = qN at *
  generalize vN (cpB n d m c) (bD n d m c) = qD at *
  generalize vE (cpB n d m c) (bE n d m c) = qE at *
  go_enter Tryd.func4, Tryd.ntmps4
  go_wp2_with fail
  refine (live3 _).mono ?_
  rintro e v1 ⟨rfl, hb1⟩
  have o1_0 := own_stays hb1 (b := w.heap.size) (by first | assumption | (simp; done) | (simp; omega) | omega)
  have n1_0_0 : v1.cell? ⟨w.heap.size, 0, none⟩ = some (.int .i64 n) := (o1_0.1 0).trans (by go_simp)
  have n1_0_1 : v1.cell? ⟨w.heap.size, 1, none⟩ = some (.int .i64 d) := (o1_0.1 1).trans (by go_simp)
  have s1_0 : w.heap.size < v1.heap.size := o1_0.2.2
  have o1_1 := own_stays hb1 (b := w.heap.size + 1) (by first | assumption | (simp; done) | (simp; omega) | omega)
  have n1_1_0 : v1.cell? ⟨w.heap.size + 1, 0, none⟩ = some (.int .i64 m) := (o1_1.1 0).trans (by go_simp)
  have n1_1_1 : v1.cell? ⟨w.heap.size + 1, 1, none⟩ = some (.int .i64 c) := (o1_1.1 1).trans (by go_simp)
  have s1_1 : w.heap.size + 1 < v1.heap.size := o1_1.2.2
  have HB1 := Lib.hid (show Below w.heap.size w v1 from bl_call (by repeat (with_reducible (first | exact Below.refl _ _ | assumption | refine bl_alloc ?_ _ | refine bl_drewN ?_ _ | refine bl_drew ?_ | refine bl_call ?_ (by assumption) | (refine bl_setCell ?_ _ (Nat.le_refl _)) | (refine bl_setCell ?_ _ (by first | omega | (simp; done) | (simp; omega)))))) hb1)
  clear hb1 o1_0 o1_1 
  go_wp2_with fail
  refine (A1.out _ ?_).mono ?_
  · have HBz := HB1.out
    exact TB.out.go (by repeat (with_reducible (first | exact Below.refl _ _ | assumption | refine bl_alloc ?_ _ | refine bl_drewN ?_ _ | refine bl_drew ?_ | refine bl_call ?_ (by assumption) | (refine bl_setCell ?_ _ (Nat.le_refl _)) | (refine bl_setCell ?_ _ (by first | omega | (simp; done) | (simp; omega))))))
  rintro e v2 ⟨rfl, hb2⟩
  have o2_0 := own_stays hb2 (b := w.heap.size) (by first | assumption | (simp; done) | (simp; omega) | omega)
  have n2_0_0 : v2.cell? ⟨w.heap.size, 0, none⟩ = some (.int .i64 n) := (o2_0.1 0).trans (by go_simp)
  have n2_0_1 : v2.cell? ⟨w.heap.size, 1, none⟩ = some (.int .i64 d) := (o2_0.1 1).trans (by go_simp)
  have s2_0 : w.heap.size < v2.heap.size := o2_0.2.2
  have o2_1 := own_stays hb2 (b := w.heap.size + 1) (by first | assumption | (simp; done) | (simp; omega) | omega)
  have n2_1_0 : v2.cell? ⟨w.heap.size + 1, 0, none⟩ = some (.int .i64 m) := (o2_1.1 0).trans (by go_simp)
  have n2_1_1 : v2.cell? ⟨w.heap.size + 1, 1, none⟩ = some (.int .i64 c) := (o2_1.1 1).trans (by go_simp)
  have s2_1 : w.heap.size + 1 < v2.heap.size := o2_1.2.2
  have HBx := HB1.out
  have HB2 := Lib.hid (show Below w.heap.size w v2 from bl_call (by repeat (with_reducible (first | exact Below.refl _ _ | assumption | refine bl_alloc ?_ _ | refine bl_drewN ?_ _ | refine bl_drew ?_ | refine bl_call ?_ (by assumption) | (refine bl_setCell ?_ _ (Nat.le_refl _)) | (refine bl_setCell ?_ _ (by first | omega | (simp; done) | (simp; omega)))))) hb2)
  clear HBx
  clear hb2 o2_0 o2_1 n1_0_0 n1_0_1 s1_0 n1_1_0 n1_1_1 s1_1 HB1
  have le_0 : w.heap.size ≤ v2.heap.size := by omega
  have ne_0_0_0 : ¬ w.heap.size = v2.heap.size := by omega
  have nf_0_0_0 : ¬ v2.heap.size = w.heap.size := by omega
  have ne_0_1_0 : ¬ w.heap.size + 1 = v2.heap.size := by omega
  have nf_0_1_0 : ¬ v2.heap.size = w.heap.size + 1 := by omega
  go_wp2_with fail
  refine (A2.out _).mono ?_
  rintro e v3 ⟨rfl, hb3⟩
  have o3_0 := own_stays hb3 (b := w.heap.size) (by first | assumption | (simp; done) | (simp; omega) | omega)
  have n3_0_0 : v3.cell? ⟨w.heap.size, 0, none⟩ = some (.int .i64 n) := (o3_0.1 0).trans (by go_simp)
  have n3_0_1 : v3.cell? ⟨w.heap.size, 1, none⟩ = some (.int .i64 d) := (o3_0.1 1).trans (by go_simp)
  have s3_0 : w.heap.size < v3.heap.size := o3_0.2.2
  have o3_1 := own_stays hb3 (b := w.heap.size + 1) (by first | assumption | (simp; done) | (simp; omega) | omega)
  have n3_1_0 : v3.cell? ⟨w.heap.size + 1, 0, none⟩ = some (.int .i64 m) := (o3_1.1 0).trans (by go_simp)
  have n3_1_1 : v3.cell? ⟨w.heap.size + 1, 1, none⟩ = some (.int .i64 c) := (o3_1.1 1).trans (by go_simp)
  have s3_1 : w.heap.size + 1 < v3.heap.size := o3_1.2.2
  have o3_2 := own_stays hb3 (b := v2.heap.size) (by first | assumption | (simp; done) | (simp; omega) | omega)
  have n3_2_0 : v3.cell? ⟨v2.heap.size, 0, none⟩ = some (.int .i64 sN) := (o3_2.1 0).trans (by go_simp)
  have n3_2_1 : v3.cell? ⟨v2.heap.size, 1, none⟩ = some (.int .i64 sD) := (o3_2.1 1).trans (by go_simp)
  have f3_2 : ∀ o, v3.frozen? ⟨v2.heap.size, o, none⟩ = false := fun o => (o3_2.2.1 o).trans (by go_simp)
  have s3_2 : v2.heap.size < v3.heap.size := o3_2.2.2
  have HBx := HB2.out
  have HB3 := Lib.hid (show Below w.heap.size w v3 from bl_call (by repeat (with_reducible (first | exact Below.refl _ _ | assumption | refine bl_alloc ?_ _ | refine bl_drewN ?_ _ | refine bl_drew ?_ | refine bl_call ?_ (by assumption) | (refine bl_setCell ?_ _ (Nat.le_refl _)) | (refine bl_setCell ?_ _ (by first | omega | (simp; done) | (simp; omega)))))) hb3)
  clear HBx
  clear hb3 o3_0 o3_1 o3_2 n2_0_0 n2_0_1 s2_0 n2_1_0 n2_1_1 s2_1 HB2
  have le_1 : w.heap.size ≤ v3.heap.size := by omega
  have ne_1_0_0 : ¬ w.heap.size = v3.heap.size := by omega
  have nf_1_0_0 : ¬ v3.heap.size = w.heap.size := by omega
  have ne_1_1_0 : ¬ w.heap.size + 1 = v3.heap.size := by omega
  have nf_1_1_0 : ¬ v3.heap.size = w.heap.size + 1 := by omega
  have ne_1_2_0 : ¬ v2.heap.size = v3.heap.size := by omega
  have nf_1_2_0 : ¬ v3.heap.size = v2.heap.size := by omega
  go_wp2_with fail
  refine (S1.out _ ?_).mono ?_
  · have HBz := HB3.out
    exact TB.out.go (by repeat (with_reducible (first | exact Below.refl _ _ | assumption | refine bl_alloc ?_ _ | refine bl_drewN ?_ _ | refine bl_drew ?_ | refine bl_call ?_ (by assumption) | (refine bl_setCell ?_ _ (Nat.le_refl _)) | (refine bl_setCell ?_ _ (by first | omega | (simp; done) | (simp; omega))))))
  rintro e v4 ⟨rfl, hb4⟩
  have o4_0 := own_stays hb4 (b := w.heap.size) (by first | assumption | (simp; done) | (simp; omega) | omega)
  have n4_0_0 : v4.cell? ⟨w.heap.size, 0, none⟩ = some (.int .i64 n) := (o4_0.1 0).trans (by go_simp)
  have n4_0_1 : v4.cell? ⟨w.heap.size, 1, none⟩ = some (.int .i64 d) := (o4_0.1 1).trans (by go_simp)
  have s4_0 : w.heap.size < v4.heap.size := o4_0.2.2
  have o4_1 := own_stays hb4 (b := w.heap.size + 1) (by first | assumption | (simp; done) | (simp; omega) | omega)
  have n4_1_0 : v4.cell? ⟨w.heap.size + 1, 0, none⟩ = some (.int .i64 m) := (o4_1.1 0).trans (by go_simp)
  have n4_1_1 : v4.cell? ⟨w.heap.size + 1, 1, none⟩ = some (.int .i64 c) := (o4_1.1 1).trans (by go_simp)
  have s4_1 : w.heap.size + 1 < v4.heap.size := o4_1.2.2
  have o4_2 := own_stays hb4 (b := v2.heap.size) (by first | assumption | (simp; done) | (simp; omega) | omega)
  have n4_2_0 : v4.cell? ⟨v2.heap.size, 0, none⟩ = some (.int .i64 sN) := (o4_2.1 0).trans (by go_simp)
  have n4_2_1 : v4.cell? ⟨v2.heap.size, 1, none⟩ = some (.int .i64 sD) := (o4_2.1 1).trans (by go_simp)
  have f4_2 : ∀ o, v4.frozen? ⟨v2.heap.size, o, none⟩ = false := fun o => (o4_2.2.1 o).trans (by go_simp)
  have s4_2 : v2.heap.size < v4.heap.size := o4_2.2.2
  have o4_3 := own_stays hb4 (b := v3.heap.size) (by first | assumption | (simp; done) | (simp; omega) | omega)
  have n4_3_0 : v4.cell? ⟨v3.heap.size, 0, none⟩ = some (.int .i64 sN) := (o4_3.1 0).trans (by go_simp)
  have n4_3_1 : v4.cell? ⟨v3.heap.size, 1, none⟩ = some (.int .i64 sD) := (o4_3.1 1).trans (by go_simp)
  have f4_3 : ∀ o, v4.frozen? ⟨v3.heap.size, o, none⟩ = false := fun o => (o4_3.2.1 o).trans (by go_simp)
  have s4_3 : v3.heap.size < v4.heap.size := o4_3.2.2
  have HBx := HB3.out
  have HB4 := Lib.hid (show Below w.heap.size w v4 from bl_call (by repeat (with_reducible (first | exact Below.refl _ _ | assumption | refine bl_alloc ?_ _ | refine bl_drewN ?_ _ | refine bl_drew ?_ | refine bl_call ?_ (by assumption) | (refine bl_setCell ?_ _ (Nat.le_refl _)) | (refine bl_setCell ?_ _ (by first | omega | (simp; done) | (simp; omega)))))) hb4)
  clear HBx
  clear hb4 o4_0 o4_1 o4_2 o4_3 n3_0_0 n3_0_1 s3_0 n3_1_0 n3_1_1 s3_1 n3_2_0 n3_2_1 f3_2 s3_2 HB3
  go_wp2_with fail
  refine (S2.out _).mono ?_
  rintro e v5 ⟨rfl, hb5⟩
  have o5_0 := own_stays hb5 (b := w.heap.size) (by first | assumption | (simp; done) | (simp; omega) | omega)
  have n5_0_0 : v5.cell? ⟨w.heap.size, 0, none⟩ = some (.int .i64 n) := (o5_0.1 0).trans (by go_simp)
  have n5_0_1 : v5.cell? ⟨w.heap.size, 1, none⟩ = some (.int .i64 d) := (o5_0.1 1).trans (by go_simp)
  have s5_0 : w.heap.size < v5.heap.size := o5_0.2.2
  have o5_1 := own_stays hb5 (b := w.heap.size + 1) (by first | assumption | (simp; done) | (simp; omega) | omega)
  have n5_1_0 : v5.cell? ⟨w.heap.size + 1, 0, none⟩ = some (.int .i64 m) := (o5_1.1 0).trans (by go_simp)
  have n5_1_1 : v5.cell? ⟨w.heap.size + 1, 1, none⟩ = some (.int .i64 c) := (o5_1.1 1).trans (by go_simp)
  have s5_1 : w.heap.size + 1 < v5.heap.size := o5_1.2.2
  have o5_2 := own_stays hb5 (b := v2.heap.size) (by first | assumption | (simp; done) | (simp; omega) | omega)
  have n5_2_0 : v5.cell? ⟨v2.heap.size, 0, none⟩ = some (.int .i64 tN) := (o5_2.1 0).trans (by go_simp)
  have n5_2_1 : v5.cell? ⟨v2.heap.size, 1, none⟩ = some (.int .i64 tD) := (o5_2.1 1).trans (by go_simp)
  have f5_2 : ∀ o, v5.frozen? ⟨v2.heap.size, o, none⟩ = false := fun o => (o5_2.2.1 o).trans (by go_simp)
  have s5_2 : v2.heap.size < v5.heap.size := o5_2.2.2
  have o5_3 := own_stays hb5 (b := v3.heap.size) (by first | assumption | (simp; done) | (simp; omega) | omega)
  have n5_3_0 : v5.cell? ⟨v3.heap.size, 0, none⟩ = some (.int .i64 sN) := (o5_3.1 0).trans (by go_simp)
  have n5_3_1 : v5.cell? ⟨v3.heap.size, 1, none⟩ = some (.int .i64 sD) := (o5_3.1 1).trans (by go_simp)
  have f5_3 : ∀ o, v5.frozen? ⟨v3.heap.size, o, none⟩ = false := fun o => (o5_3.2.1 o).trans (by go_simp)
  have s5_3 : v3.heap.size < v5.heap.size := o5_3.2.2
  have HBx := HB4.out
  have HB5 := Lib.hid (show Below w.heap.size w v5 from bl_call (by repeat (with_reducible (first | exact Below.refl _ _ | assumption | refine bl_alloc ?_ _ | refine bl_drewN ?_ _ | refine bl_drew ?_ | refine bl_call ?_ (by assumption) | (refine bl_setCell ?_ _ (Nat.le_refl _)) | (refine bl_setCell ?_ _ (by first | omega | (simp; done) | (simp; omega)))))) hb5)
  clear HBx
  clear hb5 o5_0 o5_1 o5_2 o5_3 n4_0_0 n4_0_1 s4_0 n4_1_0 n4_1_1 s4_1 n4_2_0 n4_2_1 f4_2 s4_2 n4_3_0 n4_3_1 f4_3 s4_3 HB4
  go_wp2_with fail
  refine (M1.out _).mono ?_
  rintro e v6 ⟨rfl, hb6⟩
  have o6_0 := own_stays hb6 (b := w.heap.size) (by first | assumption | (simp; done) | (simp; omega) | omega)
  have n6_0_0 : v6.cell? ⟨w.heap.size, 0, none⟩ = some (.int .i64 n) := (o6_0.1 0).trans (by go_simp)
  have n6_0_1 : v6.cell? ⟨w.heap.size, 1, none⟩ = some (.int .i64 d) := (o6_0.1 1).trans (by go_simp)
  have s6_0 : w.heap.size < v6.heap.size := o6_0.2.2
  have o6_1 := own_stays hb6 (b := w.heap.size + 1) (by first | assumption | (simp; done) | (simp; omega) | omega)
  have n6_1_0 : v6.cell? ⟨w.heap.size + 1, 0, none⟩ = some (.int .i64 m) := (o6_1.1 0).trans (by go_simp)
  have n6_1_1 : v6.cell? ⟨w.heap.size + 1, 1, none⟩ = some (.int .i64 c) := (o6_1.1 1).trans (by go_simp)
  have s6_1 : w.heap.size + 1 < v6.heap.size := o6_1.2.2
  have o6_2 := own_stays hb6 (b := v2.heap.size) (by first | assumption | (simp; done) | (simp; omega) | omega)
  have n6_2_0 : v6.cell? ⟨v2.heap.size, 0, none⟩ = some (.int .i64 tN) := (o6_2.1 0).trans (by go_simp)
  have n6_2_1 : v6.cell? ⟨v2.heap.size, 1, none⟩ = some (.int .i64 tD) := (o6_2.1 1).trans (by go_simp)
  have f6_2 : ∀ o, v6.frozen? ⟨v2.heap.size, o, none⟩ = false := fun o => (o6_2.2.1 o).trans (by go_simp)
  have s6_2 : v2.heap.size < v6.heap.size := o6_2.2.2
  have o6_3 := own_stays hb6 (b := v3.heap.size) (by first | assumption | (simp; done) | (simp; omega) | omega)
  have n6_3_0 : v6.cell? ⟨v3.heap.size, 0, none⟩ = some (.int .i64 tN) := (o6_3.1 0).trans (by go_simp)
  have n6_3_1 : v6.cell? ⟨v3.heap.size, 1, none⟩ = some (.int .i64 tD) := (o6_3.1 1).trans (by go_simp)
  have f6_3 : ∀ o, v6.frozen? ⟨v3.heap.size, o, none⟩ = false := fun o => (o6_3.2.1 o).trans (by go_simp)
  have s6_3 : v3.heap.size < v6.heap.size := o6_3.2.2
  have HBx := HB5.out
  have HB6 := Lib.hid (show Below w.heap.size w v6 from bl_call (by repeat (with_reducible (first | exact Below.refl _ _ | assumption | refine bl_alloc ?_ _ | refine bl_drewN ?_ _ | refine bl_drew ?_ | refine bl_call ?_ (by assumption) | (refine bl_setCell ?_ _ (Nat.le_refl _)) | (refine bl_setCell ?_ _ (by first | omega | (simp; done) | (simp; omega)))))) hb6)
  clear HBx
  clear hb6 o6_0 o6_1 o6_2 o6_3 n5_0_0 n5_0_1 s5_0 n5_1_0 n5_1_1 s5_1 n5_2_0 n5_2_1 f5_2 s5_2 n5_3_0 n5_3_1 f5_3 s5_3 HB5
  go_wp2_with fail
  refine (M2.out _).mono ?_
  rintro e v7 ⟨rfl, hb7⟩
  have o7_0 := own_stays hb7 (b := w.heap.size) (by first | assumption | (simp; done) | (simp; omega) | omega)
  have n7_0_0 : v7.cell? ⟨w.heap.size, 0, none⟩ = some (.int .i64 n) := (o7_0.1 0).trans (by go_simp)
  have n7_0_1 : v7.cell? ⟨w.heap.size, 1, none⟩ = some (.int .i64 d) := (o7_0.1 1).trans (by go_simp)
  have s7_0 : w.heap.size < v7.heap.size := o7_0.2.2
  have o7_1 := own_stays hb7 (b := w.heap.size + 1) (by first | assumption | (simp; done) | (simp; omega) | omega)
  have n7_1_0 : v7.cell? ⟨w.heap.size + 1, 0, none⟩ = some (.int .i64 m) := (o7_1.1 0).trans (by go_simp)
  have n7_1_1 : v7.cell? ⟨w.heap.size + 1, 1, none⟩ = some (.int .i64 c) := (o7_1.1 1).trans (by go_simp)
  have s7_1 : w.heap.size + 1 < v7.heap.size := o7_1.2.2
  have o7_2 := own_stays hb7 (b := v2.heap.size) (by first | assumption | (simp; done) | (simp; omega) | omega)
  have n7_2_0 : v7.cell? ⟨v2.heap.size, 0, none⟩ = some (.int .i64 pN) := (o7_2.1 0).trans (by go_simp)
  have n7_2_1 : v7.cell? ⟨v2.heap.size, 1, none⟩ = some (.int .i64 pD) := (o7_2.1 1).trans (by go_simp)
  have f7_2 : ∀ o, v7.frozen? ⟨v2.heap.size, o, none⟩ = false := fun o => (o7_2.2.1 o).trans (by go_simp)
  have s7_2 : v2.heap.size < v7.heap.size := o7_2.2.2
  have o7_3 := own_stays hb7 (b := v3.heap.size) (by first | assumption | (simp; done) | (simp; omega) | omega)
  have n7_3_0 : v7.cell? ⟨v3.heap.size, 0, none⟩ = some (.int .i64 tN) := (o7_3.1 0).trans (by go_simp)
  have n7_3_1 : v7.cell? ⟨v3.heap.size, 1, none⟩ = some (.int .i64 tD) := (o7_3.1 1).trans (by go_simp)
  have f7_3 : ∀ o, v7.frozen? ⟨v3.heap.size, o, none⟩ = false := fun o => (o7_3.2.1 o).trans (by go_simp)
  have s7_3 : v3.heap.size < v7.heap.size := o7_3.2.2
  have HBx := HB6.out
  have HB7 := Lib.hid (show Below w.heap.size w v7 from bl_call (by repeat (with_reducible (first | exact Below.refl _ _ | assumption | refine bl_alloc ?_ _ | refine bl_drewN ?_ _ | refine bl_drew ?_ | refine bl_call ?_ (by assumption) | (refine bl_setCell ?_ _ (Nat.le_refl _)) | (refine bl_setCell ?_ _ (by first | omega | (simp; done) | (simp; omega)))))) hb7)
  clear HBx
  clear hb7 o7_0 o7_1 o7_2 o7_3 n6_0_0 n6_0_1 s6_0 n6_1_0 n6_1_1 s6_1 n6_2_0 n6_2_1 f6_2 s6_2 n6_3_0 n6_3_1 f6_3 s6_3 HB6
  go_wp2_with fail
  refine (D1.out _).mono ?_
  rintro e v8 ⟨rfl, hb8⟩
  have o8_0 := own_stays hb8 (b := w.heap.size) (by first | assumption | (simp; done) | (simp; omega) | omega)
  have n8_0_0 : v8.cell? ⟨w.heap.size, 0, none⟩ = some (.int .i64 n) := (o8_0.1 0).trans (by go_simp)
  have n8_0_1 : v8.cell? ⟨w.heap.size, 1, none⟩ = some (.int .i64 d) := (o8_0.1 1).trans (by go_simp)
  have s8_0 : w.heap.size < v8.heap.size := o8_0.2.2
  have o8_1 := own_stays hb8 (b := w.heap.size + 1) (by first | assumption | (simp; done) | (simp; omega) | omega)
  have n8_1_0 : v8.cell? ⟨w.heap.size + 1, 0, none⟩ = some (.int .i64 m) := (o8_1.1 0).trans (by go_simp)
  have n8_1_1 : v8.cell? ⟨w.heap.size + 1, 1, none⟩ = some (.int .i64 c) := (o8_1.1 1).trans (by go_simp)
  have s8_1 : w.heap.size + 1 < v8.heap.size := o8_1.2.2
  have o8_2 := own_stays hb8 (b := v2.heap.size) (by first | assumption | (simp; done) | (simp; omega) | omega)
  have n8_2_0 : v8.cell? ⟨v2.heap.size, 0, none⟩ = some (.int .i64 pN) := (o8_2.1 0).trans (by go_simp)
  have n8_2_1 : v8.cell? ⟨v2.heap.size, 1, none⟩ = some (.int .i64 pD) := (o8_2.1 1).trans (by go_simp)
  have f8_2 : ∀ o, v8.frozen? ⟨v2.heap.size, o, none⟩ = false := fun o => (o8_2.2.1 o).trans (by go_simp)
  have s8_2 : v2.heap.size < v8.heap.size := o8_2.2.2
  have o8_3 := own_stays hb8 (b := v3.heap.size) (by first | assumption | (simp; done) | (simp; omega) | omega)
  have n8_3_0 : v8.cell? ⟨v3.heap.size, 0, none⟩ = some (.int .i64 pN) := (o8_3.1 0).trans (by go_simp)
  have n8_3_1 : v8.cell? ⟨v3.heap.size, 1, none⟩ = some (.int .i64 pD) := (o8_3.1 1).trans (by go_simp)
  have f8_3 : ∀ o, v8.frozen? ⟨v3.heap.size, o, none⟩ = false := fun o => (o8_3.2.1 o).trans (by go_simp)
  have s8_3 : v3.heap.size < v8.heap.size := o8_3.2.2
  have HBx := HB7.out
  have HB8 := Lib.hid (show Below w.heap.size w v8 from bl_call (by repeat (with_reducible (first | exact Below.refl _ _ | assumption | refine bl_alloc ?_ _ | refine bl_drewN ?_ _ | refine bl_drew ?_ | refine bl_call ?_ (by assumption) | (refine bl_setCell ?_ _ (Nat.le_refl _)) | (refine bl_setCell ?_ _ (by first | omega | (simp; done) | (simp; omega)))))) hb8)
  clear HBx
  clear hb8 o8_0 o8_1 o8_2 o8_3 n7_0_0 n7_0_1 s7_0 n7_1_0 n7_1_1 s7_1 n7_2_0 n7_2_1 f7_2 s7_2 n7_3_0 n7_3_1 f7_3 s7_3 HB7
  go_wp2_with fail
  refine (D2.out _).mono ?_
  rintro e v9 ⟨rfl, hb9⟩
  have o9_0 := own_stays hb9 (b := w.heap.size) (by first | assumption | (simp; done) | (simp; omega) | omega)
  have n9_0_0 : v9.cell? ⟨w.heap.size, 0, none⟩ = some (.int .i64 n) := (o9_0.1 0).trans (by go_simp)
  have n9_0_1 : v9.cell? ⟨w.heap.size, 1, none⟩ = some (.int .i64 d) := (o9_0.1 1).trans (by go_simp)
  have s9_0 : w.heap.size < v9.heap.size := o9_0.2.2
  have o9_1 := own_stays hb9 (b := w.heap.size + 1) (by first | assumption | (simp; done) | (simp; omega) | omega)
  have n9_1_0 : v9.cell? ⟨w.heap.size + 1, 0, none⟩ = some (.int .i64 m) := (o9_1.1 0).trans (by go_simp)
  have n9_1_1 : v9.cell? ⟨w.heap.size + 1, 1, none⟩ = some (.int .i64 c) := (o9_1.1 1).trans (by go_simp)
  have s9_1 : w.heap.size + 1 < v9.heap.size := o9_1.2.2
  have o9_2 := own_stays hb9 (b := v2.heap.size) (by first | assumption | (simp; done) | (simp; omega) | omega)
  have n9_2_0 : v9.cell? ⟨v2.heap.size, 0, none⟩ = some (.int .i64 qN) := (o9_2.1 0).trans (by go_simp)
  have n9_2_1 : v9.cell? ⟨v2.heap.size, 1, none⟩ = some (.int .i64 qD) := (o9_2.1 1).trans (by go_simp)
  have f9_2 : ∀ o, v9.frozen? ⟨v2.heap.size, o, none⟩ = false := fun o => (o9_2.2.1 o).trans (by go_simp)
  have s9_2 : v2.heap.size < v9.heap.size := o9_2.2.2
  have o9_3 := own_stays hb9 (b := v3.heap.size) (by first | assumption | (simp; done) | (simp; omega) | omega)
  have n9_3_0 : v9.cell? ⟨v3.heap.size, 0, none⟩ = some (.int .i64 pN) := (o9_3.1 0).trans (by go_simp)
  have n9_3_1 : v9.cell? ⟨v3.heap.size, 1, none⟩ = some (.int .i64 pD) := (o9_3.1 1).trans (by go_simp)
  have f9_3 : ∀ o, v9.frozen? ⟨v3.heap.size, o, none⟩ = false := fun o => (o9_3.2.1 o).trans (by go_simp)
  have s9_3 : v3.heap.size < v9.heap.size := o9_3.2.2
  have HBx := HB8.out
  have HB9 := Lib.hid (show Below w.heap.size w v9 from bl_call (by repeat (with_reducible (first | exact Below.refl _ _ | assumption | refine bl_alloc ?_ _ | refine bl_drewN ?_ _ | refine bl_drew ?_ | refine bl_call ?_ (by assumption) | (refine bl_setCell ?_ _ (Nat.le_refl _)) | (refine bl_setCell ?_ _ (by first | omega | (simp; done) | (simp; omega)))))) hb9)
  clear HBx
  clear hb9 o9_0 o9_1 o9_2 o9_3 n8_0_0 n8_0_1 s8_0 n8_1_0 n8_1_1 s8_1 n8_2_0 n8_2_1 f8_2 s8_2 n8_3_0 n8_3_1 f8_3 s8_3 HB8
  go_wp2
  go_ret
  have HBz := HB9.out
  exact ⟨ret_b (by first | rfl | (simp; done)), (by repeat (with_reducible (first | exact Below.refl _ _ | assumption | refine bl_alloc ?_ _ | refine bl_drewN ?_ _ | refine bl_drew ?_ | refine bl_call ?_ (by assumption) | (refine bl_setCell ?_ _ (Nat.le_refl _)) | (refine bl_setCell ?_ _ (by first | omega | (simp; done) | (simp; omega))))))⟩
end Go.Proofs.YtkejohmghacdhaaDoor
