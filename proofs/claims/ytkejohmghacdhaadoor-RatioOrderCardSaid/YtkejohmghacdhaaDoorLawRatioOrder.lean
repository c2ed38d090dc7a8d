import Derived.Test.YtkejohmghacdhaaDoorLawRatio3
import Derived.Test.YtkejohmghacdhaaDoorRatH
import Derived.Test.YtkejohmghacdhaaDoorMathS
namespace Go.Proofs.YtkejohmghacdhaaDoor
set_option linter.unusedVariables false
set_option linter.unusedSimpArgs false
open Go.RowKit
theorem add_comm' (n d m c : Int) (w : World) (hn : In n) (hd : In d) (hm : In m) (hc : In c) (hT : Tab w) :
    Calls Tryd.prog 9 #[ratA m c, ratA n d] w fun e w' => e = .returned (.tuple #[ratA (vN (cpB n d m c) (arN (smP false n d m c) (d * c))) (vN (cpB n d m c) (arD (smP false n d m c) (d * c))), .int .i64 (vE (cpB n d m c) (arE (smP false n d m c) (d * c)))]) ∧ Below w.heap.size w w' := by
  have := rat_add m c n d w hm hc hn hd hT
  rw [cpB_comm n d m c, smP_comm n d m c, Int.mul_comm c d] at this
  exact this
theorem mul_comm' (n d m c : Int) (w : World) (hn : In n) (hd : In d) (hm : In m) (hc : In c) :
    Calls Tryd.prog 10 #[ratA m c, ratA n d] w fun e w' => e = .returned (.tuple #[ratA (vN (cpB n d m c) (arN (n * m) (d * c))) (vN (cpB n d m c) (arD (n * m) (d * c))), .int .i64 (vE (cpB n d m c) (arE (n * m) (d * c)))]) ∧ Below w.heap.size w w' := by
  have := rat_mul m c n d w hm hc hn hd
  rw [cpB_comm n d m c, Int.mul_comm m n, Int.mul_comm c d] at this
  exact this
theorem op_ck {n d m c p : Int} (h : vE (cpB n d m c) (arE p (d * c)) = 0) : ckB n d = true ∧ ckB m c = true ∧ 0 < d ∧ 0 < c ∧ ∃ g : Int, 0 < g ∧ In (vN (cpB n d m c) (arN p (d * c))) ∧ In (vN (cpB n d m c) (arD p (d * c))) ∧ p = vN (cpB n d m c) (arN p (d * c)) * g ∧ d * c = vN (cpB n d m c) (arD p (d * c)) * g ∧ ckB (vN (cpB n d m c) (arN p (d * c))) (vN (cpB n d m c) (arD p (d * c))) = true := by
  obtain ⟨k1, k2⟩ := cpB_true.1 (vE_zero h).1
  have d1 := (ck_true k1).1
  have c1 := (ck_true k2).1
  exact ⟨k1, k2, by omega, by omega, op_right (Int.mul_pos (show 0 < d by omega) (show 0 < c by omega)) h⟩
theorem add_two {n d m c k f : Int} (hn : In n) (hd : In d) (hm : In m) (hc : In c) (hk : In k) (hf : In f) (h : vE (cpB n d m c) (arE (smP false n d m c) (d * c)) = 0) (h' : vE (cpB m c k f) (arE (smP false m c k f) (c * f)) = 0) : ∃ xN xD xE : Int,
    (∀ w, Tab w → Calls Tryd.prog 9 #[ratA (vN (cpB n d m c) (arN (smP false n d m c) (d * c))) (vN (cpB n d m c) (arD (smP false n d m c) (d * c))), ratA k f] w fun e w' => e = .returned (.tuple #[ratA xN xD, .int .i64 xE]) ∧ Below w.heap.size w w') ∧
    (∀ w, Tab w → Calls Tryd.prog 9 #[ratA n d, ratA (vN (cpB m c k f) (arN (smP false m c k f) (c * f))) (vN (cpB m c k f) (arD (smP false m c k f) (c * f)))] w fun e w' => e = .returned (.tuple #[ratA xN xD, .int .i64 xE]) ∧ Below w.heap.size w w') := by
  obtain ⟨k1, k2, d0, c0, g, g0, i1, i2, e1, e2, k3⟩ := op_ck h
  obtain ⟨_, k4, _, f0, g', g0', j1, j2, e3, e4, k5⟩ := op_ck h'
  obtain ⟨a1, a2, a3⟩ := add_add g0 g0' e1 e2 e3 e4
  have S := fun w hT => rat_add _ _ k f w i1 i2 hk hf hT
  have T := fun w hT => rat_add n d _ _ w hn hd j1 j2 hT
  rw [cpB_true.2 ⟨k3, k4⟩, vN_yes (arN (smP false _ _ k f) _), vN_yes (arD (smP false _ _ k f) _), vE_yes] at S
  rw [cpB_true.2 ⟨k1, k5⟩, vN_yes (arN (smP false n d _ _) _), vN_yes (arD (smP false n d _ _) _), vE_yes, ← a1, ← a2, ← a3] at T
  exact ⟨_, _, _, S, T⟩
theorem mul_two {n d m c k f : Int} (hn : In n) (hd : In d) (hm : In m) (hc : In c) (hk : In k) (hf : In f) (hp : vE (cpB n d m c) (arE (n * m) (d * c)) = 0) (hv : vE (cpB n d k f) (arE (n * k) (d * f)) = 0) (hu : vE (cpB m c k f) (arE (smP false m c k f) (c * f)) = 0) : ∃ xN xD xE : Int,
    (∀ w, Calls Tryd.prog 10 #[ratA n d, ratA (vN (cpB m c k f) (arN (smP false m c k f) (c * f))) (vN (cpB m c k f) (arD (smP false m c k f) (c * f)))] w fun e w' => e = .returned (.tuple #[ratA xN xD, .int .i64 xE]) ∧ Below w.heap.size w w') ∧
    (∀ w, Tab w → Calls Tryd.prog 9 #[ratA (vN (cpB n d m c) (arN (n * m) (d * c))) (vN (cpB n d m c) (arD (n * m) (d * c))), ratA (vN (cpB n d k f) (arN (n * k) (d * f))) (vN (cpB n d k f) (arD (n * k) (d * f)))] w fun e w' => e = .returned (.tuple #[ratA xN xD, .int .i64 xE]) ∧ Below w.heap.size w w') := by
  obtain ⟨k1, _, d0, c0, g, g0, i1, i2, e1, e2, k3⟩ := op_ck hp
  obtain ⟨_, _, _, f0, g', g0', j1, j2, e3, e4, k5⟩ := op_ck hv
  obtain ⟨_, _, _, _, g'', g0'', l1, l2, e5, e6, k6⟩ := op_ck hu
  obtain ⟨a1, a2, a3⟩ := mul_add d0 g0 g0' g0'' e1 e2 e3 e4 e5 e6
  have S := fun w => rat_mul n d _ _ w hn hd l1 l2
  have T := fun w hT => rat_add _ _ _ _ w i1 i2 j1 j2 hT
  rw [cpB_true.2 ⟨k1, k6⟩, vN_yes (arN (n * _) _), vN_yes (arD (n * _) _), vE_yes] at S
  rw [cpB_true.2 ⟨k3, k5⟩, vN_yes (arN (smP false _ _ _ _) _), vN_yes (arD (smP false _ _ _ _) _), vE_yes, ← a1, ← a2, ← a3] at T
  exact ⟨_, _, _, S, T⟩
set_option maxRecDepth 100000 in
set_option maxHeartbeats 16000000 in
theorem ratioOrder_any (n d m c k f : Int) (w : World) (hn : In n) (hd : In d) (hm : In m) (hc : In c) (hk : In k) (hf : In f) (hT : Tab w) :
    Calls Tryd.prog 3 #[ratA n d, ratA m c, ratA k f] w fun e w' => e = .returned (.bool true) ∧ Below w.heap.size w w' := by
  have A1 := Lib.hid (fun w hT => rat_add n d m c w hn hd hm hc hT)
  have A2 := Lib.hid (fun w hT => add_comm' n d m c w hn hd hm hc hT)
  have M1 := Lib.hid (fun w => rat_mul n d m c w hn hd hm hc)
  have M2 := Lib.hid (fun w => mul_comm' n d m c w hn hd hm hc)
  have A3 := Lib.hid (fun w hT => rat_add m c k f w hm hc hk hf hT)
  have M3 := Lib.hid (fun w => rat_mul n d k f w hn hd hk hf)
  have AA := Lib.hid (fun h h' => add_two hn hd hm hc hk hf h h')
  have MM := Lib.hid (fun h h' h'' => mul_two hn hd hm hc hk hf h h' h'')
  have TB := Lib.hid hT
  clear hT hn hd hm hc hk hf
  generalize vN (cpB n d m c) (arN (smP false n d m c) (d * c)) = sN at *
  generalize vN (cpB n d m c) (arD (smP false n d m c) (d * c)) = sD at *
  generalize vE (cpB n d m c) (arE (smP false n d m c) (d * c)) = sE at *
  generalize vN (cpB n d m c) (arN (n * m) (d * c)) = pN at *
  generalize vN (cpB n d m c) (arD (n * m) (d * c)) = pD at *
  generalize vE (cpB n d m c) (arE (n * m) (d * c)) = pE at *
  generalize vN (cpB m c k f) (arN (smP false m c k f) (c * f)) = uN at *
  generalize vN (cpB m c k f) (arD (smP false m c k f) (c * f)) = uD at *
  generalize vE (cpB m c k f) (arE (smP false m c k f) (c * f)) = uE at *
  generalize vN (cpB n d k f) (arN (n * k) (d * f)) = yN at *
  generalize vN (cpB n d k f) (arD (n * k) (d * f)) = yD at *
  generalize vE (cpB n d k f) (arE (n * k) (d * f)) = yE at *
  go_enter Tryd.func3, Tryd.ntmps3
  go_wp2_with fail
  refine (live3 _).mono ?_
  rintro e v1 ⟨rfl, hb1⟩
  have o1_0 := own_stays hb1 (b := w.heap.size) (by first | assumption | (simp; done) | (simp; omega) | omega)
  have n1_0_0 : v1.cell? ⟨w.heap.size, 0, none⟩ = some (.int .i64 n) := (o1_0.1 0).trans (by go_simp)
  have n1_0_1 : v1.cell? ⟨w.heap.size, 1, none⟩ = some (.int .i64 d) := (o1_0.1 1).trans (by go_simp)
  have s1_0 : w.heap.size < v1.heap.size := o1_0.2.2
  have o1_1 := own_stays hb1 (b := w.heap.size + 1) (by first | assumption | (simp; done) | (simp; omega) | omega)
  have n1_1_0 : v1.cell? ⟨w.heap.size + 1, 0, none⟩ = some (.int .i64 m) := (o1_1.1 0).trans (by go_simp)
  have n1_1_1 : v1.cell? ⟨w.heap.size + 1, 1, none⟩ = some (.int .i64 c) := (o1_1.1 1).trans (by go_simp)
  have s1_1 : w.heap.size + 1 < v1.heap.size := o1_1.2.2
  have o1_2 := own_stays hb1 (b := w.heap.size + 2) (by first | assumption | (simp; done) | (simp; omega) | omega)
  have n1_2_0 : v1.cell? ⟨w.heap.size + 2, 0, none⟩ = some (.int .i64 k) := (o1_2.1 0).trans (by go_simp)
  have n1_2_1 : v1.cell? ⟨w.heap.size + 2, 1, none⟩ = some (.int .i64 f) := (o1_2.1 1).trans (by go_simp)
  have s1_2 : w.heap.size + 2 < v1.heap.size := o1_2.2.2
  have HB1 := Lib.hid (show Below w.heap.size w v1 from bl_call (by repeat (with_reducible (first | exact Below.refl _ _ | assumption | refine bl_alloc ?_ _ | refine bl_drewN ?_ _ | refine bl_drew ?_ | refine bl_call ?_ (by assumption) | (refine bl_setCell ?_ _ (Nat.le_refl _)) | (refine bl_setCell ?_ _ (by first | omega | (simp; done) | (simp; omega)))))) hb1)
  clear hb1 o1_0 o1_1 o1_2 
  go_wp2_with fail
  refine (A1.out _ ?_).mono ?_
  · have HBz := HB1.out
    exact TB.out.go (by repeat (with_reducible (first | exact Below.refl _ _ | assumption | refine bl_alloc ?_ _ | refine bl_drewN ?_ _ | refine bl_drew ?_ | refine bl_call ?_ (by assumption) | (refine bl_setCell ?_ _ (Nat.le_refl _)) | (refine bl_setCell ?_ _ (by first | omega | (simp; done) | (simp; omega))))))
  rintro e v2 ⟨rfl, hb2⟩
  have o2_0 := own_stays hb2 (b := w.heap.size) (by first | assumption | (simp; done) | (simp; omega) | omega)
  have n2_0_0 : v2.cell? ⟨w.heap.size, 0, none⟩ = some (.int .i64 n) := (o2_0.1 0).trans (by go_simp)
  have n2_0_1 : v2.cell? ⟨w.heap.size, 1, none⟩ = some (.int .i64 d) := (o2_0.1 1).trans (by go_simp)
  have s2_0 : w.heap.size < v2.heap.size := o2_0.2.2
  have o2_1 := own_stays hb2 (b := w.heap.size + 1) (by first | assumption | (simp; done) | (simp; omega) | omega)
  have n2_1_0 : v2.cell? ⟨w.heap.size + 1, 0, none⟩ = some (.int .i64 m) := (o2_1.1 0).trans (by go_simp)
  have n2_1_1 : v2.cell? ⟨w.heap.size + 1, 1, none⟩ = some (.int .i64 c) := (o2_1.1 1).trans (by go_simp)
  have s2_1 : w.heap.size + 1 < v2.heap.size := o2_1.2.2
  have o2_2 := own_stays hb2 (b := w.heap.size + 2) (by first | assumption | (simp; done) | (simp; omega) | omega)
  have n2_2_0 : v2.cell? ⟨w.heap.size + 2, 0, none⟩ = some (.int .i64 k) := (o2_2.1 0).trans (by go_simp)
  have n2_2_1 : v2.cell? ⟨w.heap.size + 2, 1, none⟩ = some (.int .i64 f) := (o2_2.1 1).trans (by go_simp)
  have s2_2 : w.heap.size + 2 < v2.heap.size := o2_2.2.2
  have HBx := HB1.out
  have HB2 := Lib.hid (show Below w.heap.size w v2 from bl_call (by repeat (with_reducible (first | exact Below.refl _ _ | assumption | refine bl_alloc ?_ _ | refine bl_drewN ?_ _ | refine bl_drew ?_ | refine bl_call ?_ (by assumption) | (refine bl_setCell ?_ _ (Nat.le_refl _)) | (refine bl_setCell ?_ _ (by first | omega | (simp; done) | (simp; omega)))))) hb2)
  clear HBx
  clear hb2 o2_0 o2_1 o2_2 n1_0_0 n1_0_1 s1_0 n1_1_0 n1_1_1 s1_1 n1_2_0 n1_2_1 s1_2 HB1
  have le_0 : w.heap.size ≤ v2.heap.size := by omega
  have ne_0_0_0 : ¬ w.heap.size = v2.heap.size := by omega
  have nf_0_0_0 : ¬ v2.heap.size = w.heap.size := by omega
  have ne_0_1_0 : ¬ w.heap.size + 1 = v2.heap.size := by omega
  have nf_0_1_0 : ¬ v2.heap.size = w.heap.size + 1 := by omega
  have ne_0_2_0 : ¬ w.heap.size + 2 = v2.heap.size := by omega
  have nf_0_2_0 : ¬ v2.heap.size = w.heap.size + 2 := by omega
  have ne_0_2_1 : ¬ w.heap.size + 1 + 1 = v2.heap.size := by omega
  have nf_0_2_1 : ¬ v2.heap.size = w.heap.size + 1 + 1 := by omega
  go_wp2_with fail
  refine (A2.out _ ?_).mono ?_
  · have HBz := HB2.out
    exact TB.out.go (by repeat (with_reducible (first | exact Below.refl _ _ | assumption | refine bl_alloc ?_ _ | refine bl_drewN ?_ _ | refine bl_drew ?_ | refine bl_call ?_ (by assumption) | (refine bl_setCell ?_ _ (Nat.le_refl _)) | (refine bl_setCell ?_ _ (by first | omega | (simp; done) | (simp; omega))))))
  rintro e v3 ⟨rfl, hb3⟩
  have o3_0 := own_stays hb3 (b := w.heap.size) (by first | assumption | (simp; done) | (simp; omega) | omega)
  have n3_0_0 : v3.cell? ⟨w.heap.size, 0, none⟩ = some (.int .i64 n) := (o3_0.1 0).trans (by go_simp)
  have n3_0_1 : v3.cell? ⟨w.heap.size, 1, none⟩ = some (.int .i64 d) := (o3_0.1 1).trans (by go_simp)
  have s3_0 : w.heap.size < v3.heap.size := o3_0.2.2
  have o3_1 := own_stays hb3 (b := w.heap.size + 1) (by first | assumption | (simp; done) | (simp; omega) | omega)
  have n3_1_0 : v3.cell? ⟨w.heap.size + 1, 0, none⟩ = some (.int .i64 m) := (o3_1.1 0).trans (by go_simp)
  have n3_1_1 : v3.cell? ⟨w.heap.size + 1, 1, none⟩ = some (.int .i64 c) := (o3_1.1 1).trans (by go_simp)
  have s3_1 : w.heap.size + 1 < v3.heap.size := o3_1.2.2
  have o3_2 := own_stays hb3 (b := w.heap.size + 2) (by first | assumption | (simp; done) | (simp; omega) | omega)
  have n3_2_0 : v3.cell? ⟨w.heap.size + 2, 0, none⟩ = some (.int .i64 k) := (o3_2.1 0).trans (by go_simp)
  have n3_2_1 : v3.cell? ⟨w.heap.size + 2, 1, none⟩ = some (.int .i64 f) := (o3_2.1 1).trans (by go_simp)
  have s3_2 : w.heap.size + 2 < v3.heap.size := o3_2.2.2
  have o3_3 := own_stays hb3 (b := v2.heap.size) (by first | assumption | (simp; done) | (simp; omega) | omega)
  have n3_3_0 : v3.cell? ⟨v2.heap.size, 0, none⟩ = some (.int .i64 sN) := (o3_3.1 0).trans (by go_simp)
  have n3_3_1 : v3.cell? ⟨v2.heap.size, 1, none⟩ = some (.int .i64 sD) := (o3_3.1 1).trans (by go_simp)
  have f3_3 : ∀ o, v3.frozen? ⟨v2.heap.size, o, none⟩ = false := fun o => (o3_3.2.1 o).trans (by go_simp)
  have s3_3 : v2.heap.size < v3.heap.size := o3_3.2.2
  have HBx := HB2.out
  have HB3 := Lib.hid (show Below w.heap.size w v3 from bl_call (by repeat (with_reducible (first | exact Below.refl _ _ | assumption | refine bl_alloc ?_ _ | refine bl_drewN ?_ _ | refine bl_drew ?_ | refine bl_call ?_ (by assumption) | (refine bl_setCell ?_ _ (Nat.le_refl _)) | (refine bl_setCell ?_ _ (by first | omega | (simp; done) | (simp; omega)))))) hb3)
  clear HBx
  clear hb3 o3_0 o3_1 o3_2 o3_3 n2_0_0 n2_0_1 s2_0 n2_1_0 n2_1_1 s2_1 n2_2_0 n2_2_1 s2_2 HB2
  have le_1 : w.heap.size ≤ v3.heap.size := by omega
  have ne_1_0_0 : ¬ w.heap.size = v3.heap.size := by omega
  have nf_1_0_0 : ¬ v3.heap.size = w.heap.size := by omega
  have ne_1_1_0 : ¬ w.heap.size + 1 = v3.heap.size := by omega
  have nf_1_1_0 : ¬ v3.heap.size = w.heap.size + 1 := by omega
  have ne_1_2_0 : ¬ w.heap.size + 2 = v3.heap.size := by omega
  have nf_1_2_0 : ¬ v3.heap.size = w.heap.size + 2 := by omega
  have ne_1_2_1 : ¬ w.heap.size + 1 + 1 = v3.heap.size := by omega
  have nf_1_2_1 : ¬ v3.heap.size = w.heap.size + 1 + 1 := by omega
  have ne_1_3_0 : ¬ v2.heap.size = v3.heap.size := by omega
  have nf_1_3_0 : ¬ v3.heap.size = v2.heap.size := by omega
  go_wp2_with fail
  refine (M1.out _).mono ?_
  rintro e v4 ⟨rfl, hb4⟩
  have o4_0 := own_stays hb4 (b := w.heap.size) (by first | assumption | (simp; done) | (simp; omega) | omega)
  have n4_0_0 : v4.cell? ⟨w.heap.size, 0, none⟩ = some (.int .i64 n) := (o4_0.1 0).trans (by go_simp)
  have n4_0_1 : v4.cell? ⟨w.heap.size, 1, none⟩ = some (.int .i64 d) := (o4_0.1 1).trans (by go_simp)
  have s4_0 : w.heap.size < v4.heap.size := o4_0.2.2
  have o4_1 := own_stays hb4 (b := w.heap.size + 1) (by first | assumption | (simp; done) | (simp; omega) | omega)
  have n4_1_0 : v4.cell? ⟨w.heap.size + 1, 0, none⟩ = some (.int .i64 m) := (o4_1.1 0).trans (by go_simp)
  have n4_1_1 : v4.cell? ⟨w.heap.size + 1, 1, none⟩ = some (.int .i64 c) := (o4_1.1 1).trans (by go_simp)
  have s4_1 : w.heap.size + 1 < v4.heap.size := o4_1.2.2
  have o4_2 := own_stays hb4 (b := w.heap.size + 2) (by first | assumption | (simp; done) | (simp; omega) | omega)
  have n4_2_0 : v4.cell? ⟨w.heap.size + 2, 0, none⟩ = some (.int .i64 k) := (o4_2.1 0).trans (by go_simp)
  have n4_2_1 : v4.cell? ⟨w.heap.size + 2, 1, none⟩ = some (.int .i64 f) := (o4_2.1 1).trans (by go_simp)
  have s4_2 : w.heap.size + 2 < v4.heap.size := o4_2.2.2
  have o4_3 := own_stays hb4 (b := v2.heap.size) (by first | assumption | (simp; done) | (simp; omega) | omega)
  have n4_3_0 : v4.cell? ⟨v2.heap.size, 0, none⟩ = some (.int .i64 sN) := (o4_3.1 0).trans (by go_simp)
  have n4_3_1 : v4.cell? ⟨v2.heap.size, 1, none⟩ = some (.int .i64 sD) := (o4_3.1 1).trans (by go_simp)
  have f4_3 : ∀ o, v4.frozen? ⟨v2.heap.size, o, none⟩ = false := fun o => (o4_3.2.1 o).trans (by go_simp)
  have s4_3 : v2.heap.size < v4.heap.size := o4_3.2.2
  have o4_4 := own_stays hb4 (b := v3.heap.size) (by first | assumption | (simp; done) | (simp; omega) | omega)
  have n4_4_0 : v4.cell? ⟨v3.heap.size, 0, none⟩ = some (.int .i64 sN) := (o4_4.1 0).trans (by go_simp)
  have n4_4_1 : v4.cell? ⟨v3.heap.size, 1, none⟩ = some (.int .i64 sD) := (o4_4.1 1).trans (by go_simp)
  have f4_4 : ∀ o, v4.frozen? ⟨v3.heap.size, o, none⟩ = false := fun o => (o4_4.2.1 o).trans (by go_simp)
  have s4_4 : v3.heap.size < v4.heap.size := o4_4.2.2
  have HBx := HB3.out
  have HB4 := Lib.hid (show Below w.heap.size w v4 from bl_call (by repeat (with_reducible (first | exact Below.refl _ _ | assumption | refine bl_alloc ?_ _ | refine bl_drewN ?_ _ | refine bl_drew ?_ | refine bl_call ?_ (by assumption) | (refine bl_setCell ?_ _ (Nat.le_refl _)) | (refine bl_setCell ?_ _ (by first | omega | (simp; done) | (simp; omega)))))) hb4)
  clear HBx
  clear hb4 o4_0 o4_1 o4_2 o4_3 o4_4 n3_0_0 n3_0_1 s3_0 n3_1_0 n3_1_1 s3_1 n3_2_0 n3_2_1 s3_2 n3_3_0 n3_3_1 f3_3 s3_3 HB3
  have le_2 : w.heap.size ≤ v4.heap.size := by omega
  have ne_2_0_0 : ¬ w.heap.size = v4.heap.size := by omega
  have nf_2_0_0 : ¬ v4.heap.size = w.heap.size := by omega
  have ne_2_1_0 : ¬ w.heap.size + 1 = v4.heap.size := by omega
  have nf_2_1_0 : ¬ v4.heap.size = w.heap.size + 1 := by omega
  have ne_2_2_0 : ¬ w.heap.size + 2 = v4.heap.size := by omega
  have nf_2_2_0 : ¬ v4.heap.size = w.heap.size + 2 := by omega
  have ne_2_2_1 : ¬ w.heap.size + 1 + 1 = v4.heap.size := by omega
  have nf_2_2_1 : ¬ v4.heap.size = w.heap.size + 1 + 1 := by omega
  have ne_2_3_0 : ¬ v2.heap.size = v4.heap.size := by omega
  have nf_2_3_0 : ¬ v4.heap.size = v2.heap.size := by omega
  have ne_2_4_0 : ¬ v3.heap.size = v4.heap.size := by omega
  have nf_2_4_0 : ¬ v4.heap.size = v3.heap.size := by omega
  go_wp2_with fail
  refine (M2.out _).mono ?_
  rintro e v5 ⟨rfl, hb5⟩
  have o5_0 := own_stays hb5 (b := w.heap.size) (by first | assumption | (simp; done) | (simp; omega) | omega)
  have n5_0_0 : v5.cell? ⟨w.heap.size, 0, none⟩ = some (.int .i64 n) := (o5_0.1 0).trans (by go_simp)
  have n5_0_1 : v5.cell? ⟨w.heap.size, 1, none⟩ = some (.int .i64 d) := (o5_0.1 1).trans (by go_simp)
  have s5_0 : w.heap.size < v5.heap.size := o5_0.2.2
  have o5_1 := own_stays hb5 (b := w.heap.size + 1) (by first | assumption | (simp; done) | (simp; omega) | omega)
  have n5_1_0 : v5.cell? ⟨w.heap.size + 1, 0, none⟩ = some (.int .i64 m) := (o5_1.1 0).trans (by go_simp)
  have n5_1_1 : v5.cell? ⟨w.heap.size + 1, 1, none⟩ = some (.int .i64 c) := (o5_1.1 1).trans (by go_simp)
  have s5_1 : w.heap.size + 1 < v5.heap.size := o5_1.2.2
  have o5_2 := own_stays hb5 (b := w.heap.size + 2) (by first | assumption | (simp; done) | (simp; omega) | omega)
  have n5_2_0 : v5.cell? ⟨w.heap.size + 2, 0, none⟩ = some (.int .i64 k) := (o5_2.1 0).trans (by go_simp)
  have n5_2_1 : v5.cell? ⟨w.heap.size + 2, 1, none⟩ = some (.int .i64 f) := (o5_2.1 1).trans (by go_simp)
  have s5_2 : w.heap.size + 2 < v5.heap.size := o5_2.2.2
  have o5_3 := own_stays hb5 (b := v2.heap.size) (by first | assumption | (simp; done) | (simp; omega) | omega)
  have n5_3_0 : v5.cell? ⟨v2.heap.size, 0, none⟩ = some (.int .i64 sN) := (o5_3.1 0).trans (by go_simp)
  have n5_3_1 : v5.cell? ⟨v2.heap.size, 1, none⟩ = some (.int .i64 sD) := (o5_3.1 1).trans (by go_simp)
  have f5_3 : ∀ o, v5.frozen? ⟨v2.heap.size, o, none⟩ = false := fun o => (o5_3.2.1 o).trans (by go_simp)
  have s5_3 : v2.heap.size < v5.heap.size := o5_3.2.2
  have o5_4 := own_stays hb5 (b := v3.heap.size) (by first | assumption | (simp; done) | (simp; omega) | omega)
  have n5_4_0 : v5.cell? ⟨v3.heap.size, 0, none⟩ = some (.int .i64 sN) := (o5_4.1 0).trans (by go_simp)
  have n5_4_1 : v5.cell? ⟨v3.heap.size, 1, none⟩ = some (.int .i64 sD) := (o5_4.1 1).trans (by go_simp)
  have f5_4 : ∀ o, v5.frozen? ⟨v3.heap.size, o, none⟩ = false := fun o => (o5_4.2.1 o).trans (by go_simp)
  have s5_4 : v3.heap.size < v5.heap.size := o5_4.2.2
  have o5_5 := own_stays hb5 (b := v4.heap.size) (by first | assumption | (simp; done) | (simp; omega) | omega)
  have n5_5_0 : v5.cell? ⟨v4.heap.size, 0, none⟩ = some (.int .i64 pN) := (o5_5.1 0).trans (by go_simp)
  have n5_5_1 : v5.cell? ⟨v4.heap.size, 1, none⟩ = some (.int .i64 pD) := (o5_5.1 1).trans (by go_simp)
  have f5_5 : ∀ o, v5.frozen? ⟨v4.heap.size, o, none⟩ = false := fun o => (o5_5.2.1 o).trans (by go_simp)
  have s5_5 : v4.heap.size < v5.heap.size := o5_5.2.2
  have HBx := HB4.out
  have HB5 := Lib.hid (show Below w.heap.size w v5 from bl_call (by repeat (with_reducible (first | exact Below.refl _ _ | assumption | refine bl_alloc ?_ _ | refine bl_drewN ?_ _ | refine bl_drew ?_ | refine bl_call ?_ (by assumption) | (refine bl_setCell ?_ _ (Nat.le_refl _)) | (refine bl_setCell ?_ _ (by first | omega | (simp; done) | (simp; omega)))))) hb5)
  clear HBx
  clear hb5 o5_0 o5_1 o5_2 o5_3 o5_4 o5_5 n4_0_0 n4_0_1 s4_0 n4_1_0 n4_1_1 s4_1 n4_2_0 n4_2_1 s4_2 n4_3_0 n4_3_1 f4_3 s4_3 n4_4_0 n4_4_1 f4_4 s4_4 HB4
  have le_3 : w.heap.size ≤ v5.heap.size := by omega
  have ne_3_0_0 : ¬ w.heap.size = v5.heap.size := by omega
  have nf_3_0_0 : ¬ v5.heap.size = w.heap.size := by omega
  have ne_3_1_0 : ¬ w.heap.size + 1 = v5.heap.size := by omega
  have nf_3_1_0 : ¬ v5.heap.size = w.heap.size + 1 := by omega
  have ne_3_2_0 : ¬ w.heap.size + 2 = v5.heap.size := by omega
  have nf_3_2_0 : ¬ v5.heap.size = w.heap.size + 2 := by omega
  have ne_3_2_1 : ¬ w.heap.size + 1 + 1 = v5.heap.size := by omega
  have nf_3_2_1 : ¬ v5.heap.size = w.heap.size + 1 + 1 := by omega
  have ne_3_3_0 : ¬ v2.heap.size = v5.heap.size := by omega
  have nf_3_3_0 : ¬ v5.heap.size = v2.heap.size := by omega
  have ne_3_4_0 : ¬ v3.heap.size = v5.heap.size := by omega
  have nf_3_4_0 : ¬ v5.heap.size = v3.heap.size := by omega
  have ne_3_5_0 : ¬ v4.heap.size = v5.heap.size := by omega
  have nf_3_5_0 : ¬ v5.heap.size = v4.heap.size := by omega
  go_wp2_with fail
  refine (A3.out _ ?_).mono ?_
  · have HBz := HB5.out
    exact TB.out.go (by repeat (with_reducible (first | exact Below.refl _ _ | assumption | refine bl_alloc ?_ _ | refine bl_drewN ?_ _ | refine bl_drew ?_ | refine bl_call ?_ (by assumption) | (refine bl_setCell ?_ _ (Nat.le_refl _)) | (refine bl_setCell ?_ _ (by first | omega | (simp; done) | (simp; omega))))))
  rintro e v6 ⟨rfl, hb6⟩
  have o6_0 := own_stays hb6 (b := w.heap.size) (by first | assumption | (simp; done) | (simp; omega) | omega)
  have n6_0_0 : v6.cell? ⟨w.heap.size, 0, none⟩ = some (.int .i64 n) := (o6_0.1 0).trans (by go_simp)
  have n6_0_1 : v6.cell? ⟨w.heap.size, 1, none⟩ = some (.int .i64 d) := (o6_0.1 1).trans (by go_simp)
  have s6_0 : w.heap.size < v6.heap.size := o6_0.2.2
  have o6_1 := own_stays hb6 (b := w.heap.size + 1) (by first | assumption | (simp; done) | (simp; omega) | omega)
  have n6_1_0 : v6.cell? ⟨w.heap.size + 1, 0, none⟩ = some (.int .i64 m) := (o6_1.1 0).trans (by go_simp)
  have n6_1_1 : v6.cell? ⟨w.heap.size + 1, 1, none⟩ = some (.int .i64 c) := (o6_1.1 1).trans (by go_simp)
  have s6_1 : w.heap.size + 1 < v6.heap.size := o6_1.2.2
  have o6_2 := own_stays hb6 (b := w.heap.size + 2) (by first | assumption | (simp; done) | (simp; omega) | omega)
  have n6_2_0 : v6.cell? ⟨w.heap.size + 2, 0, none⟩ = some (.int .i64 k) := (o6_2.1 0).trans (by go_simp)
  have n6_2_1 : v6.cell? ⟨w.heap.size + 2, 1, none⟩ = some (.int .i64 f) := (o6_2.1 1).trans (by go_simp)
  have s6_2 : w.heap.size + 2 < v6.heap.size := o6_2.2.2
  have o6_3 := own_stays hb6 (b := v2.heap.size) (by first | assumption | (simp; done) | (simp; omega) | omega)
  have n6_3_0 : v6.cell? ⟨v2.heap.size, 0, none⟩ = some (.int .i64 sN) := (o6_3.1 0).trans (by go_simp)
  have n6_3_1 : v6.cell? ⟨v2.heap.size, 1, none⟩ = some (.int .i64 sD) := (o6_3.1 1).trans (by go_simp)
  have f6_3 : ∀ o, v6.frozen? ⟨v2.heap.size, o, none⟩ = false := fun o => (o6_3.2.1 o).trans (by go_simp)
  have s6_3 : v2.heap.size < v6.heap.size := o6_3.2.2
  have o6_4 := own_stays hb6 (b := v3.heap.size) (by first | assumption | (simp; done) | (simp; omega) | omega)
  have n6_4_0 : v6.cell? ⟨v3.heap.size, 0, none⟩ = some (.int .i64 sN) := (o6_4.1 0).trans (by go_simp)
  have n6_4_1 : v6.cell? ⟨v3.heap.size, 1, none⟩ = some (.int .i64 sD) := (o6_4.1 1).trans (by go_simp)
  have f6_4 : ∀ o, v6.frozen? ⟨v3.heap.size, o, none⟩ = false := fun o => (o6_4.2.1 o).trans (by go_simp)
  have s6_4 : v3.heap.size < v6.heap.size := o6_4.2.2
  have o6_5 := own_stays hb6 (b := v4.heap.size) (by first | assumption | (simp; done) | (simp; omega) | omega)
  have n6_5_0 : v6.cell? ⟨v4.heap.size, 0, none⟩ = some (.int .i64 pN) := (o6_5.1 0).trans (by go_simp)
  have n6_5_1 : v6.cell? ⟨v4.heap.size, 1, none⟩ = some (.int .i64 pD) := (o6_5.1 1).trans (by go_simp)
  have f6_5 : ∀ o, v6.frozen? ⟨v4.heap.size, o, none⟩ = false := fun o => (o6_5.2.1 o).trans (by go_simp)
  have s6_5 : v4.heap.size < v6.heap.size := o6_5.2.2
  have o6_6 := own_stays hb6 (b := v5.heap.size) (by first | assumption | (simp; done) | (simp; omega) | omega)
  have n6_6_0 : v6.cell? ⟨v5.heap.size, 0, none⟩ = some (.int .i64 pN) := (o6_6.1 0).trans (by go_simp)
  have n6_6_1 : v6.cell? ⟨v5.heap.size, 1, none⟩ = some (.int .i64 pD) := (o6_6.1 1).trans (by go_simp)
  have f6_6 : ∀ o, v6.frozen? ⟨v5.heap.size, o, none⟩ = false := fun o => (o6_6.2.1 o).trans (by go_simp)
  have s6_6 : v5.heap.size < v6.heap.size := o6_6.2.2
  have HBx := HB5.out
  have HB6 := Lib.hid (show Below w.heap.size w v6 from bl_call (by repeat (with_reducible (first | exact Below.refl _ _ | assumption | refine bl_alloc ?_ _ | refine bl_drewN ?_ _ | refine bl_drew ?_ | refine bl_call ?_ (by assumption) | (refine bl_setCell ?_ _ (Nat.le_refl _)) | (refine bl_setCell ?_ _ (by first | omega | (simp; done) | (simp; omega)))))) hb6)
  clear HBx
  clear hb6 o6_0 o6_1 o6_2 o6_3 o6_4 o6_5 o6_6 n5_0_0 n5_0_1 s5_0 n5_1_0 n5_1_1 s5_1 n5_2_0 n5_2_1 s5_2 n5_3_0 n5_3_1 f5_3 s5_3 n5_4_0 n5_4_1 f5_4 s5_4 n5_5_0 n5_5_1 f5_5 s5_5 HB5
  have le_4 : w.heap.size ≤ v6.heap.size := by omega
  have ne_4_0_0 : ¬ w.heap.size = v6.heap.size := by omega
  have nf_4_0_0 : ¬ v6.heap.size = w.heap.size := by omega
  have ne_4_1_0 : ¬ w.heap.size + 1 = v6.heap.size := by omega
  have nf_4_1_0 : ¬ v6.heap.size = w.heap.size + 1 := by omega
  have ne_4_2_0 : ¬ w.heap.size + 2 = v6.heap.size := by omega
  have nf_4_2_0 : ¬ v6.heap.size = w.heap.size + 2 := by omega
  have ne_4_2_1 : ¬ w.heap.size + 1 + 1 = v6.heap.size := by omega
  have nf_4_2_1 : ¬ v6.heap.size = w.heap.size + 1 + 1 := by omega
  have ne_4_3_0 : ¬ v2.heap.size = v6.heap.size := by omega
  have nf_4_3_0 : ¬ v6.heap.size = v2.heap.size := by omega
  have ne_4_4_0 : ¬ v3.heap.size = v6.heap.size := by omega
  have nf_4_4_0 : ¬ v6.heap.size = v3.heap.size := by omega
  have ne_4_5_0 : ¬ v4.heap.size = v6.heap.size := by omega
  have nf_4_5_0 : ¬ v6.heap.size = v4.heap.size := by omega
  have ne_4_6_0 : ¬ v5.heap.size = v6.heap.size := by omega
  have nf_4_6_0 : ¬ v6.heap.size = v5.heap.size := by omega
  by_cases h_sE : sE = 0
  · subst h_sE
    by_cases h_uE : uE = 0
    · subst h_uE
      obtain ⟨xN, xD, xE, X1, X2⟩ := AA.out (by first | rfl | trivial) (by first | rfl | trivial)
      have X1 := Lib.hid X1
      have X2 := Lib.hid X2
      go_wp2_with fail
      refine (X1.out _ ?_).mono ?_
      · have HBz := HB6.out
        exact TB.out.go (by repeat (with_reducible (first | exact Below.refl _ _ | assumption | refine bl_alloc ?_ _ | refine bl_drewN ?_ _ | refine bl_drew ?_ | refine bl_call ?_ (by assumption) | (refine bl_setCell ?_ _ (Nat.le_refl _)) | (refine bl_setCell ?_ _ (by first | omega | (simp; done) | (simp; omega))))))
      rintro e v7 ⟨rfl, hb7⟩
      have o7_0 := own_stays hb7 (b := w.heap.size) (by first | assumption | (simp; done) | (simp; omega) | omega)
      have n7_0_0 : v7.cell? ⟨w.heap.size, 0, none⟩ = some (.int .i64 n) := (o7_0.1 0).trans (by go_simp)
      have n7_0_1 : v7.cell? ⟨w.heap.size, 1, none⟩ = some (.int .i64 d) := (o7_0.1 1).trans (by go_simp)
      have s7_0 : w.heap.size < v7.heap.size := o7_0.2.2
      have o7_1 := own_stays hb7 (b := w.heap.size + 1) (by first | assumption | (simp; done) | (simp; omega) | omega)
      have n7_1_0 : v7.cell? ⟨w.heap.size + 1, 0, none⟩ = some (.int .i64 m) := (o7_1.1 0).trans (by go_simp)
      have n7_1_1 : v7.cell? ⟨w.heap.size + 1, 1, none⟩ = some (.int .i64 c) := (o7_1.1 1).trans (by go_simp)
      have s7_1 : w.heap.size + 1 < v7.heap.size := o7_1.2.2
      have o7_2 := own_stays hb7 (b := w.heap.size + 2) (by first | assumption | (simp; done) | (simp; omega) | omega)
      have n7_2_0 : v7.cell? ⟨w.heap.size + 2, 0, none⟩ = some (.int .i64 k) := (o7_2.1 0).trans (by go_simp)
      have n7_2_1 : v7.cell? ⟨w.heap.size + 2, 1, none⟩ = some (.int .i64 f) := (o7_2.1 1).trans (by go_simp)
      have s7_2 : w.heap.size + 2 < v7.heap.size := o7_2.2.2
      have o7_3 := own_stays hb7 (b := v2.heap.size) (by first | assumption | (simp; done) | (simp; omega) | omega)
      have n7_3_0 : v7.cell? ⟨v2.heap.size, 0, none⟩ = some (.int .i64 sN) := (o7_3.1 0).trans (by go_simp)
      have n7_3_1 : v7.cell? ⟨v2.heap.size, 1, none⟩ = some (.int .i64 sD) := (o7_3.1 1).trans (by go_simp)
      have f7_3 : ∀ o, v7.frozen? ⟨v2.heap.size, o, none⟩ = false := fun o => (o7_3.2.1 o).trans (by go_simp)
      have s7_3 : v2.heap.size < v7.heap.size := o7_3.2.2
      have o7_4 := own_stays hb7 (b := v3.heap.size) (by first | assumption | (simp; done) | (simp; omega) | omega)
      have n7_4_0 : v7.cell? ⟨v3.heap.size, 0, none⟩ = some (.int .i64 sN) := (o7_4.1 0).trans (by go_simp)
      have n7_4_1 : v7.cell? ⟨v3.heap.size, 1, none⟩ = some (.int .i64 sD) := (o7_4.1 1).trans (by go_simp)
      have f7_4 : ∀ o, v7.frozen? ⟨v3.heap.size, o, none⟩ = false := fun o => (o7_4.2.1 o).trans (by go_simp)
      have s7_4 : v3.heap.size < v7.heap.size := o7_4.2.2
      have o7_5 := own_stays hb7 (b := v4.heap.size) (by first | assumption | (simp; done) | (simp; omega) | omega)
      have n7_5_0 : v7.cell? ⟨v4.heap.size, 0, none⟩ = some (.int .i64 pN) := (o7_5.1 0).trans (by go_simp)
      have n7_5_1 : v7.cell? ⟨v4.heap.size, 1, none⟩ = some (.int .i64 pD) := (o7_5.1 1).trans (by go_simp)
      have f7_5 : ∀ o, v7.frozen? ⟨v4.heap.size, o, none⟩ = false := fun o => (o7_5.2.1 o).trans (by go_simp)
      have s7_5 : v4.heap.size < v7.heap.size := o7_5.2.2
      have o7_6 := own_stays hb7 (b := v5.heap.size) (by first | assumption | (simp; done) | (simp; omega) | omega)
      have n7_6_0 : v7.cell? ⟨v5.heap.size, 0, none⟩ = some (.int .i64 pN) := (o7_6.1 0).trans (by go_simp)
      have n7_6_1 : v7.cell? ⟨v5.heap.size, 1, none⟩ = some (.int .i64 pD) := (o7_6.1 1).trans (by go_simp)
      have f7_6 : ∀ o, v7.frozen? ⟨v5.heap.size, o, none⟩ = false := fun o => (o7_6.2.1 o).trans (by go_simp)
      have s7_6 : v5.heap.size < v7.heap.size := o7_6.2.2
      have o7_7 := own_stays hb7 (b := v6.heap.size) (by first | assumption | (simp; done) | (simp; omega) | omega)
      have n7_7_0 : v7.cell? ⟨v6.heap.size, 0, none⟩ = some (.int .i64 uN) := (o7_7.1 0).trans (by go_simp)
      have n7_7_1 : v7.cell? ⟨v6.heap.size, 1, none⟩ = some (.int .i64 uD) := (o7_7.1 1).trans (by go_simp)
      have f7_7 : ∀ o, v7.frozen? ⟨v6.heap.size, o, none⟩ = false := fun o => (o7_7.2.1 o).trans (by go_simp)
      have s7_7 : v6.heap.size < v7.heap.size := o7_7.2.2
      have HBx := HB6.out
      have HB7 := Lib.hid (show Below w.heap.size w v7 from bl_call (by repeat (with_reducible (first | exact Below.refl _ _ | assumption | refine bl_alloc ?_ _ | refine bl_drewN ?_ _ | refine bl_drew ?_ | refine bl_call ?_ (by assumption) | (refine bl_setCell ?_ _ (Nat.le_refl _)) | (refine bl_setCell ?_ _ (by first | omega | (simp; done) | (simp; omega)))))) hb7)
      clear HBx
      clear hb7 o7_0 o7_1 o7_2 o7_3 o7_4 o7_5 o7_6 o7_7 n6_0_0 n6_0_1 s6_0 n6_1_0 n6_1_1 s6_1 n6_2_0 n6_2_1 s6_2 n6_3_0 n6_3_1 f6_3 s6_3 n6_4_0 n6_4_1 f6_4 s6_4 n6_5_0 n6_5_1 f6_5 s6_5 n6_6_0 n6_6_1 f6_6 s6_6 HB6
      have le_5 : w.heap.size ≤ v7.heap.size := by omega
      have ne_5_0_0 : ¬ w.heap.size = v7.heap.size := by omega
      have nf_5_0_0 : ¬ v7.heap.size = w.heap.size := by omega
      have ne_5_1_0 : ¬ w.heap.size + 1 = v7.heap.size := by omega
      have nf_5_1_0 : ¬ v7.heap.size = w.heap.size + 1 := by omega
      have ne_5_2_0 : ¬ w.heap.size + 2 = v7.heap.size := by omega
      have nf_5_2_0 : ¬ v7.heap.size = w.heap.size + 2 := by omega
      have ne_5_2_1 : ¬ w.heap.size + 1 + 1 = v7.heap.size := by omega
      have nf_5_2_1 : ¬ v7.heap.size = w.heap.size + 1 + 1 := by omega
      have ne_5_3_0 : ¬ v2.heap.size = v7.heap.size := by omega
      have nf_5_3_0 : ¬ v7.heap.size = v2.heap.size := by omega
      have ne_5_4_0 : ¬ v3.heap.size = v7.heap.size := by omega
      have nf_5_4_0 : ¬ v7.heap.size = v3.heap.size := by omega
      have ne_5_5_0 : ¬ v4.heap.size = v7.heap.size := by omega
      have nf_5_5_0 : ¬ v7.heap.size = v4.heap.size := by omega
      have ne_5_6_0 : ¬ v5.heap.size = v7.heap.size := by omega
      have nf_5_6_0 : ¬ v7.heap.size = v5.heap.size := by omega
      have ne_5_7_0 : ¬ v6.heap.size = v7.heap.size := by omega
      have nf_5_7_0 : ¬ v7.heap.size = v6.heap.size := by omega
      go_wp2_with fail
      refine (X2.out _ ?_).mono ?_
      · have HBz := HB7.out
        exact TB.out.go (by repeat (with_reducible (first | exact Below.refl _ _ | assumption | refine bl_alloc ?_ _ | refine bl_drewN ?_ _ | refine bl_drew ?_ | refine bl_call ?_ (by assumption) | (refine bl_setCell ?_ _ (Nat.le_refl _)) | (refine bl_setCell ?_ _ (by first | omega | (simp; done) | (simp; omega))))))
      rintro e v8 ⟨rfl, hb8⟩
      have o8_0 := own_stays hb8 (b := w.heap.size) (by first | assumption | (simp; done) | (simp; omega) | omega)
      have n8_0_0 : v8.cell? ⟨w.heap.size, 0, none⟩ = some (.int .i64 n) := (o8_0.1 0).trans (by go_simp)
      have n8_0_1 : v8.cell? ⟨w.heap.size, 1, none⟩ = some (.int .i64 d) := (o8_0.1 1).trans (by go_simp)
      have s8_0 : w.heap.size < v8.heap.size := o8_0.2.2
      have o8_1 := own_stays hb8 (b := w.heap.size + 1) (by first | assumption | (simp; done) | (simp; omega) | omega)
      have n8_1_0 : v8.cell? ⟨w.heap.size + 1, 0, none⟩ = some (.int .i64 m) := (o8_1.1 0).trans (by go_simp)
      have n8_1_1 : v8.cell? ⟨w.heap.size + 1, 1, none⟩ = some (.int .i64 c) := (o8_1.1 1).trans (by go_simp)
      have s8_1 : w.heap.size + 1 < v8.heap.size := o8_1.2.2
      have o8_2 := own_stays hb8 (b := w.heap.size + 2) (by first | assumption | (simp; done) | (simp; omega) | omega)
      have n8_2_0 : v8.cell? ⟨w.heap.size + 2, 0, none⟩ = some (.int .i64 k) := (o8_2.1 0).trans (by go_simp)
      have n8_2_1 : v8.cell? ⟨w.heap.size + 2, 1, none⟩ = some (.int .i64 f) := (o8_2.1 1).trans (by go_simp)
      have s8_2 : w.heap.size + 2 < v8.heap.size := o8_2.2.2
      have o8_3 := own_stays hb8 (b := v2.heap.size) (by first | assumption | (simp; done) | (simp; omega) | omega)
      have n8_3_0 : v8.cell? ⟨v2.heap.size, 0, none⟩ = some (.int .i64 sN) := (o8_3.1 0).trans (by go_simp)
      have n8_3_1 : v8.cell? ⟨v2.heap.size, 1, none⟩ = some (.int .i64 sD) := (o8_3.1 1).trans (by go_simp)
      have f8_3 : ∀ o, v8.frozen? ⟨v2.heap.size, o, none⟩ = false := fun o => (o8_3.2.1 o).trans (by go_simp)
      have s8_3 : v2.heap.size < v8.heap.size := o8_3.2.2
      have o8_4 := own_stays hb8 (b := v3.heap.size) (by first | assumption | (simp; done) | (simp; omega) | omega)
      have n8_4_0 : v8.cell? ⟨v3.heap.size, 0, none⟩ = some (.int .i64 sN) := (o8_4.1 0).trans (by go_simp)
      have n8_4_1 : v8.cell? ⟨v3.heap.size, 1, none⟩ = some (.int .i64 sD) := (o8_4.1 1).trans (by go_simp)
      have f8_4 : ∀ o, v8.frozen? ⟨v3.heap.size, o, none⟩ = false := fun o => (o8_4.2.1 o).trans (by go_simp)
      have s8_4 : v3.heap.size < v8.heap.size := o8_4.2.2
      have o8_5 := own_stays hb8 (b := v4.heap.size) (by first | assumption | (simp; done) | (simp; omega) | omega)
      have n8_5_0 : v8.cell? ⟨v4.heap.size, 0, none⟩ = some (.int .i64 pN) := (o8_5.1 0).trans (by go_simp)
      have n8_5_1 : v8.cell? ⟨v4.heap.size, 1, none⟩ = some (.int .i64 pD) := (o8_5.1 1).trans (by go_simp)
      have f8_5 : ∀ o, v8.frozen? ⟨v4.heap.size, o, none⟩ = false := fun o => (o8_5.2.1 o).trans (by go_simp)
      have s8_5 : v4.heap.size < v8.heap.size := o8_5.2.2
      have o8_6 := own_stays hb8 (b := v5.heap.size) (by first | assumption | (simp; done) | (simp; omega) | omega)
      have n8_6_0 : v8.cell? ⟨v5.heap.size, 0, none⟩ = some (.int .i64 pN) := (o8_6.1 0).trans (by go_simp)
      have n8_6_1 : v8.cell? ⟨v5.heap.size, 1, none⟩ = some (.int .i64 pD) := (o8_6.1 1).trans (by go_simp)
      have f8_6 : ∀ o, v8.frozen? ⟨v5.heap.size, o, none⟩ = false := fun o => (o8_6.2.1 o).trans (by go_simp)
      have s8_6 : v5.heap.size < v8.heap.size := o8_6.2.2
      have o8_7 := own_stays hb8 (b := v6.heap.size) (by first | assumption | (simp; done) | (simp; omega) | omega)
      have n8_7_0 : v8.cell? ⟨v6.heap.size, 0, none⟩ = some (.int .i64 uN) := (o8_7.1 0).trans (by go_simp)
      have n8_7_1 : v8.cell? ⟨v6.heap.size, 1, none⟩ = some (.int .i64 uD) := (o8_7.1 1).trans (by go_simp)
      have f8_7 : ∀ o, v8.frozen? ⟨v6.heap.size, o, none⟩ = false := fun o => (o8_7.2.1 o).trans (by go_simp)
      have s8_7 : v6.heap.size < v8.heap.size := o8_7.2.2
      have o8_8 := own_stays hb8 (b := v7.heap.size) (by first | assumption | (simp; done) | (simp; omega) | omega)
      have n8_8_0 : v8.cell? ⟨v7.heap.size, 0, none⟩ = some (.int .i64 xN) := (o8_8.1 0).trans (by go_simp)
      have n8_8_1 : v8.cell? ⟨v7.heap.size, 1, none⟩ = some (.int .i64 xD) := (o8_8.1 1).trans (by go_simp)
      have f8_8 : ∀ o, v8.frozen? ⟨v7.heap.size, o, none⟩ = false := fun o => (o8_8.2.1 o).trans (by go_simp)
      have s8_8 : v7.heap.size < v8.heap.size := o8_8.2.2
      have HBx := HB7.out
      have HB8 := Lib.hid (show Below w.heap.size w v8 from bl_call (by repeat (with_reducible (first | exact Below.refl _ _ | assumption | refine bl_alloc ?_ _ | refine bl_drewN ?_ _ | refine bl_drew ?_ | refine bl_call ?_ (by assumption) | (refine bl_setCell ?_ _ (Nat.le_refl _)) | (refine bl_setCell ?_ _ (by first | omega | (simp; done) | (simp; omega)))))) hb8)
      clear HBx
      clear hb8 o8_0 o8_1 o8_2 o8_3 o8_4 o8_5 o8_6 o8_7 o8_8 n7_0_0 n7_0_1 s7_0 n7_1_0 n7_1_1 s7_1 n7_2_0 n7_2_1 s7_2 n7_3_0 n7_3_1 f7_3 s7_3 n7_4_0 n7_4_1 f7_4 s7_4 n7_5_0 n7_5_1 f7_5 s7_5 n7_6_0 n7_6_1 f7_6 s7_6 n7_7_0 n7_7_1 f7_7 s7_7 HB7
      have le_6 : w.heap.size ≤ v8.heap.size := by omega
      have ne_6_0_0 : ¬ w.heap.size = v8.heap.size := by omega
      have nf_6_0_0 : ¬ v8.heap.size = w.heap.size := by omega
      have ne_6_1_0 : ¬ w.heap.size + 1 = v8.heap.size := by omega
      have nf_6_1_0 : ¬ v8.heap.size = w.heap.size + 1 := by omega
      have ne_6_2_0 : ¬ w.heap.size + 2 = v8.heap.size := by omega
      have nf_6_2_0 : ¬ v8.heap.size = w.heap.size + 2 := by omega
      have ne_6_2_1 : ¬ w.heap.size + 1 + 1 = v8.heap.size := by omega
      have nf_6_2_1 : ¬ v8.heap.size = w.heap.size + 1 + 1 := by omega
      have ne_6_3_0 : ¬ v2.heap.size = v8.heap.size := by omega
      have nf_6_3_0 : ¬ v8.heap.size = v2.heap.size := by omega
      have ne_6_4_0 : ¬ v3.heap.size = v8.heap.size := by omega
      have nf_6_4_0 : ¬ v8.heap.size = v3.heap.size := by omega
      have ne_6_5_0 : ¬ v4.heap.size = v8.heap.size := by omega
      have nf_6_5_0 : ¬ v8.heap.size = v4.heap.size := by omega
      have ne_6_6_0 : ¬ v5.heap.size = v8.heap.size := by omega
      have nf_6_6_0 : ¬ v8.heap.size = v5.heap.size := by omega
      have ne_6_7_0 : ¬ v6.heap.size = v8.heap.size := by omega
      have nf_6_7_0 : ¬ v8.heap.size = v6.heap.size := by omega
      have ne_6_8_0 : ¬ v7.heap.size = v8.heap.size := by omega
      have nf_6_8_0 : ¬ v8.heap.size = v7.heap.size := by omega
      go_wp2_with fail
      refine (M3.out _).mono ?_
      rintro e v9 ⟨rfl, hb9⟩
      have o9_0 := own_stays hb9 (b := w.heap.size) (by first | assumption | (simp; done) | (simp; omega) | omega)
      have n9_0_0 : v9.cell? ⟨w.heap.size, 0, none⟩ = some (.int .i64 n) := (o9_0.1 0).trans (by go_simp)
      have n9_0_1 : v9.cell? ⟨w.heap.size, 1, none⟩ = some (.int .i64 d) := (o9_0.1 1).trans (by go_simp)
      have s9_0 : w.heap.size < v9.heap.size := o9_0.2.2
      have o9_1 := own_stays hb9 (b := w.heap.size + 1) (by first | assumption | (simp; done) | (simp; omega) | omega)
      have n9_1_0 : v9.cell? ⟨w.heap.size + 1, 0, none⟩ = some (.int .i64 m) := (o9_1.1 0).trans (by go_simp)
      have n9_1_1 : v9.cell? ⟨w.heap.size + 1, 1, none⟩ = some (.int .i64 c) := (o9_1.1 1).trans (by go_simp)
      have s9_1 : w.heap.size + 1 < v9.heap.size := o9_1.2.2
      have o9_2 := own_stays hb9 (b := w.heap.size + 2) (by first | assumption | (simp; done) | (simp; omega) | omega)
      have n9_2_0 : v9.cell? ⟨w.heap.size + 2, 0, none⟩ = some (.int .i64 k) := (o9_2.1 0).trans (by go_simp)
      have n9_2_1 : v9.cell? ⟨w.heap.size + 2, 1, none⟩ = some (.int .i64 f) := (o9_2.1 1).trans (by go_simp)
      have s9_2 : w.heap.size + 2 < v9.heap.size := o9_2.2.2
      have o9_3 := own_stays hb9 (b := v2.heap.size) (by first | assumption | (simp; done) | (simp; omega) | omega)
      have n9_3_0 : v9.cell? ⟨v2.heap.size, 0, none⟩ = some (.int .i64 sN) := (o9_3.1 0).trans (by go_simp)
      have n9_3_1 : v9.cell? ⟨v2.heap.size, 1, none⟩ = some (.int .i64 sD) := (o9_3.1 1).trans (by go_simp)
      have f9_3 : ∀ o, v9.frozen? ⟨v2.heap.size, o, none⟩ = false := fun o => (o9_3.2.1 o).trans (by go_simp)
      have s9_3 : v2.heap.size < v9.heap.size := o9_3.2.2
      have o9_4 := own_stays hb9 (b := v3.heap.size) (by first | assumption | (simp; done) | (simp; omega) | omega)
      have n9_4_0 : v9.cell? ⟨v3.heap.size, 0, none⟩ = some (.int .i64 sN) := (o9_4.1 0).trans (by go_simp)
      have n9_4_1 : v9.cell? ⟨v3.heap.size, 1, none⟩ = some (.int .i64 sD) := (o9_4.1 1).trans (by go_simp)
      have f9_4 : ∀ o, v9.frozen? ⟨v3.heap.size, o, none⟩ = false := fun o => (o9_4.2.1 o).trans (by go_simp)
      have s9_4 : v3.heap.size < v9.heap.size := o9_4.2.2
      have o9_5 := own_stays hb9 (b := v4.heap.size) (by first | assumption | (simp; done) | (simp; omega) | omega)
      have n9_5_0 : v9.cell? ⟨v4.heap.size, 0, none⟩ = some (.int .i64 pN) := (o9_5.1 0).trans (by go_simp)
      have n9_5_1 : v9.cell? ⟨v4.heap.size, 1, none⟩ = some (.int .i64 pD) := (o9_5.1 1).trans (by go_simp)
      have f9_5 : ∀ o, v9.frozen? ⟨v4.heap.size, o, none⟩ = false := fun o => (o9_5.2.1 o).trans (by go_simp)
      have s9_5 : v4.heap.size < v9.heap.size := o9_5.2.2
      have o9_6 := own_stays hb9 (b := v5.heap.size) (by first | assumption | (simp; done) | (simp; omega) | omega)
      have n9_6_0 : v9.cell? ⟨v5.heap.size, 0, none⟩ = some (.int .i64 pN) := (o9_6.1 0).trans (by go_simp)
      have n9_6_1 : v9.cell? ⟨v5.heap.size, 1, none⟩ = some (.int .i64 pD) := (o9_6.1 1).trans (by go_simp)
      have f9_6 : ∀ o, v9.frozen? ⟨v5.heap.size, o, none⟩ = false := fun o => (o9_6.2.1 o).trans (by go_simp)
      have s9_6 : v5.heap.size < v9.heap.size := o9_6.2.2
      have o9_7 := own_stays hb9 (b := v6.heap.size) (by first | assumption | (simp; done) | (simp; omega) | omega)
      have n9_7_0 : v9.cell? ⟨v6.heap.size, 0, none⟩ = some (.int .i64 uN) := (o9_7.1 0).trans (by go_simp)
      have n9_7_1 : v9.cell? ⟨v6.heap.size, 1, none⟩ = some (.int .i64 uD) := (o9_7.1 1).trans (by go_simp)
      have f9_7 : ∀ o, v9.frozen? ⟨v6.heap.size, o, none⟩ = false := fun o => (o9_7.2.1 o).trans (by go_simp)
      have s9_7 : v6.heap.size < v9.heap.size := o9_7.2.2
      have o9_8 := own_stays hb9 (b := v7.heap.size) (by first | assumption | (simp; done) | (simp; omega) | omega)
      have n9_8_0 : v9.cell? ⟨v7.heap.size, 0, none⟩ = some (.int .i64 xN) := (o9_8.1 0).trans (by go_simp)
      have n9_8_1 : v9.cell? ⟨v7.heap.size, 1, none⟩ = some (.int .i64 xD) := (o9_8.1 1).trans (by go_simp)
      have f9_8 : ∀ o, v9.frozen? ⟨v7.heap.size, o, none⟩ = false := fun o => (o9_8.2.1 o).trans (by go_simp)
      have s9_8 : v7.heap.size < v9.heap.size := o9_8.2.2
      have o9_9 := own_stays hb9 (b := v8.heap.size) (by first | assumption | (simp; done) | (simp; omega) | omega)
      have n9_9_0 : v9.cell? ⟨v8.heap.size, 0, none⟩ = some (.int .i64 xN) := (o9_9.1 0).trans (by go_simp)
      have n9_9_1 : v9.cell? ⟨v8.heap.size, 1, none⟩ = some (.int .i64 xD) := (o9_9.1 1).trans (by go_simp)
      have f9_9 : ∀ o, v9.frozen? ⟨v8.heap.size, o, none⟩ = false := fun o => (o9_9.2.1 o).trans (by go_simp)
      have s9_9 : v8.heap.size < v9.heap.size := o9_9.2.2
      have HBx := HB8.out
      have HB9 := Lib.hid (show Below w.heap.size w v9 from bl_call (by repeat (with_reducible (first | exact Below.refl _ _ | assumption | refine bl_alloc ?_ _ | refine bl_drewN ?_ _ | refine bl_drew ?_ | refine bl_call ?_ (by assumption) | (refine bl_setCell ?_ _ (Nat.le_refl _)) | (refine bl_setCell ?_ _ (by first | omega | (simp; done) | (simp; omega)))))) hb9)
      clear HBx
      clear hb9 o9_0 o9_1 o9_2 o9_3 o9_4 o9_5 o9_6 o9_7 o9_8 o9_9 n8_0_0 n8_0_1 s8_0 n8_1_0 n8_1_1 s8_1 n8_2_0 n8_2_1 s8_2 n8_3_0 n8_3_1 f8_3 s8_3 n8_4_0 n8_4_1 f8_4 s8_4 n8_5_0 n8_5_1 f8_5 s8_5 n8_6_0 n8_6_1 f8_6 s8_6 n8_7_0 n8_7_1 f8_7 s8_7 n8_8_0 n8_8_1 f8_8 s8_8 HB8
      have le_7 : w.heap.size ≤ v9.heap.size := by omega
      have ne_7_0_0 : ¬ w.heap.size = v9.heap.size := by omega
      have nf_7_0_0 : ¬ v9.heap.size = w.heap.size := by omega
      have ne_7_1_0 : ¬ w.heap.size + 1 = v9.heap.size := by omega
      have nf_7_1_0 : ¬ v9.heap.size = w.heap.size + 1 := by omega
      have ne_7_2_0 : ¬ w.heap.size + 2 = v9.heap.size := by omega
      have nf_7_2_0 : ¬ v9.heap.size = w.heap.size + 2 := by omega
      have ne_7_2_1 : ¬ w.heap.size + 1 + 1 = v9.heap.size := by omega
      have nf_7_2_1 : ¬ v9.heap.size = w.heap.size + 1 + 1 := by omega
      have ne_7_3_0 : ¬ v2.heap.size = v9.heap.size := by omega
      have nf_7_3_0 : ¬ v9.heap.size = v2.heap.size := by omega
      have ne_7_4_0 : ¬ v3.heap.size = v9.heap.size := by omega
      have nf_7_4_0 : ¬ v9.heap.size = v3.heap.size := by omega
      have ne_7_5_0 : ¬ v4.heap.size = v9.heap.size := by omega
      have nf_7_5_0 : ¬ v9.heap.size = v4.heap.size := by omega
      have ne_7_6_0 : ¬ v5.heap.size = v9.heap.size := by omega
      have nf_7_6_0 : ¬ v9.heap.size = v5.heap.size := by omega
      have ne_7_7_0 : ¬ v6.heap.size = v9.heap.size := by omega
      have nf_7_7_0 : ¬ v9.heap.size = v6.heap.size := by omega
      have ne_7_8_0 : ¬ v7.heap.size = v9.heap.size := by omega
      have nf_7_8_0 : ¬ v9.heap.size = v7.heap.size := by omega
      have ne_7_9_0 : ¬ v8.heap.size = v9.heap.size := by omega
      have nf_7_9_0 : ¬ v9.heap.size = v8.heap.size := by omega
      by_cases h_pE : pE = 0
      · subst h_pE
        by_cases h_yE : yE = 0
        · subst h_yE
          obtain ⟨zN, zD, zE, Z1, Z2⟩ := MM.out (by first | rfl | trivial) (by first | rfl | trivial) (by first | rfl | trivial)
          have Z1 := Lib.hid Z1
          have Z2 := Lib.hid Z2
          go_wp2_with fail
          refine (Z1.out _).mono ?_
          rintro e v10 ⟨rfl, hb10⟩
          have o10_0 := own_stays hb10 (b := w.heap.size) (by first | assumption | (simp; done) | (simp; omega) | omega)
          have n10_0_0 : v10.cell? ⟨w.heap.size, 0, none⟩ = some (.int .i64 n) := (o10_0.1 0).trans (by go_simp)
          have n10_0_1 : v10.cell? ⟨w.heap.size, 1, none⟩ = some (.int .i64 d) := (o10_0.1 1).trans (by go_simp)
          have s10_0 : w.heap.size < v10.heap.size := o10_0.2.2
          have o10_1 := own_stays hb10 (b := w.heap.size + 1) (by first | assumption | (simp; done) | (simp; omega) | omega)
          have n10_1_0 : v10.cell? ⟨w.heap.size + 1, 0, none⟩ = some (.int .i64 m) := (o10_1.1 0).trans (by go_simp)
          have n10_1_1 : v10.cell? ⟨w.heap.size + 1, 1, none⟩ = some (.int .i64 c) := (o10_1.1 1).trans (by go_simp)
          have s10_1 : w.heap.size + 1 < v10.heap.size := o10_1.2.2
          have o10_2 := own_stays hb10 (b := w.heap.size + 2) (by first | assumption | (simp; done) | (simp; omega) | omega)
          have n10_2_0 : v10.cell? ⟨w.heap.size + 2, 0, none⟩ = some (.int .i64 k) := (o10_2.1 0).trans (by go_simp)
          have n10_2_1 : v10.cell? ⟨w.heap.size + 2, 1, none⟩ = some (.int .i64 f) := (o10_2.1 1).trans (by go_simp)
          have s10_2 : w.heap.size + 2 < v10.heap.size := o10_2.2.2
          have o10_3 := own_stays hb10 (b := v2.heap.size) (by first | assumption | (simp; done) | (simp; omega) | omega)
          have n10_3_0 : v10.cell? ⟨v2.heap.size, 0, none⟩ = some (.int .i64 sN) := (o10_3.1 0).trans (by go_simp)
          have n10_3_1 : v10.cell? ⟨v2.heap.size, 1, none⟩ = some (.int .i64 sD) := (o10_3.1 1).trans (by go_simp)
          have f10_3 : ∀ o, v10.frozen? ⟨v2.heap.size, o, none⟩ = false := fun o => (o10_3.2.1 o).trans (by go_simp)
          have s10_3 : v2.heap.size < v10.heap.size := o10_3.2.2
          have o10_4 := own_stays hb10 (b := v3.heap.size) (by first | assumption | (simp; done) | (simp; omega) | omega)
          have n10_4_0 : v10.cell? ⟨v3.heap.size, 0, none⟩ = some (.int .i64 sN) := (o10_4.1 0).trans (by go_simp)
          have n10_4_1 : v10.cell? ⟨v3.heap.size, 1, none⟩ = some (.int .i64 sD) := (o10_4.1 1).trans (by go_simp)
          have f10_4 : ∀ o, v10.frozen? ⟨v3.heap.size, o, none⟩ = false := fun o => (o10_4.2.1 o).trans (by go_simp)
          have s10_4 : v3.heap.size < v10.heap.size := o10_4.2.2
          have o10_5 := own_stays hb10 (b := v4.heap.size) (by first | assumption | (simp; done) | (simp; omega) | omega)
          have n10_5_0 : v10.cell? ⟨v4.heap.size, 0, none⟩ = some (.int .i64 pN) := (o10_5.1 0).trans (by go_simp)
          have n10_5_1 : v10.cell? ⟨v4.heap.size, 1, none⟩ = some (.int .i64 pD) := (o10_5.1 1).trans (by go_simp)
          have f10_5 : ∀ o, v10.frozen? ⟨v4.heap.size, o, none⟩ = false := fun o => (o10_5.2.1 o).trans (by go_simp)
          have s10_5 : v4.heap.size < v10.heap.size := o10_5.2.2
          have o10_6 := own_stays hb10 (b := v5.heap.size) (by first | assumption | (simp; done) | (simp; omega) | omega)
          have n10_6_0 : v10.cell? ⟨v5.heap.size, 0, none⟩ = some (.int .i64 pN) := (o10_6.1 0).trans (by go_simp)
          have n10_6_1 : v10.cell? ⟨v5.heap.size, 1, none⟩ = some (.int .i64 pD) := (o10_6.1 1).trans (by go_simp)
          have f10_6 : ∀ o, v10.frozen? ⟨v5.heap.size, o, none⟩ = false := fun o => (o10_6.2.1 o).trans (by go_simp)
          have s10_6 : v5.heap.size < v10.heap.size := o10_6.2.2
          have o10_7 := own_stays hb10 (b := v6.heap.size) (by first | assumption | (simp; done) | (simp; omega) | omega)
          have n10_7_0 : v10.cell? ⟨v6.heap.size, 0, none⟩ = some (.int .i64 uN) := (o10_7.1 0).trans (by go_simp)
          have n10_7_1 : v10.cell? ⟨v6.heap.size, 1, none⟩ = some (.int .i64 uD) := (o10_7.1 1).trans (by go_simp)
          have f10_7 : ∀ o, v10.frozen? ⟨v6.heap.size, o, none⟩ = false := fun o => (o10_7.2.1 o).trans (by go_simp)
          have s10_7 : v6.heap.size < v10.heap.size := o10_7.2.2
          have o10_8 := own_stays hb10 (b := v7.heap.size) (by first | assumption | (simp; done) | (simp; omega) | omega)
          have n10_8_0 : v10.cell? ⟨v7.heap.size, 0, none⟩ = some (.int .i64 xN) := (o10_8.1 0).trans (by go_simp)
          have n10_8_1 : v10.cell? ⟨v7.heap.size, 1, none⟩ = some (.int .i64 xD) := (o10_8.1 1).trans (by go_simp)
          have f10_8 : ∀ o, v10.frozen? ⟨v7.heap.size, o, none⟩ = false := fun o => (o10_8.2.1 o).trans (by go_simp)
          have s10_8 : v7.heap.size < v10.heap.size := o10_8.2.2
          have o10_9 := own_stays hb10 (b := v8.heap.size) (by first | assumption | (simp; done) | (simp; omega) | omega)
          have n10_9_0 : v10.cell? ⟨v8.heap.size, 0, none⟩ = some (.int .i64 xN) := (o10_9.1 0).trans (by go_simp)
          have n10_9_1 : v10.cell? ⟨v8.heap.size, 1, none⟩ = some (.int .i64 xD) := (o10_9.1 1).trans (by go_simp)
          have f10_9 : ∀ o, v10.frozen? ⟨v8.heap.size, o, none⟩ = false := fun o => (o10_9.2.1 o).trans (by go_simp)
          have s10_9 : v8.heap.size < v10.heap.size := o10_9.2.2
          have o10_10 := own_stays hb10 (b := v9.heap.size) (by first | assumption | (simp; done) | (simp; omega) | omega)
          have n10_10_0 : v10.cell? ⟨v9.heap.size, 0, none⟩ = some (.int .i64 yN) := (o10_10.1 0).trans (by go_simp)
          have n10_10_1 : v10.cell? ⟨v9.heap.size, 1, none⟩ = some (.int .i64 yD) := (o10_10.1 1).trans (by go_simp)
          have f10_10 : ∀ o, v10.frozen? ⟨v9.heap.size, o, none⟩ = false := fun o => (o10_10.2.1 o).trans (by go_simp)
          have s10_10 : v9.heap.size < v10.heap.size := o10_10.2.2
          have HBx := HB9.out
          have HB10 := Lib.hid (show Below w.heap.size w v10 from bl_call (by repeat (with_reducible (first | exact Below.refl _ _ | assumption | refine bl_alloc ?_ _ | refine bl_drewN ?_ _ | refine bl_drew ?_ | refine bl_call ?_ (by assumption) | (refine bl_setCell ?_ _ (Nat.le_refl _)) | (refine bl_setCell ?_ _ (by first | omega | (simp; done) | (simp; omega)))))) hb10)
          clear HBx
          clear hb10 o10_0 o10_1 o10_2 o10_3 o10_4 o10_5 o10_6 o10_7 o10_8 o10_9 o10_10 n9_0_0 n9_0_1 s9_0 n9_1_0 n9_1_1 s9_1 n9_2_0 n9_2_1 s9_2 n9_3_0 n9_3_1 f9_3 s9_3 n9_4_0 n9_4_1 f9_4 s9_4 n9_5_0 n9_5_1 f9_5 s9_5 n9_6_0 n9_6_1 f9_6 s9_6 n9_7_0 n9_7_1 f9_7 s9_7 n9_8_0 n9_8_1 f9_8 s9_8 n9_9_0 n9_9_1 f9_9 s9_9 HB9
          have le_8 : w.heap.size ≤ v10.heap.size := by omega
          have ne_8_0_0 : ¬ w.heap.size = v10.heap.size := by omega
          have nf_8_0_0 : ¬ v10.heap.size = w.heap.size := by omega
          have ne_8_1_0 : ¬ w.heap.size + 1 = v10.heap.size := by omega
          have nf_8_1_0 : ¬ v10.heap.size = w.heap.size + 1 := by omega
          have ne_8_2_0 : ¬ w.heap.size + 2 = v10.heap.size := by omega
          have nf_8_2_0 : ¬ v10.heap.size = w.heap.size + 2 := by omega
          have ne_8_2_1 : ¬ w.heap.size + 1 + 1 = v10.heap.size := by omega
          have nf_8_2_1 : ¬ v10.heap.size = w.heap.size + 1 + 1 := by omega
          have ne_8_3_0 : ¬ v2.heap.size = v10.heap.size := by omega
          have nf_8_3_0 : ¬ v10.heap.size = v2.heap.size := by omega
          have ne_8_4_0 : ¬ v3.heap.size = v10.heap.size := by omega
          have nf_8_4_0 : ¬ v10.heap.size = v3.heap.size := by omega
          have ne_8_5_0 : ¬ v4.heap.size = v10.heap.size := by omega
          have nf_8_5_0 : ¬ v10.heap.size = v4.heap.size := by omega
          have ne_8_6_0 : ¬ v5.heap.size = v10.heap.size := by omega
          have nf_8_6_0 : ¬ v10.heap.size = v5.heap.size := by omega
          have ne_8_7_0 : ¬ v6.heap.size = v10.heap.size := by omega
          have nf_8_7_0 : ¬ v10.heap.size = v6.heap.size := by omega
          have ne_8_8_0 : ¬ v7.heap.size = v10.heap.size := by omega
          have nf_8_8_0 : ¬ v10.heap.size = v7.heap.size := by omega
          have ne_8_9_0 : ¬ v8.heap.size = v10.heap.size := by omega
          have nf_8_9_0 : ¬ v10.heap.size = v8.heap.size := by omega
          have ne_8_10_0 : ¬ v9.heap.size = v10.heap.size := by omega
          have nf_8_10_0 : ¬ v10.heap.size = v9.heap.size := by omega
          go_wp2_with fail
          refine (Z2.out _ ?_).mono ?_
          · have HBz := HB10.out
            exact TB.out.go (by repeat (with_reducible (first | exact Below.refl _ _ | assumption | refine bl_alloc ?_ _ | refine bl_drewN ?_ _ | refine bl_drew ?_ | refine bl_call ?_ (by assumption) | (refine bl_setCell ?_ _ (Nat.le_refl _)) | (refine bl_setCell ?_ _ (by first | omega | (simp; done) | (simp; omega))))))
          rintro e v11 ⟨rfl, hb11⟩
          have o11_0 := own_stays hb11 (b := w.heap.size) (by first | assumption | (simp; done) | (simp; omega) | omega)
          have n11_0_0 : v11.cell? ⟨w.heap.size, 0, none⟩ = some (.int .i64 n) := (o11_0.1 0).trans (by go_simp)
          have n11_0_1 : v11.cell? ⟨w.heap.size, 1, none⟩ = some (.int .i64 d) := (o11_0.1 1).trans (by go_simp)
          have s11_0 : w.heap.size < v11.heap.size := o11_0.2.2
          have o11_1 := own_stays hb11 (b := w.heap.size + 1) (by first | assumption | (simp; done) | (simp; omega) | omega)
          have n11_1_0 : v11.cell? ⟨w.heap.size + 1, 0, none⟩ = some (.int .i64 m) := (o11_1.1 0).trans (by go_simp)
          have n11_1_1 : v11.cell? ⟨w.heap.size + 1, 1, none⟩ = some (.int .i64 c) := (o11_1.1 1).trans (by go_simp)
          have s11_1 : w.heap.size + 1 < v11.heap.size := o11_1.2.2
          have o11_2 := own_stays hb11 (b := w.heap.size + 2) (by first | assumption | (simp; done) | (simp; omega) | omega)
          have n11_2_0 : v11.cell? ⟨w.heap.size + 2, 0, none⟩ = some (.int .i64 k) := (o11_2.1 0).trans (by go_simp)
          have n11_2_1 : v11.cell? ⟨w.heap.size + 2, 1, none⟩ = some (.int .i64 f) := (o11_2.1 1).trans (by go_simp)
          have s11_2 : w.heap.size + 2 < v11.heap.size := o11_2.2.2
          have o11_3 := own_stays hb11 (b := v2.heap.size) (by first | assumption | (simp; done) | (simp; omega) | omega)
          have n11_3_0 : v11.cell? ⟨v2.heap.size, 0, none⟩ = some (.int .i64 sN) := (o11_3.1 0).trans (by go_simp)
          have n11_3_1 : v11.cell? ⟨v2.heap.size, 1, none⟩ = some (.int .i64 sD) := (o11_3.1 1).trans (by go_simp)
          have f11_3 : ∀ o, v11.frozen? ⟨v2.heap.size, o, none⟩ = false := fun o => (o11_3.2.1 o).trans (by go_simp)
          have s11_3 : v2.heap.size < v11.heap.size := o11_3.2.2
          have o11_4 := own_stays hb11 (b := v3.heap.size) (by first | assumption | (simp; done) | (simp; omega) | omega)
          have n11_4_0 : v11.cell? ⟨v3.heap.size, 0, none⟩ = some (.int .i64 sN) := (o11_4.1 0).trans (by go_simp)
          have n11_4_1 : v11.cell? ⟨v3.heap.size, 1, none⟩ = some (.int .i64 sD) := (o11_4.1 1).trans (by go_simp)
          have f11_4 : ∀ o, v11.frozen? ⟨v3.heap.size, o, none⟩ = false := fun o => (o11_4.2.1 o).trans (by go_simp)
          have s11_4 : v3.heap.size < v11.heap.size := o11_4.2.2
          have o11_5 := own_stays hb11 (b := v4.heap.size) (by first | assumption | (simp; done) | (simp; omega) | omega)
          have n11_5_0 : v11.cell? ⟨v4.heap.size, 0, none⟩ = some (.int .i64 pN) := (o11_5.1 0).trans (by go_simp)
          have n11_5_1 : v11.cell? ⟨v4.heap.size, 1, none⟩ = some (.int .i64 pD) := (o11_5.1 1).trans (by go_simp)
          have f11_5 : ∀ o, v11.frozen? ⟨v4.heap.size, o, none⟩ = false := fun o => (o11_5.2.1 o).trans (by go_simp)
          have s11_5 : v4.heap.size < v11.heap.size := o11_5.2.2
          have o11_6 := own_stays hb11 (b := v5.heap.size) (by first | assumption | (simp; done) | (simp; omega) | omega)
          have n11_6_0 : v11.cell? ⟨v5.heap.size, 0, none⟩ = some (.int .i64 pN) := (o11_6.1 0).trans (by go_simp)
          have n11_6_1 : v11.cell? ⟨v5.heap.size, 1, none⟩ = some (.int .i64 pD) := (o11_6.1 1).trans (by go_simp)
          have f11_6 : ∀ o, v11.frozen? ⟨v5.heap.size, o, none⟩ = false := fun o => (o11_6.2.1 o).trans (by go_simp)
          have s11_6 : v5.heap.size < v11.heap.size := o11_6.2.2
          have o11_7 := own_stays hb11 (b := v6.heap.size) (by first | assumption | (simp; done) | (simp; omega) | omega)
          have n11_7_0 : v11.cell? ⟨v6.heap.size, 0, none⟩ = some (.int .i64 uN) := (o11_7.1 0).trans (by go_simp)
          have n11_7_1 : v11.cell? ⟨v6.heap.size, 1, none⟩ = some (.int .i64 uD) := (o11_7.1 1).trans (by go_simp)
          have f11_7 : ∀ o, v11.frozen? ⟨v6.heap.size, o, none⟩ = false := fun o => (o11_7.2.1 o).trans (by go_simp)
          have s11_7 : v6.heap.size < v11.heap.size := o11_7.2.2
          have o11_8 := own_stays hb11 (b := v7.heap.size) (by first | assumption | (simp; done) | (simp; omega) | omega)
          have n11_8_0 : v11.cell? ⟨v7.heap.size, 0, none⟩ = some (.int .i64 xN) := (o11_8.1 0).trans (by go_simp)
          have n11_8_1 : v11.cell? ⟨v7.heap.size, 1, none⟩ = some (.int .i64 xD) := (o11_8.1 1).trans (by go_simp)
          have f11_8 : ∀ o, v11.frozen? ⟨v7.heap.size, o, none⟩ = false := fun o => (o11_8.2.1 o).trans (by go_simp)
          have s11_8 : v7.heap.size < v11.heap.size := o11_8.2.2
          have o11_9 := own_stays hb11 (b := v8.heap.size) (by first | assumption | (simp; done) | (simp; omega) | omega)
          have n11_9_0 : v11.cell? ⟨v8.heap.size, 0, none⟩ = some (.int .i64 xN) := (o11_9.1 0).trans (by go_simp)
          have n11_9_1 : v11.cell? ⟨v8.heap.size, 1, none⟩ = some (.int .i64 xD) := (o11_9.1 1).trans (by go_simp)
          have f11_9 : ∀ o, v11.frozen? ⟨v8.heap.size, o, none⟩ = false := fun o => (o11_9.2.1 o).trans (by go_simp)
          have s11_9 : v8.heap.size < v11.heap.size := o11_9.2.2
          have o11_10 := own_stays hb11 (b := v9.heap.size) (by first | assumption | (simp; done) | (simp; omega) | omega)
          have n11_10_0 : v11.cell? ⟨v9.heap.size, 0, none⟩ = some (.int .i64 yN) := (o11_10.1 0).trans (by go_simp)
          have n11_10_1 : v11.cell? ⟨v9.heap.size, 1, none⟩ = some (.int .i64 yD) := (o11_10.1 1).trans (by go_simp)
          have f11_10 : ∀ o, v11.frozen? ⟨v9.heap.size, o, none⟩ = false := fun o => (o11_10.2.1 o).trans (by go_simp)
          have s11_10 : v9.heap.size < v11.heap.size := o11_10.2.2
          have o11_11 := own_stays hb11 (b := v10.heap.size) (by first | assumption | (simp; done) | (simp; omega) | omega)
          have n11_11_0 : v11.cell? ⟨v10.heap.size, 0, none⟩ = some (.int .i64 zN) := (o11_11.1 0).trans (by go_simp)
          have n11_11_1 : v11.cell? ⟨v10.heap.size, 1, none⟩ = some (.int .i64 zD) := (o11_11.1 1).trans (by go_simp)
          have f11_11 : ∀ o, v11.frozen? ⟨v10.heap.size, o, none⟩ = false := fun o => (o11_11.2.1 o).trans (by go_simp)
          have s11_11 : v10.heap.size < v11.heap.size := o11_11.2.2
          have HBx := HB10.out
          have HB11 := Lib.hid (show Below w.heap.size w v11 from bl_call (by repeat (with_reducible (first | exact Below.refl _ _ | assumption | refine bl_alloc ?_ _ | refine bl_drewN ?_ _ | refine bl_drew ?_ | refine bl_call ?_ (by assumption) | (refine bl_setCell ?_ _ (Nat.le_refl _)) | (refine bl_setCell ?_ _ (by first | omega | (simp; done) | (simp; omega)))))) hb11)
          clear HBx
          clear hb11 o11_0 o11_1 o11_2 o11_3 o11_4 o11_5 o11_6 o11_7 o11_8 o11_9 o11_10 o11_11 n10_0_0 n10_0_1 s10_0 n10_1_0 n10_1_1 s10_1 n10_2_0 n10_2_1 s10_2 n10_3_0 n10_3_1 f10_3 s10_3 n10_4_0 n10_4_1 f10_4 s10_4 n10_5_0 n10_5_1 f10_5 s10_5 n10_6_0 n10_6_1 f10_6 s10_6 n10_7_0 n10_7_1 f10_7 s10_7 n10_8_0 n10_8_1 f10_8 s10_8 n10_9_0 n10_9_1 f10_9 s10_9 n10_10_0 n10_10_1 f10_10 s10_10 HB10
          have le_9 : w.heap.size ≤ v11.heap.size := by omega
          have ne_9_0_0 : ¬ w.heap.size = v11.heap.size := by omega
          have nf_9_0_0 : ¬ v11.heap.size = w.heap.size := by omega
          have ne_9_1_0 : ¬ w.heap.size + 1 = v11.heap.size := by omega
          have nf_9_1_0 : ¬ v11.heap.size = w.heap.size + 1 := by omega
          have ne_9_2_0 : ¬ w.heap.size + 2 = v11.heap.size := by omega
          have nf_9_2_0 : ¬ v11.heap.size = w.heap.size + 2 := by omega
          have ne_9_2_1 : ¬ w.heap.size + 1 + 1 = v11.heap.size := by omega
          have nf_9_2_1 : ¬ v11.heap.size = w.heap.size + 1 + 1 := by omega
          have ne_9_3_0 : ¬ v2.heap.size = v11.heap.size := by omega
          have nf_9_3_0 : ¬ v11.heap.size = v2.heap.size := by omega
          have ne_9_4_0 : ¬ v3.heap.size = v11.heap.size := by omega
          have nf_9_4_0 : ¬ v11.heap.size = v3.heap.size := by omega
          have ne_9_5_0 : ¬ v4.heap.size = v11.heap.size := by omega
          have nf_9_5_0 : ¬ v11.heap.size = v4.heap.size := by omega
          have ne_9_6_0 : ¬ v5.heap.size = v11.heap.size := by omega
          have nf_9_6_0 : ¬ v11.heap.size = v5.heap.size := by omega
          have ne_9_7_0 : ¬ v6.heap.size = v11.heap.size := by omega
          have nf_9_7_0 : ¬ v11.heap.size = v6.heap.size := by omega
          have ne_9_8_0 : ¬ v7.heap.size = v11.heap.size := by omega
          have nf_9_8_0 : ¬ v11.heap.size = v7.heap.size := by omega
          have ne_9_9_0 : ¬ v8.heap.size = v11.heap.size := by omega
          have nf_9_9_0 : ¬ v11.heap.size = v8.heap.size := by omega
          have ne_9_10_0 : ¬ v9.heap.size = v11.heap.size := by omega
          have nf_9_10_0 : ¬ v11.heap.size = v9.heap.size := by omega
          have ne_9_11_0 : ¬ v10.heap.size = v11.heap.size := by omega
          have nf_9_11_0 : ¬ v11.heap.size = v10.heap.size := by omega
          go_wp2
          go_ret
          have HBz := HB11.out
          exact ⟨ret_b (by first | rfl | (simp; done)), (by repeat (with_reducible (first | exact Below.refl _ _ | assumption | refine bl_alloc ?_ _ | refine bl_drewN ?_ _ | refine bl_drew ?_ | refine bl_call ?_ (by assumption) | (refine bl_setCell ?_ _ (Nat.le_refl _)) | (refine bl_setCell ?_ _ (by first | omega | (simp; done) | (simp; omega))))))⟩
        · have z_yE : (yE == 0) = false := by simpa using h_yE
          clear h_yE
          go_wp2
          go_ret
          have HBz := HB9.out
          exact ⟨ret_b (by first | rfl | (simp; done)), (by repeat (with_reducible (first | exact Below.refl _ _ | assumption | refine bl_alloc ?_ _ | refine bl_drewN ?_ _ | refine bl_drew ?_ | refine bl_call ?_ (by assumption) | (refine bl_setCell ?_ _ (Nat.le_refl _)) | (refine bl_setCell ?_ _ (by first | omega | (simp; done) | (simp; omega))))))⟩
      · have z_pE : (pE == 0) = false := by simpa using h_pE
        clear h_pE
        go_wp2
        go_ret
        have HBz := HB9.out
        exact ⟨ret_b (by first | rfl | (simp; done)), (by repeat (with_reducible (first | exact Below.refl _ _ | assumption | refine bl_alloc ?_ _ | refine bl_drewN ?_ _ | refine bl_drew ?_ | refine bl_call ?_ (by assumption) | (refine bl_setCell ?_ _ (Nat.le_refl _)) | (refine bl_setCell ?_ _ (by first | omega | (simp; done) | (simp; omega))))))⟩
    · have z_uE : (uE == 0) = false := by simpa using h_uE
      clear h_uE
      go_wp2_with fail
      refine (M3.out _).mono ?_
      rintro e v7 ⟨rfl, hb7⟩
      have o7_0 := own_stays hb7 (b := w.heap.size) (by first | assumption | (simp; done) | (simp; omega) | omega)
      have n7_0_0 : v7.cell? ⟨w.heap.size, 0, none⟩ = some (.int .i64 n) := (o7_0.1 0).trans (by go_simp)
      have n7_0_1 : v7.cell? ⟨w.heap.size, 1, none⟩ = some (.int .i64 d) := (o7_0.1 1).trans (by go_simp)
      have s7_0 : w.heap.size < v7.heap.size := o7_0.2.2
      have o7_1 := own_stays hb7 (b := w.heap.size + 1) (by first | assumption | (simp; done) | (simp; omega) | omega)
      have n7_1_0 : v7.cell? ⟨w.heap.size + 1, 0, none⟩ = some (.int .i64 m) := (o7_1.1 0).trans (by go_simp)
      have n7_1_1 : v7.cell? ⟨w.heap.size + 1, 1, none⟩ = some (.int .i64 c) := (o7_1.1 1).trans (by go_simp)
      have s7_1 : w.heap.size + 1 < v7.heap.size := o7_1.2.2
      have o7_2 := own_stays hb7 (b := w.heap.size + 2) (by first | assumption | (simp; done) | (simp; omega) | omega)
      have n7_2_0 : v7.cell? ⟨w.heap.size + 2, 0, none⟩ = some (.int .i64 k) := (o7_2.1 0).trans (by go_simp)
      have n7_2_1 : v7.cell? ⟨w.heap.size + 2, 1, none⟩ = some (.int .i64 f) := (o7_2.1 1).trans (by go_simp)
      have s7_2 : w.heap.size + 2 < v7.heap.size := o7_2.2.2
      have o7_3 := own_stays hb7 (b := v2.heap.size) (by first | assumption | (simp; done) | (simp; omega) | omega)
      have n7_3_0 : v7.cell? ⟨v2.heap.size, 0, none⟩ = some (.int .i64 sN) := (o7_3.1 0).trans (by go_simp)
      have n7_3_1 : v7.cell? ⟨v2.heap.size, 1, none⟩ = some (.int .i64 sD) := (o7_3.1 1).trans (by go_simp)
      have f7_3 : ∀ o, v7.frozen? ⟨v2.heap.size, o, none⟩ = false := fun o => (o7_3.2.1 o).trans (by go_simp)
      have s7_3 : v2.heap.size < v7.heap.size := o7_3.2.2
      have o7_4 := own_stays hb7 (b := v3.heap.size) (by first | assumption | (simp; done) | (simp; omega) | omega)
      have n7_4_0 : v7.cell? ⟨v3.heap.size, 0, none⟩ = some (.int .i64 sN) := (o7_4.1 0).trans (by go_simp)
      have n7_4_1 : v7.cell? ⟨v3.heap.size, 1, none⟩ = some (.int .i64 sD) := (o7_4.1 1).trans (by go_simp)
      have f7_4 : ∀ o, v7.frozen? ⟨v3.heap.size, o, none⟩ = false := fun o => (o7_4.2.1 o).trans (by go_simp)
      have s7_4 : v3.heap.size < v7.heap.size := o7_4.2.2
      have o7_5 := own_stays hb7 (b := v4.heap.size) (by first | assumption | (simp; done) | (simp; omega) | omega)
      have n7_5_0 : v7.cell? ⟨v4.heap.size, 0, none⟩ = some (.int .i64 pN) := (o7_5.1 0).trans (by go_simp)
      have n7_5_1 : v7.cell? ⟨v4.heap.size, 1, none⟩ = some (.int .i64 pD) := (o7_5.1 1).trans (by go_simp)
      have f7_5 : ∀ o, v7.frozen? ⟨v4.heap.size, o, none⟩ = false := fun o => (o7_5.2.1 o).trans (by go_simp)
      have s7_5 : v4.heap.size < v7.heap.size := o7_5.2.2
      have o7_6 := own_stays hb7 (b := v5.heap.size) (by first | assumption | (simp; done) | (simp; omega) | omega)
      have n7_6_0 : v7.cell? ⟨v5.heap.size, 0, none⟩ = some (.int .i64 pN) := (o7_6.1 0).trans (by go_simp)
      have n7_6_1 : v7.cell? ⟨v5.heap.size, 1, none⟩ = some (.int .i64 pD) := (o7_6.1 1).trans (by go_simp)
      have f7_6 : ∀ o, v7.frozen? ⟨v5.heap.size, o, none⟩ = false := fun o => (o7_6.2.1 o).trans (by go_simp)
      have s7_6 : v5.heap.size < v7.heap.size := o7_6.2.2
      have o7_7 := own_stays hb7 (b := v6.heap.size) (by first | assumption | (simp; done) | (simp; omega) | omega)
      have n7_7_0 : v7.cell? ⟨v6.heap.size, 0, none⟩ = some (.int .i64 uN) := (o7_7.1 0).trans (by go_simp)
      have n7_7_1 : v7.cell? ⟨v6.heap.size, 1, none⟩ = some (.int .i64 uD) := (o7_7.1 1).trans (by go_simp)
      have f7_7 : ∀ o, v7.frozen? ⟨v6.heap.size, o, none⟩ = false := fun o => (o7_7.2.1 o).trans (by go_simp)
      have s7_7 : v6.heap.size < v7.heap.size := o7_7.2.2
      have HBx := HB6.out
      have HB7 := Lib.hid (show Below w.heap.size w v7 from bl_call (by repeat (with_reducible (first | exact Below.refl _ _ | assumption | refine bl_alloc ?_ _ | refine bl_drewN ?_ _ | refine bl_drew ?_ | refine bl_call ?_ (by assumption) | (refine bl_setCell ?_ _ (Nat.le_refl _)) | (refine bl_setCell ?_ _ (by first | omega | (simp; done) | (simp; omega)))))) hb7)
      clear HBx
      clear hb7 o7_0 o7_1 o7_2 o7_3 o7_4 o7_5 o7_6 o7_7 n6_0_0 n6_0_1 s6_0 n6_1_0 n6_1_1 s6_1 n6_2_0 n6_2_1 s6_2 n6_3_0 n6_3_1 f6_3 s6_3 n6_4_0 n6_4_1 f6_4 s6_4 n6_5_0 n6_5_1 f6_5 s6_5 n6_6_0 n6_6_1 f6_6 s6_6 HB6
      have le_5 : w.heap.size ≤ v7.heap.size := by omega
      have ne_5_0_0 : ¬ w.heap.size = v7.heap.size := by omega
      have nf_5_0_0 : ¬ v7.heap.size = w.heap.size := by omega
      have ne_5_1_0 : ¬ w.heap.size + 1 = v7.heap.size := by omega
      have nf_5_1_0 : ¬ v7.heap.size = w.heap.size + 1 := by omega
      have ne_5_2_0 : ¬ w.heap.size + 2 = v7.heap.size := by omega
      have nf_5_2_0 : ¬ v7.heap.size = w.heap.size + 2 := by omega
      have ne_5_2_1 : ¬ w.heap.size + 1 + 1 = v7.heap.size := by omega
      have nf_5_2_1 : ¬ v7.heap.size = w.heap.size + 1 + 1 := by omega
      have ne_5_3_0 : ¬ v2.heap.size = v7.heap.size := by omega
      have nf_5_3_0 : ¬ v7.heap.size = v2.heap.size := by omega
      have ne_5_4_0 : ¬ v3.heap.size = v7.heap.size := by omega
      have nf_5_4_0 : ¬ v7.heap.size = v3.heap.size := by omega
      have ne_5_5_0 : ¬ v4.heap.size = v7.heap.size := by omega
      have nf_5_5_0 : ¬ v7.heap.size = v4.heap.size := by omega
      have ne_5_6_0 : ¬ v5.heap.size = v7.heap.size := by omega
      have nf_5_6_0 : ¬ v7.heap.size = v5.heap.size := by omega
      have ne_5_7_0 : ¬ v6.heap.size = v7.heap.size := by omega
      have nf_5_7_0 : ¬ v7.heap.size = v6.heap.size := by omega
      by_cases h_pE : pE = 0
      · subst h_pE
        by_cases h_yE : yE = 0
        · subst h_yE
          go_wp2
          go_ret
          have HBz := HB7.out
          exact ⟨ret_b (by first | rfl | (simp; done)), (by repeat (with_reducible (first | exact Below.refl _ _ | assumption | refine bl_alloc ?_ _ | refine bl_drewN ?_ _ | refine bl_drew ?_ | refine bl_call ?_ (by assumption) | (refine bl_setCell ?_ _ (Nat.le_refl _)) | (refine bl_setCell ?_ _ (by first | omega | (simp; done) | (simp; omega))))))⟩
        · have z_yE : (yE == 0) = false := by simpa using h_yE
          clear h_yE
          go_wp2
          go_ret
          have HBz := HB7.out
          exact ⟨ret_b (by first | rfl | (simp; done)), (by repeat (with_reducible (first | exact Below.refl _ _ | assumption | refine bl_alloc ?_ _ | refine bl_drewN ?_ _ | refine bl_drew ?_ | refine bl_call ?_ (by assumption) | (refine bl_setCell ?_ _ (Nat.le_refl _)) | (refine bl_setCell ?_ _ (by first | omega | (simp; done) | (simp; omega))))))⟩
      · have z_pE : (pE == 0) = false := by simpa using h_pE
        clear h_pE
        go_wp2
        go_ret
        have HBz := HB7.out
        exact ⟨ret_b (by first | rfl | (simp; done)), (by repeat (with_reducible (first | exact Below.refl _ _ | assumption | refine bl_alloc ?_ _ | refine bl_drewN ?_ _ | refine bl_drew ?_ | refine bl_call ?_ (by assumption) | (refine bl_setCell ?_ _ (Nat.le_refl _)) | (refine bl_setCell ?_ _ (by first | omega | (simp; done) | (simp; omega))))))⟩
  · have z_sE : (sE == 0) = false := by simpa using h_sE
    clear h_sE
    go_wp2_with fail
    refine (M3.out _).mono ?_
    rintro e v7 ⟨rfl, hb7⟩
    have o7_0 := own_stays hb7 (b := w.heap.size) (by first | assumption | (simp; done) | (simp; omega) | omega)
    have n7_0_0 : v7.cell? ⟨w.heap.size, 0, none⟩ = some (.int .i64 n) := (o7_0.1 0).trans (by go_simp)
    have n7_0_1 : v7.cell? ⟨w.heap.size, 1, none⟩ = some (.int .i64 d) := (o7_0.1 1).trans (by go_simp)
    have s7_0 : w.heap.size < v7.heap.size := o7_0.2.2
    have o7_1 := own_stays hb7 (b := w.heap.size + 1) (by first | assumption | (simp; done) | (simp; omega) | omega)
    have n7_1_0 : v7.cell? ⟨w.heap.size + 1, 0, none⟩ = some (.int .i64 m) := (o7_1.1 0).trans (by go_simp)
    have n7_1_1 : v7.cell? ⟨w.heap.size + 1, 1, none⟩ = some (.int .i64 c) := (o7_1.1 1).trans (by go_simp)
    have s7_1 : w.heap.size + 1 < v7.heap.size := o7_1.2.2
    have o7_2 := own_stays hb7 (b := w.heap.size + 2) (by first | assumption | (simp; done) | (simp; omega) | omega)
    have n7_2_0 : v7.cell? ⟨w.heap.size + 2, 0, none⟩ = some (.int .i64 k) := (o7_2.1 0).trans (by go_simp)
    have n7_2_1 : v7.cell? ⟨w.heap.size + 2, 1, none⟩ = some (.int .i64 f) := (o7_2.1 1).trans (by go_simp)
    have s7_2 : w.heap.size + 2 < v7.heap.size := o7_2.2.2
    have o7_3 := own_stays hb7 (b := v2.heap.size) (by first | assumption | (simp; done) | (simp; omega) | omega)
    have n7_3_0 : v7.cell? ⟨v2.heap.size, 0, none⟩ = some (.int .i64 sN) := (o7_3.1 0).trans (by go_simp)
    have n7_3_1 : v7.cell? ⟨v2.heap.size, 1, none⟩ = some (.int .i64 sD) := (o7_3.1 1).trans (by go_simp)
    have f7_3 : ∀ o, v7.frozen? ⟨v2.heap.size, o, none⟩ = false := fun o => (o7_3.2.1 o).trans (by go_simp)
    have s7_3 : v2.heap.size < v7.heap.size := o7_3.2.2
    have o7_4 := own_stays hb7 (b := v3.heap.size) (by first | assumption | (simp; done) | (simp; omega) | omega)
    have n7_4_0 : v7.cell? ⟨v3.heap.size, 0, none⟩ = some (.int .i64 sN) := (o7_4.1 0).trans (by go_simp)
    have n7_4_1 : v7.cell? ⟨v3.heap.size, 1, none⟩ = some (.int .i64 sD) := (o7_4.1 1).trans (by go_simp)
    have f7_4 : ∀ o, v7.frozen? ⟨v3.heap.size, o, none⟩ = false := fun o => (o7_4.2.1 o).trans (by go_simp)
    have s7_4 : v3.heap.size < v7.heap.size := o7_4.2.2
    have o7_5 := own_stays hb7 (b := v4.heap.size) (by first | assumption | (simp; done) | (simp; omega) | omega)
    have n7_5_0 : v7.cell? ⟨v4.heap.size, 0, none⟩ = some (.int .i64 pN) := (o7_5.1 0).trans (by go_simp)
    have n7_5_1 : v7.cell? ⟨v4.heap.size, 1, none⟩ = some (.int .i64 pD) := (o7_5.1 1).trans (by go_simp)
    have f7_5 : ∀ o, v7.frozen? ⟨v4.heap.size, o, none⟩ = false := fun o => (o7_5.2.1 o).trans (by go_simp)
    have s7_5 : v4.heap.size < v7.heap.size := o7_5.2.2
    have o7_6 := own_stays hb7 (b := v5.heap.size) (by first | assumption | (simp; done) | (simp; omega) | omega)
    have n7_6_0 : v7.cell? ⟨v5.heap.size, 0, none⟩ = some (.int .i64 pN) := (o7_6.1 0).trans (by go_simp)
    have n7_6_1 : v7.cell? ⟨v5.heap.size, 1, none⟩ = some (.int .i64 pD) := (o7_6.1 1).trans (by go_simp)
    have f7_6 : ∀ o, v7.frozen? ⟨v5.heap.size, o, none⟩ = false := fun o => (o7_6.2.1 o).trans (by go_simp)
    have s7_6 : v5.heap.size < v7.heap.size := o7_6.2.2
    have o7_7 := own_stays hb7 (b := v6.heap.size) (by first | assumption | (simp; done) | (simp; omega) | omega)
    have n7_7_0 : v7.cell? ⟨v6.heap.size, 0, none⟩ = some (.int .i64 uN) := (o7_7.1 0).trans (by go_simp)
    have n7_7_1 : v7.cell? ⟨v6.heap.size, 1, none⟩ = some (.int .i64 uD) := (o7_7.1 1).trans (by go_simp)
    have f7_7 : ∀ o, v7.frozen? ⟨v6.heap.size, o, none⟩ = false := fun o => (o7_7.2.1 o).trans (by go_simp)
    have s7_7 : v6.heap.size < v7.heap.size := o7_7.2.2
    have HBx := HB6.out
    have HB7 := Lib.hid (show Below w.heap.size w v7 from bl_call (by repeat (with_reducible (first | exact Below.refl _ _ | assumption | refine bl_alloc ?_ _ | refine bl_drewN ?_ _ | refine bl_drew ?_ | refine bl_call ?_ (by assumption) | (refine bl_setCell ?_ _ (Nat.le_refl _)) | (refine bl_setCell ?_ _ (by first | omega | (simp; done) | (simp; omega)))))) hb7)
    clear HBx
    clear hb7 o7_0 o7_1 o7_2 o7_3 o7_4 o7_5 o7_6 o7_7 n6_0_0 n6_0_1 s6_0 n6_1_0 n6_1_1 s6_1 n6_2_0 n6_2_1 s6_2 n6_3_0 n6_3_1 f6_3 s6_3 n6_4_0 n6_4_1 f6_4 s6_4 n6_5_0 n6_5_1 f6_5 s6_5 n6_6_0 n6_6_1 f6_6 s6_6 HB6
    have le_5 : w.heap.size ≤ v7.heap.size := by omega
    have ne_5_0_0 : ¬ w.heap.size = v7.heap.size := by omega
    have nf_5_0_0 : ¬ v7.heap.size = w.heap.size := by omega
    have ne_5_1_0 : ¬ w.heap.size + 1 = v7.heap.size := by omega
    have nf_5_1_0 : ¬ v7.heap.size = w.heap.size + 1 := by omega
    have ne_5_2_0 : ¬ w.heap.size + 2 = v7.heap.size := by omega
    have nf_5_2_0 : ¬ v7.heap.size = w.heap.size + 2 := by omega
    have ne_5_2_1 : ¬ w.heap.size + 1 + 1 = v7.heap.size := by omega
    have nf_5_2_1 : ¬ v7.heap.size = w.heap.size + 1 + 1 := by omega
    have ne_5_3_0 : ¬ v2.heap.size = v7.heap.size := by omega
    have nf_5_3_0 : ¬ v7.heap.size = v2.heap.size := by omega
    have ne_5_4_0 : ¬ v3.heap.size = v7.heap.size := by omega
    have nf_5_4_0 : ¬ v7.heap.size = v3.heap.size := by omega
    have ne_5_5_0 : ¬ v4.heap.size = v7.heap.size := by omega
    have nf_5_5_0 : ¬ v7.heap.size = v4.heap.size := by omega
    have ne_5_6_0 : ¬ v5.heap.size = v7.heap.size := by omega
    have nf_5_6_0 : ¬ v7.heap.size = v5.heap.size := by omega
    have ne_5_7_0 : ¬ v6.heap.size = v7.heap.size := by omega
    have nf_5_7_0 : ¬ v7.heap.size = v6.heap.size := by omega
    go_wp2
    go_ret
    have HBz := HB7.out
    exact ⟨ret_b (by first | rfl | (simp; done)), (by repeat (with_reducible (first | exact Below.refl _ _ | assumption | refine bl_alloc ?_ _ | refine bl_drewN ?_ _ | refine bl_drew ?_ | refine bl_call ?_ (by assumption) | (refine bl_setCell ?_ _ (Nat.le_refl _)) | (refine bl_setCell ?_ _ (by first | omega | (simp; done) | (simp; omega))))))⟩
end Go.Proofs.YtkejohmghacdhaaDoor
