/- Contracts of r03: Mul, Add, Sub, Div. Printed by mkr3ops.py. -/
import Derived.Test.YtkejohmghacdhaaDoorRatL
namespace Go.Proofs.YtkejohmghacdhaaDoor
set_option linter.unusedVariables false
set_option linter.unusedSimpArgs false
open Go.RowKit
theorem alloc_here (W : World) (x : Obj) : (W.alloc x).heap[W.heap.size]? = some x := by unfold World.alloc; simp
theorem cp_no {n d m c : Int} (h : cpB n d m c = false) : cpE n d m c = 1 := by unfold cpE; rw [h]; rfl
theorem cp_yes {n d m c : Int} (h : cpB n d m c = true) : cpE n d m c = 0 ∧ ckB n d = true ∧ ckB m c = true := by
  refine ⟨by unfold cpE; rw [h]; rfl, ?_⟩
  unfold cpB at h
  rwa [Bool.and_eq_true] at h
set_option maxRecDepth 100000 in
set_option maxHeartbeats 4000000 in
theorem r3mul (n d m c : Int) (w : World) (hn : In n) (hd : In d) (hm : In m) (hc : In c) :
    Calls Tryd.prog 14 #[ratA n d, ratA m c] w fun e w' => e = .returned (.tuple #[ratA (vN (cpB n d m c) (arN (n * m) (d * c))) (vN (cpB n d m c) (arD (n * m) (d * c))), .int .i64 (vE (cpB n d m c) (arE (n * m) (d * c)))]) ∧ Below w.heap.size w w' := by
  have MY := fun w => r3may n d m c w hn hd hm hc
  cases hv : cpB n d m c
  · rw [cp_no hv] at MY
    rw [vN_no, vN_no, vE_no]
    have MY := Lib.hid MY
    clear hv
    go_enter Tryd.func14, Tryd.ntmps14
    go_wp2_with fail
    refine (MY.out _).mono ?_
    rintro e w1 ⟨rfl, hb1⟩
    obtain ⟨hc1_0, hf1_0, hz1_0⟩ := own_stays hb1 (b := w.heap.size + 2) (by first | (simp; done) | (simp; omega) | omega)
    go_wp2_with fail
    refine bodyPost_ret (v := .tuple #[ratA 0 0, .int .i64 1]) (by simp [results, Tryd.results14, go_sem, *]) rfl ⟨rfl, ?_⟩
    exact (by repeat (with_reducible (first | exact Below.refl _ _ | assumption | refine bl_alloc ?_ _ | refine bl_drewN ?_ _ | refine bl_drew ?_ | refine bl_call ?_ (by assumption) | (refine bl_setCell ?_ _ (Nat.le_refl _)) | (refine bl_setCell ?_ _ (by first | omega | (simp; done) | (simp; omega))))))
  · obtain ⟨e0, k1, k2⟩ := cp_yes hv
    rw [e0] at MY
    rw [vN_yes, vN_yes, vE_yes]
    have MY := Lib.hid MY
    have M := Lib.hid (fun w => rmul_any n m w hn hm)
    have L := Lib.hid (fun w => lowest_any (n * m) d c w (prod_InW hn hm) hd hc (by have := (ck_true k1).1; omega) (by have := (ck_true k2).1; omega))
    clear hv e0 k1 k2
    generalize arN (n * m) (d * c) = rN at *
    generalize arD (n * m) (d * c) = rD at *
    generalize arE (n * m) (d * c) = rE at *
    generalize n * m = p at *
    have q0 : ((w.alloc (Obj.cells #[.int .i64 n, .int .i64 d] 23)).alloc (Obj.cells #[.int .i64 m, .int .i64 c] 23)).cell? ⟨w.heap.size, 0, none⟩ = some (.int .i64 n) := by go_simp
    have q1 : ((w.alloc (Obj.cells #[.int .i64 n, .int .i64 d] 23)).alloc (Obj.cells #[.int .i64 m, .int .i64 c] 23)).cell? ⟨w.heap.size, 1, none⟩ = some (.int .i64 d) := by go_simp
    have q2 : ((w.alloc (Obj.cells #[.int .i64 n, .int .i64 d] 23)).alloc (Obj.cells #[.int .i64 m, .int .i64 c] 23)).cell? ⟨w.heap.size + 1, 0, none⟩ = some (.int .i64 m) := by go_simp
    have q3 : ((w.alloc (Obj.cells #[.int .i64 n, .int .i64 d] 23)).alloc (Obj.cells #[.int .i64 m, .int .i64 c] 23)).cell? ⟨w.heap.size + 1, 1, none⟩ = some (.int .i64 c) := by go_simp
    have Q := Lib.hid (And.intro (rcell q0) (And.intro (rcell q1) (And.intro (rcell q2) (rcell q3))))
    clear q0 q1 q2 q3
    have hs : w.heap.size + 1 + 1 = ((w.alloc (Obj.cells #[.int .i64 n, .int .i64 d] 23)).alloc (Obj.cells #[.int .i64 m, .int .i64 c] 23)).heap.size := by simp
    have HS := Lib.hid hs
    clear hs
    go_enter Tryd.func14, Tryd.ntmps14
    go_wp2_with fail
    refine (MY.out _).mono ?_
    rintro e w1 ⟨rfl, hb1⟩
    have HX : w1.heap[w.heap.size + 1 + 1]? = some (Obj.cells #[.int .i64 0, .int .i64 0] 23) := by
      rw [hb1.block (w.heap.size + 1 + 1) (by simp), HS.out]; exact alloc_here _ _
    have hz1 : w.heap.size + 1 + 1 < w1.heap.size := by have := hb1.size; simp at this; omega
    go_wp2_with fail
    refine region_t0 (fun _ => none) (st1 12 99) (fun _ => true) ((w.alloc (Obj.cells #[.int .i64 n, .int .i64 d] 23)).alloc (Obj.cells #[.int .i64 m, .int .i64 c] 23)) (upd (fun _ => none) 99 (w.heap.size + 1 + 1) (Obj.cells #[.int .i64 0, .int .i64 0] 23)) (fresh_one (bl_call (bl_alloc (Below.refl _ _) _) hb1) (Nat.le_of_eq HS.out.symm) hz1 HX) (by kernel_rfl) (by kernel_rfl) (kinds_old (by decide)) ?_
    clear HX hb1
    obtain ⟨q0, q1, q2, q3⟩ := Q.out
    repeat ((first | refine wpT_op true rfl rfl rfl (fun K hK => ?_) | refine wpT_op false rfl rfl rfl (fun K hK => ?_)); go_simp; first | (refine hK _ ?_; clear hK K) | (apply Exists.intro; refine ⟨fun _ => ?_, hK _ ?_⟩; (first | with_reducible exact Calls.stay (M.out _) | with_reducible exact Calls.stay (L.out _)); clear hK K))
    refine wpT_st 99 (w.heap.size + 1 + 1) _ (Obj.cells #[.int .i64 rN, .int .i64 rD] 23) rfl rfl (upd_same _ _ _ _) (Nat.le_of_eq HS.out.symm) ⟨fun y => rfl, fun w1 hb1 hlt hx => ⟨_, ?_, touch_set2 hx (.int .i64 rN) (.int .i64 rD)⟩⟩ ?_
    · have k0 := laid_cell hx 0 _ rfl
      have k1 := laid_cell hx 1 _ rfl
      have f0 := laid_free hx 0
      have f1 := laid_free hx 1
      clear hx hb1 q0 q1 q2 q3
      go_simp
    repeat ((first | refine wpT_op true rfl rfl rfl (fun K hK => ?_) | refine wpT_op false rfl rfl rfl (fun K hK => ?_)); go_simp; first | (refine hK _ ?_; clear hK K) | (apply Exists.intro; refine ⟨fun _ => ?_, hK _ ?_⟩; (fail); clear hK K))
    refine wpT_nil ?_
    intro w2 hfr
    obtain ⟨l1, l2, l3⟩ := hfr.low 99 (w.heap.size + 1 + 1) _ (upd_same _ _ _ _)
    have k0 := laid_cell l3 0 _ rfl
    have k1 := laid_cell l3 1 _ rfl
    have hb2 := hfr.below
    clear l3 hfr q0 q1 q2 q3
    go_wp2
    refine bodyPost_ret (v := .tuple #[ratA rN rD, .int .i64 rE]) (by simp [results, Tryd.results14, go_sem, k0, k1]) rfl ⟨rfl, ?_⟩
    exact (by repeat (with_reducible (first | exact Below.refl _ _ | assumption | refine bl_alloc ?_ _ | refine bl_drewN ?_ _ | refine bl_drew ?_ | refine bl_call ?_ (by assumption) | (refine bl_setCell ?_ _ (Nat.le_refl _)) | (refine bl_setCell ?_ _ (by first | omega | (simp; done) | (simp; omega))))))
theorem prod_bd' {a b : Int} (ha : In a) (h0 : 0 ≤ b) (h1 : b ≤ 9223372036854775807) : -(9223372036854775808 * 9223372036854775807) ≤ a * b ∧ a * b ≤ 9223372036854775808 * 9223372036854775807 := by
  have h : (a * b).natAbs ≤ 9223372036854775808 * 9223372036854775807 := by
    rw [Int.natAbs_mul]; exact Nat.mul_le_mul (by unfold In at ha; omega) (by omega)
  omega
set_option maxRecDepth 100000 in
set_option maxHeartbeats 8000000 in
theorem r3add (n d m c : Int) (w : World) (hn : In n) (hd : In d) (hm : In m) (hc : In c) :
    Calls Tryd.prog 11 #[ratA n d, ratA m c] w fun e w' => e = .returned (.tuple #[ratA (vN (cpB n d m c) (arN (smP false n d m c) (d * c))) (vN (cpB n d m c) (arD (smP false n d m c) (d * c))), .int .i64 (vE (cpB n d m c) (arE (smP false n d m c) (d * c)))]) ∧ Below w.heap.size w w' := by
  have MY := fun w => r3may n d m c w hn hd hm hc
  cases hv : cpB n d m c
  · rw [cp_no hv] at MY
    rw [vN_no, vN_no, vE_no]
    have MY := Lib.hid MY
    clear hv
    go_enter Tryd.func11, Tryd.ntmps11
    go_wp2_with fail
    refine (MY.out _).mono ?_
    rintro e w1 ⟨rfl, hb1⟩
    obtain ⟨hc1_0, hf1_0, hz1_0⟩ := own_stays hb1 (b := w.heap.size + 2) (by first | (simp; done) | (simp; omega) | omega)
    go_wp2_with fail
    refine bodyPost_ret (v := .tuple #[ratA 0 0, .int .i64 1]) (by simp [results, Tryd.results11, go_sem, *]) rfl ⟨rfl, ?_⟩
    exact (by repeat (with_reducible (first | exact Below.refl _ _ | assumption | refine bl_alloc ?_ _ | refine bl_drewN ?_ _ | refine bl_drew ?_ | refine bl_call ?_ (by assumption) | (refine bl_setCell ?_ _ (Nat.le_refl _)) | (refine bl_setCell ?_ _ (by first | omega | (simp; done) | (simp; omega))))))
  · obtain ⟨e0, k1, k2⟩ := cp_yes hv
    rw [e0] at MY
    rw [vN_yes, vN_yes, vE_yes]
    have MY := Lib.hid MY
    have d0 := (ck_true k1).1
    have c0 := (ck_true k2).1
    have b1 := prod_bd' hn (show 0 ≤ c by omega) hc.2
    have b2 := prod_bd' hm (show 0 ≤ d by omega) hd.2
    have M1 := Lib.hid (fun w => rmul_any n c w hn hc)
    have M2 := Lib.hid (fun w => rmul_any m d w hm hd)
    have wx := prod_InW hn hc
    have wy := prod_InW hm hd
    have wt : InW (n * c + m * d) := by unfold InW; omega
    have AD := fun w => radd_any (n * c) (m * d) w wx wy
    rw [(capW_of wt).1, (capW_of wt).2] at AD
    have LW := Lib.hid (fun w => lowest_any (n * c + m * d) d c w wt hd hc (by omega) (by omega))
    rw [show smP false n d m c = n * c + m * d from rfl]
    generalize arN (n * c + m * d) (d * c) = rN at *
    generalize arD (n * c + m * d) (d * c) = rD at *
    generalize arE (n * c + m * d) (d * c) = rE at *
    generalize n * c + m * d = t at *
    generalize n * c = x at *
    generalize m * d = y at *
    have AD := Lib.hid AD
    clear hv e0 k1 k2 d0 c0 b1 b2 wx wy wt hn hd hm hc
    go_enter Tryd.func11, Tryd.ntmps11
    go_wp2_with fail
    refine (MY.out _).mono ?_
    rintro e v1 ⟨rfl, hb1⟩
    have o1_0 := own_stays hb1 (b := w.heap.size) (by first | assumption | (simp; done) | (simp; omega) | omega)
    have n1_0_0 : v1.cell? ⟨w.heap.size, 0, none⟩ = some (.int .i64 n) := (o1_0.1 0).trans (by go_simp)
    have n1_0_1 : v1.cell? ⟨w.heap.size, 1, none⟩ = some (.int .i64 d) := (o1_0.1 1).trans (by go_simp)
    have s1_0 : w.heap.size < v1.heap.size := o1_0.2.2
    have o1_1 := own_stays hb1 (b := w.heap.size + 1) (by first | assumption | (simp; done) | (simp; omega) | omega)
    have n1_1_0 : v1.cell? ⟨w.heap.size + 1, 0, none⟩ = some (.int .i64 m) := (o1_1.1 0).trans (by go_simp)
    have n1_1_1 : v1.cell? ⟨w.heap.size + 1, 1, none⟩ = some (.int .i64 c) := (o1_1.1 1).trans (by go_simp)
    have s1_1 : w.heap.size + 1 < v1.heap.size := o1_1.2.2
    have o1_2 := own_stays hb1 (b := w.heap.size + 2) (by first | assumption | (simp; done) | (simp; omega) | omega)
    have n1_2_0 : v1.cell? ⟨w.heap.size + 2, 0, none⟩ = some (.int .i64 0) := (o1_2.1 0).trans (by go_simp)
    have n1_2_1 : v1.cell? ⟨w.heap.size + 2, 1, none⟩ = some (.int .i64 0) := (o1_2.1 1).trans (by go_simp)
    have f1_2 : ∀ o, v1.frozen? ⟨w.heap.size + 2, o, none⟩ = false := fun o => (o1_2.2.1 o).trans (by go_simp)
    have s1_2 : w.heap.size + 2 < v1.heap.size := o1_2.2.2
    have HB1 := Lib.hid (show Below w.heap.size w v1 from bl_call (by repeat (with_reducible (first | exact Below.refl _ _ | assumption | refine bl_alloc ?_ _ | refine bl_drewN ?_ _ | refine bl_drew ?_ | refine bl_call ?_ (by assumption) | (refine bl_setCell ?_ _ (Nat.le_refl _)) | (refine bl_setCell ?_ _ (by first | omega | (simp; done) | (simp; omega)))))) hb1)
    clear hb1 o1_0 o1_1 o1_2 
    go_wp2_with fail
    refine region_t (lay1 14 (Obj.cells #[.int .i64 0, .int .u64 0] 50)) (st1 15 14) (cl1 14) (fun W => W.cell? ⟨w.heap.size, 0, none⟩ = some (.int .i64 n) ∧ W.cell? ⟨w.heap.size, 1, none⟩ = some (.int .i64 d) ∧ W.cell? ⟨w.heap.size + 1, 0, none⟩ = some (.int .i64 m) ∧ W.cell? ⟨w.heap.size + 1, 1, none⟩ = some (.int .i64 c) ∧ W.cell? ⟨w.heap.size + 2, 0, none⟩ = some (.int .i64 0) ∧ W.cell? ⟨w.heap.size + 2, 1, none⟩ = some (.int .i64 0) ∧ (∀ o, W.frozen? ⟨w.heap.size + 2, o, none⟩ = false) ∧ w.heap.size + 2 < W.heap.size ∧ Below w.heap.size w W) ⟨by go_simp, by go_simp, by go_simp, by go_simp, by go_simp, by go_simp, by go_simp, by go_simp, by (have HBx := HB1.out; exact (by repeat (with_reducible (first | exact Below.refl _ _ | assumption | refine bl_alloc ?_ _ | refine bl_drewN ?_ _ | refine bl_drew ?_ | refine bl_call ?_ (by assumption) | (refine bl_setCell ?_ _ (Nat.le_refl _)) | (refine bl_setCell ?_ _ (by first | omega | (simp; done) | (simp; omega)))))))⟩ (by kernel_rfl) (by kernel_rfl) (kinds1 (by kernel_rfl)) ?_
    intro W ⟨k0, k1, k2, k3, k4, k5, k6, k7, hbW⟩
    clear n1_0_0 n1_0_1 s1_0 n1_1_0 n1_1_1 s1_1 n1_2_0 n1_2_1 f1_2 s1_2 HB1
    have K := Lib.hid (And.intro k0 (And.intro k1 (And.intro k2 (And.intro k3 (And.intro k4 (And.intro k5 k6))))))
    clear k4 k5 k6
    replace k0 := rcell k0
    replace k1 := rcell k1
    replace k2 := rcell k2
    replace k3 := rcell k3
    repeat ((first | refine wpT_op true rfl rfl rfl (fun K hK => ?_) | refine wpT_op false rfl rfl rfl (fun K hK => ?_)); go_simp; first | (refine hK _ ?_; clear hK K) | (apply Exists.intro; refine ⟨fun _ => ?_, hK _ ?_⟩; (first | with_reducible exact Calls.stay (M1.out _) | with_reducible exact Calls.stay (M2.out _) | with_reducible exact Calls.stay (AD.out _)); clear hK K))
    refine wpT_lay _ rfl ?_ ?_
    · exact ⟨fun a w => by go_simp, fun y => rfl⟩
    intro na hna
    refine wpT_st 14 na _ (Obj.cells #[.int .i64 (hiW t), .int .u64 (loW t)] 50) rfl rfl (upd_same _ _ _ _) hna ⟨fun y => rfl, fun w1 hb1 hlt hx => ⟨_, ?_, touch_set2 hx (.int .i64 (hiW t)) (.int .u64 (loW t))⟩⟩ ?_
    · have c0 := laid_cell hx 0 _ rfl
      have c1 := laid_cell hx 1 _ rfl
      have f0 := laid_free hx 0
      have f1 := laid_free hx 1
      clear hx hb1
      go_simp
    repeat ((first | refine wpT_op true rfl rfl rfl (fun K hK => ?_) | refine wpT_op false rfl rfl rfl (fun K hK => ?_)); go_simp; first | (refine hK _ ?_; clear hK K) | (apply Exists.intro; refine ⟨fun _ => ?_, hK _ ?_⟩; (fail); clear hK K))
    refine wpT_nil ?_
    intro v0 hfr
    obtain ⟨_, la, la3⟩ := hfr.low 14 na _ (upd_same _ _ _ _)
    have hb0 := hfr.below
    have a0 := laid_cell la3 0 _ rfl
    have a1 := laid_cell la3 1 _ rfl
    obtain ⟨K0, K1, K2, K3, K4, K5, K6⟩ := K.out
    have o0 := own_stays hb0 (b := w.heap.size) (by first | assumption | (simp; done) | (simp; omega) | omega)
    have o1 := own_stays hb0 (b := w.heap.size + 1) (by first | assumption | (simp; done) | (simp; omega) | omega)
    have o2 := own_stays hb0 (b := w.heap.size + 2) (by first | assumption | (simp; done) | (simp; omega) | omega)
    have j0 : v0.cell? ⟨w.heap.size, 0, none⟩ = some (.int .i64 n) := (o0.1 0).trans K0
    have j1 : v0.cell? ⟨w.heap.size, 1, none⟩ = some (.int .i64 d) := (o0.1 1).trans K1
    have j2 : v0.cell? ⟨w.heap.size + 1, 0, none⟩ = some (.int .i64 m) := (o1.1 0).trans K2
    have j3 : v0.cell? ⟨w.heap.size + 1, 1, none⟩ = some (.int .i64 c) := (o1.1 1).trans K3
    have j4 : v0.cell? ⟨w.heap.size + 2, 0, none⟩ = some (.int .i64 0) := (o2.1 0).trans K4
    have j5 : v0.cell? ⟨w.heap.size + 2, 1, none⟩ = some (.int .i64 0) := (o2.1 1).trans K5
    have j6 : ∀ o, v0.frozen? ⟨w.heap.size + 2, o, none⟩ = false := fun o => (o2.2.1 o).trans (K6 o)
    have j7 : w.heap.size + 2 < v0.heap.size := o2.2.2
    have HB0 := Lib.hid (show Below w.heap.size w v0 from bl_call hbW hb0)
    clear K K0 K1 K2 K3 K4 K5 K6 hfr la3 hb0 o0 o1 o2 hbW k0 k1 k2 k3 k7 hna
    go_wp2_with fail
    refine (LW.out _).mono ?_
    rintro e v2 ⟨rfl, hb2⟩
    have o2_0 := own_stays hb2 (b := w.heap.size + 2) (by first | assumption | (simp; done) | (simp; omega) | omega)
    have n2_0_0 : v2.cell? ⟨w.heap.size + 2, 0, none⟩ = some (.int .i64 0) := (o2_0.1 0).trans (by go_simp)
    have n2_0_1 : v2.cell? ⟨w.heap.size + 2, 1, none⟩ = some (.int .i64 0) := (o2_0.1 1).trans (by go_simp)
    have f2_0 : ∀ o, v2.frozen? ⟨w.heap.size + 2, o, none⟩ = false := fun o => (o2_0.2.1 o).trans (by go_simp)
    have s2_0 : w.heap.size + 2 < v2.heap.size := o2_0.2.2
    have HBx := HB0.out
    have HB2 := Lib.hid (show Below w.heap.size w v2 from bl_call (by repeat (with_reducible (first | exact Below.refl _ _ | assumption | refine bl_alloc ?_ _ | refine bl_drewN ?_ _ | refine bl_drew ?_ | refine bl_call ?_ (by assumption) | (refine bl_setCell ?_ _ (Nat.le_refl _)) | (refine bl_setCell ?_ _ (by first | omega | (simp; done) | (simp; omega)))))) hb2)
    clear HBx
    clear hb2 o2_0 j0 j1 j2 j3 j4 j5 j6 j7 a0 a1 la HB0
    go_wp2
    refine bodyPost_ret (v := .tuple #[ratA rN rD, .int .i64 rE]) (by simp [results, Tryd.results11, go_sem, *]) rfl ⟨rfl, ?_⟩
    have := HB2.out
    exact (by repeat (with_reducible (first | exact Below.refl _ _ | assumption | refine bl_alloc ?_ _ | refine bl_drewN ?_ _ | refine bl_drew ?_ | refine bl_call ?_ (by assumption) | (refine bl_setCell ?_ _ (Nat.le_refl _)) | (refine bl_setCell ?_ _ (by first | omega | (simp; done) | (simp; omega))))))
set_option maxRecDepth 100000 in
set_option maxHeartbeats 8000000 in
theorem r3sub (n d m c : Int) (w : World) (hn : In n) (hd : In d) (hm : In m) (hc : In c) :
    Calls Tryd.prog 13 #[ratA n d, ratA m c] w fun e w' => e = .returned (.tuple #[ratA (vN (cpB n d m c) (arN (smP true n d m c) (d * c))) (vN (cpB n d m c) (arD (smP true n d m c) (d * c))), .int .i64 (vE (cpB n d m c) (arE (smP true n d m c) (d * c)))]) ∧ Below w.heap.size w w' := by
  have MY := fun w => r3may n d m c w hn hd hm hc
  cases hv : cpB n d m c
  · rw [cp_no hv] at MY
    rw [vN_no, vN_no, vE_no]
    have MY := Lib.hid MY
    clear hv
    go_enter Tryd.func13, Tryd.ntmps13
    go_wp2_with fail
    refine (MY.out _).mono ?_
    rintro e w1 ⟨rfl, hb1⟩
    obtain ⟨hc1_0, hf1_0, hz1_0⟩ := own_stays hb1 (b := w.heap.size + 2) (by first | (simp; done) | (simp; omega) | omega)
    go_wp2_with fail
    refine bodyPost_ret (v := .tuple #[ratA 0 0, .int .i64 1]) (by simp [results, Tryd.results13, go_sem, *]) rfl ⟨rfl, ?_⟩
    exact (by repeat (with_reducible (first | exact Below.refl _ _ | assumption | refine bl_alloc ?_ _ | refine bl_drewN ?_ _ | refine bl_drew ?_ | refine bl_call ?_ (by assumption) | (refine bl_setCell ?_ _ (Nat.le_refl _)) | (refine bl_setCell ?_ _ (by first | omega | (simp; done) | (simp; omega))))))
  · obtain ⟨e0, k1, k2⟩ := cp_yes hv
    rw [e0] at MY
    rw [vN_yes, vN_yes, vE_yes]
    have MY := Lib.hid MY
    have d0 := (ck_true k1).1
    have c0 := (ck_true k2).1
    have b1 := prod_bd' hn (show 0 ≤ c by omega) hc.2
    have b2 := prod_bd' hm (show 0 ≤ d by omega) hd.2
    have M1 := Lib.hid (fun w => rmul_any n c w hn hc)
    have M2 := Lib.hid (fun w => rmul_any m d w hm hd)
    have wx := prod_InW hn hc
    have wy : InW (m * d) := prod_InW hm hd
    have wz : InW (-(m * d)) := by unfold InW; omega
    have wt : InW (n * c + -(m * d)) := by unfold InW; omega
    have NG := fun w => rneg_any (m * d) w wy
    rw [(capW_of wz).1, (capW_of wz).2] at NG
    have AD := fun w => radd_any (n * c) (-(m * d)) w wx wz
    rw [(capW_of wt).1, (capW_of wt).2] at AD
    have LW := Lib.hid (fun w => lowest_any (n * c + -(m * d)) d c w wt hd hc (by omega) (by omega))
    rw [show smP true n d m c = n * c + -(m * d) by unfold smP; rw [if_pos rfl, Int.neg_mul]]
    generalize arN (n * c + -(m * d)) (d * c) = rN at *
    generalize arD (n * c + -(m * d)) (d * c) = rD at *
    generalize arE (n * c + -(m * d)) (d * c) = rE at *
    generalize n * c + -(m * d) = t at *
    generalize n * c = x at *
    generalize -(m * d) = z at *
    generalize m * d = y at *
    have AD := Lib.hid AD
    have NG := Lib.hid NG
    clear hv e0 k1 k2 d0 c0 b1 b2 wx wy wz wt hn hd hm hc
    go_enter Tryd.func13, Tryd.ntmps13
    go_wp2_with fail
    refine (MY.out _).mono ?_
    rintro e v1 ⟨rfl, hb1⟩
    have o1_0 := own_stays hb1 (b := w.heap.size) (by first | assumption | (simp; done) | (simp; omega) | omega)
    have n1_0_0 : v1.cell? ⟨w.heap.size, 0, none⟩ = some (.int .i64 n) := (o1_0.1 0).trans (by go_simp)
    have n1_0_1 : v1.cell? ⟨w.heap.size, 1, none⟩ = some (.int .i64 d) := (o1_0.1 1).trans (by go_simp)
    have s1_0 : w.heap.size < v1.heap.size := o1_0.2.2
    have o1_1 := own_stays hb1 (b := w.heap.size + 1) (by first | assumption | (simp; done) | (simp; omega) | omega)
    have n1_1_0 : v1.cell? ⟨w.heap.size + 1, 0, none⟩ = some (.int .i64 m) := (o1_1.1 0).trans (by go_simp)
    have n1_1_1 : v1.cell? ⟨w.heap.size + 1, 1, none⟩ = some (.int .i64 c) := (o1_1.1 1).trans (by go_simp)
    have s1_1 : w.heap.size + 1 < v1.heap.size := o1_1.2.2
    have o1_2 := own_stays hb1 (b := w.heap.size + 2) (by first | assumption | (simp; done) | (simp; omega) | omega)
    have n1_2_0 : v1.cell? ⟨w.heap.size + 2, 0, none⟩ = some (.int .i64 0) := (o1_2.1 0).trans (by go_simp)
    have n1_2_1 : v1.cell? ⟨w.heap.size + 2, 1, none⟩ = some (.int .i64 0) := (o1_2.1 1).trans (by go_simp)
    have f1_2 : ∀ o, v1.frozen? ⟨w.heap.size + 2, o, none⟩ = false := fun o => (o1_2.2.1 o).trans (by go_simp)
    have s1_2 : w.heap.size + 2 < v1.heap.size := o1_2.2.2
    have HB1 := Lib.hid (show Below w.heap.size w v1 from bl_call (by repeat (with_reducible (first | exact Below.refl _ _ | assumption | refine bl_alloc ?_ _ | refine bl_drewN ?_ _ | refine bl_drew ?_ | refine bl_call ?_ (by assumption) | (refine bl_setCell ?_ _ (Nat.le_refl _)) | (refine bl_setCell ?_ _ (by first | omega | (simp; done) | (simp; omega)))))) hb1)
    clear hb1 o1_0 o1_1 o1_2 
    go_wp2_with fail
    refine (M2.out _).mono ?_
    rintro e v2 ⟨rfl, hb2⟩
    have o2_0 := own_stays hb2 (b := w.heap.size) (by first | assumption | (simp; done) | (simp; omega) | omega)
    have n2_0_0 : v2.cell? ⟨w.heap.size, 0, none⟩ = some (.int .i64 n) := (o2_0.1 0).trans (by go_simp)
    have n2_0_1 : v2.cell? ⟨w.heap.size, 1, none⟩ = some (.int .i64 d) := (o2_0.1 1).trans (by go_simp)
    have s2_0 : w.heap.size < v2.heap.size := o2_0.2.2
    have o2_1 := own_stays hb2 (b := w.heap.size + 1) (by first | assumption | (simp; done) | (simp; omega) | omega)
    have n2_1_0 : v2.cell? ⟨w.heap.size + 1, 0, none⟩ = some (.int .i64 m) := (o2_1.1 0).trans (by go_simp)
    have n2_1_1 : v2.cell? ⟨w.heap.size + 1, 1, none⟩ = some (.int .i64 c) := (o2_1.1 1).trans (by go_simp)
    have s2_1 : w.heap.size + 1 < v2.heap.size := o2_1.2.2
    have o2_2 := own_stays hb2 (b := w.heap.size + 2) (by first | assumption | (simp; done) | (simp; omega) | omega)
    have n2_2_0 : v2.cell? ⟨w.heap.size + 2, 0, none⟩ = some (.int .i64 0) := (o2_2.1 0).trans (by go_simp)
    have n2_2_1 : v2.cell? ⟨w.heap.size + 2, 1, none⟩ = some (.int .i64 0) := (o2_2.1 1).trans (by go_simp)
    have f2_2 : ∀ o, v2.frozen? ⟨w.heap.size + 2, o, none⟩ = false := fun o => (o2_2.2.1 o).trans (by go_simp)
    have s2_2 : w.heap.size + 2 < v2.heap.size := o2_2.2.2
    have HBx := HB1.out
    have HB2 := Lib.hid (show Below w.heap.size w v2 from bl_call (by repeat (with_reducible (first | exact Below.refl _ _ | assumption | refine bl_alloc ?_ _ | refine bl_drewN ?_ _ | refine bl_drew ?_ | refine bl_call ?_ (by assumption) | (refine bl_setCell ?_ _ (Nat.le_refl _)) | (refine bl_setCell ?_ _ (by first | omega | (simp; done) | (simp; omega)))))) hb2)
    clear HBx
    clear hb2 o2_0 o2_1 o2_2 n1_0_0 n1_0_1 s1_0 n1_1_0 n1_1_1 s1_1 n1_2_0 n1_2_1 f1_2 s1_2 HB1
    go_wp2_with fail
    refine (NG.out _).mono ?_
    rintro e v3 ⟨rfl, hb3⟩
    have o3_0 := own_stays hb3 (b := w.heap.size) (by first | assumption | (simp; done) | (simp; omega) | omega)
    have n3_0_0 : v3.cell? ⟨w.heap.size, 0, none⟩ = some (.int .i64 n) := (o3_0.1 0).trans (by go_simp)
    have n3_0_1 : v3.cell? ⟨w.heap.size, 1, none⟩ = some (.int .i64 d) := (o3_0.1 1).trans (by go_simp)
    have s3_0 : w.heap.size < v3.heap.size := o3_0.2.2
    have o3_1 := own_stays hb3 (b := w.heap.size + 1) (by first | assumption | (simp; done) | (simp; omega) | omega)
    have n3_1_0 : v3.cell? ⟨w.heap.size + 1, 0, none⟩ = some (.int .i64 m) := (o3_1.1 0).trans (by go_simp)
    have n3_1_1 : v3.cell? ⟨w.heap.size + 1, 1, none⟩ = some (.int .i64 c) := (o3_1.1 1).trans (by go_simp)
    have s3_1 : w.heap.size + 1 < v3.heap.size := o3_1.2.2
    have o3_2 := own_stays hb3 (b := w.heap.size + 2) (by first | assumption | (simp; done) | (simp; omega) | omega)
    have n3_2_0 : v3.cell? ⟨w.heap.size + 2, 0, none⟩ = some (.int .i64 0) := (o3_2.1 0).trans (by go_simp)
    have n3_2_1 : v3.cell? ⟨w.heap.size + 2, 1, none⟩ = some (.int .i64 0) := (o3_2.1 1).trans (by go_simp)
    have f3_2 : ∀ o, v3.frozen? ⟨w.heap.size + 2, o, none⟩ = false := fun o => (o3_2.2.1 o).trans (by go_simp)
    have s3_2 : w.heap.size + 2 < v3.heap.size := o3_2.2.2
    have HBx := HB2.out
    have HB3 := Lib.hid (show Below w.heap.size w v3 from bl_call (by repeat (with_reducible (first | exact Below.refl _ _ | assumption | refine bl_alloc ?_ _ | refine bl_drewN ?_ _ | refine bl_drew ?_ | refine bl_call ?_ (by assumption) | (refine bl_setCell ?_ _ (Nat.le_refl _)) | (refine bl_setCell ?_ _ (by first | omega | (simp; done) | (simp; omega)))))) hb3)
    clear HBx
    clear hb3 o3_0 o3_1 o3_2 n2_0_0 n2_0_1 s2_0 n2_1_0 n2_1_1 s2_1 n2_2_0 n2_2_1 f2_2 s2_2 HB2
    go_wp2_with fail
    refine region_t (lay1 10 (Obj.cells #[.int .i64 0, .int .u64 0] 50)) (st1 11 10) (cl1 10) (fun W => W.cell? ⟨w.heap.size, 0, none⟩ = some (.int .i64 n) ∧ W.cell? ⟨w.heap.size, 1, none⟩ = some (.int .i64 d) ∧ W.cell? ⟨w.heap.size + 1, 0, none⟩ = some (.int .i64 m) ∧ W.cell? ⟨w.heap.size + 1, 1, none⟩ = some (.int .i64 c) ∧ W.cell? ⟨w.heap.size + 2, 0, none⟩ = some (.int .i64 0) ∧ W.cell? ⟨w.heap.size + 2, 1, none⟩ = some (.int .i64 0) ∧ W.cell? ⟨v3.heap.size, 0, none⟩ = some (.int .i64 (hiW z)) ∧ W.cell? ⟨v3.heap.size, 1, none⟩ = some (.int .u64 (loW z)) ∧ (∀ o, W.frozen? ⟨w.heap.size + 2, o, none⟩ = false) ∧ w.heap.size + 2 < W.heap.size ∧ Below w.heap.size w W) ⟨by go_simp, by go_simp, by go_simp, by go_simp, by go_simp, by go_simp, by go_simp, by go_simp, by go_simp, by go_simp, by (have HBx := HB3.out; exact (by repeat (with_reducible (first | exact Below.refl _ _ | assumption | refine bl_alloc ?_ _ | refine bl_drewN ?_ _ | refine bl_drew ?_ | refine bl_call ?_ (by assumption) | (refine bl_setCell ?_ _ (Nat.le_refl _)) | (refine bl_setCell ?_ _ (by first | omega | (simp; done) | (simp; omega)))))))⟩ (by kernel_rfl) (by kernel_rfl) (kinds1 (by kernel_rfl)) ?_
    intro W ⟨k0, k1, k2, k3, k4, k5, k6, k7, k8, k9, hbW⟩
    clear n3_0_0 n3_0_1 s3_0 n3_1_0 n3_1_1 s3_1 n3_2_0 n3_2_1 f3_2 s3_2 HB3
    have K := Lib.hid (And.intro k0 (And.intro k1 (And.intro k2 (And.intro k3 (And.intro k4 (And.intro k5 k8))))))
    clear k4 k5 k8
    replace k0 := rcell k0
    replace k1 := rcell k1
    replace k2 := rcell k2
    replace k3 := rcell k3
    replace k6 := rcell k6
    replace k7 := rcell k7
    repeat ((first | refine wpT_op true rfl rfl rfl (fun K hK => ?_) | refine wpT_op false rfl rfl rfl (fun K hK => ?_)); go_simp; first | (refine hK _ ?_; clear hK K) | (apply Exists.intro; refine ⟨fun _ => ?_, hK _ ?_⟩; (first | with_reducible exact Calls.stay (M1.out _) | with_reducible exact Calls.stay (AD.out _)); clear hK K))
    refine wpT_lay _ rfl ?_ ?_
    · exact ⟨fun a w => by go_simp, fun y => rfl⟩
    intro na hna
    refine wpT_st 10 na _ (Obj.cells #[.int .i64 (hiW t), .int .u64 (loW t)] 50) rfl rfl (upd_same _ _ _ _) hna ⟨fun y => rfl, fun w1 hb1 hlt hx => ⟨_, ?_, touch_set2 hx (.int .i64 (hiW t)) (.int .u64 (loW t))⟩⟩ ?_
    · have c0 := laid_cell hx 0 _ rfl
      have c1 := laid_cell hx 1 _ rfl
      have f0 := laid_free hx 0
      have f1 := laid_free hx 1
      clear hx hb1
      go_simp
    repeat ((first | refine wpT_op true rfl rfl rfl (fun K hK => ?_) | refine wpT_op false rfl rfl rfl (fun K hK => ?_)); go_simp; first | (refine hK _ ?_; clear hK K) | (apply Exists.intro; refine ⟨fun _ => ?_, hK _ ?_⟩; (fail); clear hK K))
    refine wpT_nil ?_
    intro v0 hfr
    obtain ⟨_, la, la3⟩ := hfr.low 10 na _ (upd_same _ _ _ _)
    have hb0 := hfr.below
    have a0 := laid_cell la3 0 _ rfl
    have a1 := laid_cell la3 1 _ rfl
    obtain ⟨K0, K1, K2, K3, K4, K5, K6⟩ := K.out
    have o0 := own_stays hb0 (b := w.heap.size) (by first | assumption | (simp; done) | (simp; omega) | omega)
    have o1 := own_stays hb0 (b := w.heap.size + 1) (by first | assumption | (simp; done) | (simp; omega) | omega)
    have o2 := own_stays hb0 (b := w.heap.size + 2) (by first | assumption | (simp; done) | (simp; omega) | omega)
    have j0 : v0.cell? ⟨w.heap.size, 0, none⟩ = some (.int .i64 n) := (o0.1 0).trans K0
    have j1 : v0.cell? ⟨w.heap.size, 1, none⟩ = some (.int .i64 d) := (o0.1 1).trans K1
    have j2 : v0.cell? ⟨w.heap.size + 1, 0, none⟩ = some (.int .i64 m) := (o1.1 0).trans K2
    have j3 : v0.cell? ⟨w.heap.size + 1, 1, none⟩ = some (.int .i64 c) := (o1.1 1).trans K3
    have j4 : v0.cell? ⟨w.heap.size + 2, 0, none⟩ = some (.int .i64 0) := (o2.1 0).trans K4
    have j5 : v0.cell? ⟨w.heap.size + 2, 1, none⟩ = some (.int .i64 0) := (o2.1 1).trans K5
    have j6 : ∀ o, v0.frozen? ⟨w.heap.size + 2, o, none⟩ = false := fun o => (o2.2.1 o).trans (K6 o)
    have j7 : w.heap.size + 2 < v0.heap.size := o2.2.2
    have HB0 := Lib.hid (show Below w.heap.size w v0 from bl_call hbW hb0)
    clear K K0 K1 K2 K3 K4 K5 K6 hfr la3 hb0 o0 o1 o2 hbW k0 k1 k2 k3 k6 k7 k9 hna
    go_wp2_with fail
    refine (LW.out _).mono ?_
    rintro e v4 ⟨rfl, hb4⟩
    have o4_0 := own_stays hb4 (b := w.heap.size + 2) (by first | assumption | (simp; done) | (simp; omega) | omega)
    have n4_0_0 : v4.cell? ⟨w.heap.size + 2, 0, none⟩ = some (.int .i64 0) := (o4_0.1 0).trans (by go_simp)
    have n4_0_1 : v4.cell? ⟨w.heap.size + 2, 1, none⟩ = some (.int .i64 0) := (o4_0.1 1).trans (by go_simp)
    have f4_0 : ∀ o, v4.frozen? ⟨w.heap.size + 2, o, none⟩ = false := fun o => (o4_0.2.1 o).trans (by go_simp)
    have s4_0 : w.heap.size + 2 < v4.heap.size := o4_0.2.2
    have HBx := HB0.out
    have HB4 := Lib.hid (show Below w.heap.size w v4 from bl_call (by repeat (with_reducible (first | exact Below.refl _ _ | assumption | refine bl_alloc ?_ _ | refine bl_drewN ?_ _ | refine bl_drew ?_ | refine bl_call ?_ (by assumption) | (refine bl_setCell ?_ _ (Nat.le_refl _)) | (refine bl_setCell ?_ _ (by first | omega | (simp; done) | (simp; omega)))))) hb4)
    clear HBx
    clear hb4 o4_0 j0 j1 j2 j3 j4 j5 j6 j7 a0 a1 la HB0
    go_wp2
    refine bodyPost_ret (v := .tuple #[ratA rN rD, .int .i64 rE]) (by simp [results, Tryd.results13, go_sem, *]) rfl ⟨rfl, ?_⟩
    have := HB4.out
    exact (by repeat (with_reducible (first | exact Below.refl _ _ | assumption | refine bl_alloc ?_ _ | refine bl_drewN ?_ _ | refine bl_drew ?_ | refine bl_call ?_ (by assumption) | (refine bl_setCell ?_ _ (Nat.le_refl _)) | (refine bl_setCell ?_ _ (by first | omega | (simp; done) | (simp; omega))))))
set_option maxRecDepth 100000 in
set_option maxHeartbeats 8000000 in
theorem r3div (n d m c : Int) (w : World) (hn : In n) (hd : In d) (hm : In m) (hc : In c) :
    Calls Tryd.prog 16 #[ratA n d, ratA m c] w fun e w' => e = .returned (.tuple #[ratA (vN (cpB n d m c) (bN n d m c)) (vN (cpB n d m c) (bD n d m c)), .int .i64 (vE (cpB n d m c) (bE n d m c))]) ∧ Below w.heap.size w w' := by
  have MY := fun w => r3may n d m c w hn hd hm hc
  cases hv : cpB n d m c
  · rw [cp_no hv] at MY
    rw [vN_no, vN_no, vE_no]
    have MY := Lib.hid MY
    clear hv
    go_enter Tryd.func16, Tryd.ntmps16
    go_wp2_with fail
    refine (MY.out _).mono ?_
    rintro e w1 ⟨rfl, hb1⟩
    obtain ⟨hc1_0, hf1_0, hz1_0⟩ := own_stays hb1 (b := w.heap.size + 2) (by first | (simp; done) | (simp; omega) | omega)
    go_wp2_with fail
    refine bodyPost_ret (v := .tuple #[ratA 0 0, .int .i64 1]) (by simp [results, Tryd.results16, go_sem, *]) rfl ⟨rfl, ?_⟩
    exact (by repeat (with_reducible (first | exact Below.refl _ _ | assumption | refine bl_alloc ?_ _ | refine bl_drewN ?_ _ | refine bl_drew ?_ | refine bl_call ?_ (by assumption) | (refine bl_setCell ?_ _ (Nat.le_refl _)) | (refine bl_setCell ?_ _ (by first | omega | (simp; done) | (simp; omega))))))
  · obtain ⟨e0, k1, k2⟩ := cp_yes hv
    rw [e0] at MY
    rw [vN_yes, vN_yes, vE_yes]
    have MY := Lib.hid MY
    have d0 := (ck_true k1).1
    have c0 := (ck_true k2).1
    have b1 := prod_bd' hn (show 0 ≤ c by omega) hc.2
    have wx := prod_InW hn hc
    have wz : InW (-(n * c)) := by unfold InW; omega
    have M1 := Lib.hid (fun w => rmul_any n c w hn hc)
    have NG := fun w => rneg_any (n * c) w wx
    rw [(capW_of wz).1, (capW_of wz).2] at NG
    have NG := Lib.hid NG
    have DP : 0 < m → bN n d m c = arN (n * c) (d * m) ∧ bD n d m c = arD (n * c) (d * m) ∧ bE n d m c = arE (n * c) (d * m) := fun h => by
      have e1 : dvP n m c = n * c := by unfold dvP; rw [if_neg (by omega)]
      have e2 : dvD d m = d * m := by unfold dvD; rw [show (m.natAbs : Int) = m by omega]
      unfold bN bD bE; rw [if_neg (by omega), if_neg (by omega), if_neg (by omega), e1, e2]; exact ⟨rfl, rfl, rfl⟩
    have DN : m < 0 → bN n d m c = arN (-(n * c)) (d * -m) ∧ bD n d m c = arD (-(n * c)) (d * -m) ∧ bE n d m c = arE (-(n * c)) (d * -m) := fun h => by
      have e1 : dvP n m c = -(n * c) := by unfold dvP; rw [if_pos h]
      have e2 : dvD d m = d * -m := by unfold dvD; rw [show (m.natAbs : Int) = -m by omega]
      unfold bN bD bE; rw [if_neg (by omega), if_neg (by omega), if_neg (by omega), e1, e2]; exact ⟨rfl, rfl, rfl⟩
    have ml := hm.1
    rcases (show m = 0 ∨ 0 < m ∨ (-9223372036854775808 < m ∧ m < 0) ∨ m = -9223372036854775808 by omega) with m0 | m0 | ⟨m0, m1⟩ | m0
    · subst m0
      rw [show bN n d 0 c = 0 from rfl, show bD n d 0 c = 0 from rfl, show bE n d 0 c = 3 from rfl]
      clear hv e0 k1 k2 d0 c0 b1 wx wz M1 NG DP DN hn hd hm hc ml
      go_enter Tryd.func16, Tryd.ntmps16
      go_wp2_with fail
      refine (MY.out _).mono ?_
      rintro e v1 ⟨rfl, hb1⟩
      have o1_0 := own_stays hb1 (b := w.heap.size) (by first | assumption | (simp; done) | (simp; omega) | omega)
      have n1_0_0 : v1.cell? ⟨w.heap.size, 0, none⟩ = some (.int .i64 n) := (o1_0.1 0).trans (by go_simp)
      have n1_0_1 : v1.cell? ⟨w.heap.size, 1, none⟩ = some (.int .i64 d) := (o1_0.1 1).trans (by go_simp)
      have s1_0 : w.heap.size < v1.heap.size := o1_0.2.2
      have o1_1 := own_stays hb1 (b := w.heap.size + 1) (by first | assumption | (simp; done) | (simp; omega) | omega)
      have n1_1_0 : v1.cell? ⟨w.heap.size + 1, 0, none⟩ = some (.int .i64 0) := (o1_1.1 0).trans (by go_simp)
      have n1_1_1 : v1.cell? ⟨w.heap.size + 1, 1, none⟩ = some (.int .i64 c) := (o1_1.1 1).trans (by go_simp)
      have s1_1 : w.heap.size + 1 < v1.heap.size := o1_1.2.2
      have o1_2 := own_stays hb1 (b := w.heap.size + 2) (by first | assumption | (simp; done) | (simp; omega) | omega)
      have n1_2_0 : v1.cell? ⟨w.heap.size + 2, 0, none⟩ = some (.int .i64 0) := (o1_2.1 0).trans (by go_simp)
      have n1_2_1 : v1.cell? ⟨w.heap.size + 2, 1, none⟩ = some (.int .i64 0) := (o1_2.1 1).trans (by go_simp)
      have f1_2 : ∀ o, v1.frozen? ⟨w.heap.size + 2, o, none⟩ = false := fun o => (o1_2.2.1 o).trans (by go_simp)
      have s1_2 : w.heap.size + 2 < v1.heap.size := o1_2.2.2
      have HB1 := Lib.hid (show Below w.heap.size w v1 from bl_call (by repeat (with_reducible (first | exact Below.refl _ _ | assumption | refine bl_alloc ?_ _ | refine bl_drewN ?_ _ | refine bl_drew ?_ | refine bl_call ?_ (by assumption) | (refine bl_setCell ?_ _ (Nat.le_refl _)) | (refine bl_setCell ?_ _ (by first | omega | (simp; done) | (simp; omega)))))) hb1)
      clear hb1 o1_0 o1_1 o1_2 
      go_wp2
      refine bodyPost_ret (v := .tuple #[ratA 0 0, .int .i64 3]) (by simp [results, Tryd.results16, go_sem, *]) rfl ⟨rfl, ?_⟩
      have := HB1.out
      exact (by repeat (with_reducible (first | exact Below.refl _ _ | assumption | refine bl_alloc ?_ _ | refine bl_drewN ?_ _ | refine bl_drew ?_ | refine bl_call ?_ (by assumption) | (refine bl_setCell ?_ _ (Nat.le_refl _)) | (refine bl_setCell ?_ _ (by first | omega | (simp; done) | (simp; omega))))))
    · rw [(DP m0).1, (DP m0).2.1, (DP m0).2.2]
      have LW := Lib.hid (fun w => lowest_any (n * c) d m w wx hd hm (by omega) m0)
      have mz : (m == 0) = false := by simp; omega
      generalize arN (n * c) (d * m) = rN at *
      generalize arD (n * c) (d * m) = rD at *
      generalize arE (n * c) (d * m) = rE at *
      clear hv e0 k1 k2 d0 c0 b1 wz NG DP DN ml
      generalize n * c = x at *
      clear wx hn hd hm hc
      go_enter Tryd.func16, Tryd.ntmps16
      go_wp2_with fail
      refine (MY.out _).mono ?_
      rintro e v1 ⟨rfl, hb1⟩
      have o1_0 := own_stays hb1 (b := w.heap.size) (by first | assumption | (simp; done) | (simp; omega) | omega)
      have n1_0_0 : v1.cell? ⟨w.heap.size, 0, none⟩ = some (.int .i64 n) := (o1_0.1 0).trans (by go_simp)
      have n1_0_1 : v1.cell? ⟨w.heap.size, 1, none⟩ = some (.int .i64 d) := (o1_0.1 1).trans (by go_simp)
      have s1_0 : w.heap.size < v1.heap.size := o1_0.2.2
      have o1_1 := own_stays hb1 (b := w.heap.size + 1) (by first | assumption | (simp; done) | (simp; omega) | omega)
      have n1_1_0 : v1.cell? ⟨w.heap.size + 1, 0, none⟩ = some (.int .i64 m) := (o1_1.1 0).trans (by go_simp)
      have n1_1_1 : v1.cell? ⟨w.heap.size + 1, 1, none⟩ = some (.int .i64 c) := (o1_1.1 1).trans (by go_simp)
      have s1_1 : w.heap.size + 1 < v1.heap.size := o1_1.2.2
      have o1_2 := own_stays hb1 (b := w.heap.size + 2) (by first | assumption | (simp; done) | (simp; omega) | omega)
      have n1_2_0 : v1.cell? ⟨w.heap.size + 2, 0, none⟩ = some (.int .i64 0) := (o1_2.1 0).trans (by go_simp)
      have n1_2_1 : v1.cell? ⟨w.heap.size + 2, 1, none⟩ = some (.int .i64 0) := (o1_2.1 1).trans (by go_simp)
      have f1_2 : ∀ o, v1.frozen? ⟨w.heap.size + 2, o, none⟩ = false := fun o => (o1_2.2.1 o).trans (by go_simp)
      have s1_2 : w.heap.size + 2 < v1.heap.size := o1_2.2.2
      have HB1 := Lib.hid (show Below w.heap.size w v1 from bl_call (by repeat (with_reducible (first | exact Below.refl _ _ | assumption | refine bl_alloc ?_ _ | refine bl_drewN ?_ _ | refine bl_drew ?_ | refine bl_call ?_ (by assumption) | (refine bl_setCell ?_ _ (Nat.le_refl _)) | (refine bl_setCell ?_ _ (by first | omega | (simp; done) | (simp; omega)))))) hb1)
      clear hb1 o1_0 o1_1 o1_2 
      go_wp2_with fail
      refine (M1.out _).mono ?_
      rintro e v2 ⟨rfl, hb2⟩
      have o2_0 := own_stays hb2 (b := w.heap.size) (by first | assumption | (simp; done) | (simp; omega) | omega)
      have n2_0_0 : v2.cell? ⟨w.heap.size, 0, none⟩ = some (.int .i64 n) := (o2_0.1 0).trans (by go_simp)
      have n2_0_1 : v2.cell? ⟨w.heap.size, 1, none⟩ = some (.int .i64 d) := (o2_0.1 1).trans (by go_simp)
      have s2_0 : w.heap.size < v2.heap.size := o2_0.2.2
      have o2_1 := own_stays hb2 (b := w.heap.size + 1) (by first | assumption | (simp; done) | (simp; omega) | omega)
      have n2_1_0 : v2.cell? ⟨w.heap.size + 1, 0, none⟩ = some (.int .i64 m) := (o2_1.1 0).trans (by go_simp)
      have n2_1_1 : v2.cell? ⟨w.heap.size + 1, 1, none⟩ = some (.int .i64 c) := (o2_1.1 1).trans (by go_simp)
      have s2_1 : w.heap.size + 1 < v2.heap.size := o2_1.2.2
      have o2_2 := own_stays hb2 (b := w.heap.size + 2) (by first | assumption | (simp; done) | (simp; omega) | omega)
      have n2_2_0 : v2.cell? ⟨w.heap.size + 2, 0, none⟩ = some (.int .i64 0) := (o2_2.1 0).trans (by go_simp)
      have n2_2_1 : v2.cell? ⟨w.heap.size + 2, 1, none⟩ = some (.int .i64 0) := (o2_2.1 1).trans (by go_simp)
      have f2_2 : ∀ o, v2.frozen? ⟨w.heap.size + 2, o, none⟩ = false := fun o => (o2_2.2.1 o).trans (by go_simp)
      have s2_2 : w.heap.size + 2 < v2.heap.size := o2_2.2.2
      have HBx := HB1.out
      have HB2 := Lib.hid (show Below w.heap.size w v2 from bl_call (by repeat (with_reducible (first | exact Below.refl _ _ | assumption | refine bl_alloc ?_ _ | refine bl_drewN ?_ _ | refine bl_drew ?_ | refine bl_call ?_ (by assumption) | (refine bl_setCell ?_ _ (Nat.le_refl _)) | (refine bl_setCell ?_ _ (by first | omega | (simp; done) | (simp; omega)))))) hb2)
      clear HBx
      clear hb2 o2_0 o2_1 o2_2 n1_0_0 n1_0_1 s1_0 n1_1_0 n1_1_1 s1_1 n1_2_0 n1_2_1 f1_2 s1_2 HB1
      go_wp2_with fail
      refine (LW.out _).mono ?_
      rintro e v3 ⟨rfl, hb3⟩
      have o3_0 := own_stays hb3 (b := w.heap.size + 2) (by first | assumption | (simp; done) | (simp; omega) | omega)
      have n3_0_0 : v3.cell? ⟨w.heap.size + 2, 0, none⟩ = some (.int .i64 0) := (o3_0.1 0).trans (by go_simp)
      have n3_0_1 : v3.cell? ⟨w.heap.size + 2, 1, none⟩ = some (.int .i64 0) := (o3_0.1 1).trans (by go_simp)
      have f3_0 : ∀ o, v3.frozen? ⟨w.heap.size + 2, o, none⟩ = false := fun o => (o3_0.2.1 o).trans (by go_simp)
      have s3_0 : w.heap.size + 2 < v3.heap.size := o3_0.2.2
      have HBx := HB2.out
      have HB3 := Lib.hid (show Below w.heap.size w v3 from bl_call (by repeat (with_reducible (first | exact Below.refl _ _ | assumption | refine bl_alloc ?_ _ | refine bl_drewN ?_ _ | refine bl_drew ?_ | refine bl_call ?_ (by assumption) | (refine bl_setCell ?_ _ (Nat.le_refl _)) | (refine bl_setCell ?_ _ (by first | omega | (simp; done) | (simp; omega)))))) hb3)
      clear HBx
      clear hb3 o3_0 n2_0_0 n2_0_1 s2_0 n2_1_0 n2_1_1 s2_1 n2_2_0 n2_2_1 f2_2 s2_2 HB2
      go_wp2
      refine bodyPost_ret (v := .tuple #[ratA rN rD, .int .i64 rE]) (by simp [results, Tryd.results16, go_sem, *]) rfl ⟨rfl, ?_⟩
      have := HB3.out
      exact (by repeat (with_reducible (first | exact Below.refl _ _ | assumption | refine bl_alloc ?_ _ | refine bl_drewN ?_ _ | refine bl_drew ?_ | refine bl_call ?_ (by assumption) | (refine bl_setCell ?_ _ (Nat.le_refl _)) | (refine bl_setCell ?_ _ (by first | omega | (simp; done) | (simp; omega))))))
    · rw [(DN m1).1, (DN m1).2.1, (DN m1).2.2]
      have LW := Lib.hid (fun w => lowest_any (-(n * c)) d (-m) w wz hd ⟨by omega, by omega⟩ (by omega) (by omega))
      have mz : (m == 0) = false := by simp; omega
      have mp : ¬ 0 < m := by omega
      have mw : wrap64 (-m) = -m := wrap64_of ⟨by omega, by omega⟩
      have mw2 : IntKind.i64.wrap (-m) = -m := IntWalk.i64_in _ ⟨by omega, by omega⟩
      generalize arN (-(n * c)) (d * -m) = rN at *
      generalize arD (-(n * c)) (d * -m) = rD at *
      generalize arE (-(n * c)) (d * -m) = rE at *
      clear hv e0 k1 k2 d0 c0 b1 DP DN ml
      generalize -(n * c) = z at *
      generalize n * c = x at *
      clear wx wz hn hd hm hc
      go_enter Tryd.func16, Tryd.ntmps16
      go_wp2_with fail
      refine (MY.out _).mono ?_
      rintro e v1 ⟨rfl, hb1⟩
      have o1_0 := own_stays hb1 (b := w.heap.size) (by first | assumption | (simp; done) | (simp; omega) | omega)
      have n1_0_0 : v1.cell? ⟨w.heap.size, 0, none⟩ = some (.int .i64 n) := (o1_0.1 0).trans (by go_simp)
      have n1_0_1 : v1.cell? ⟨w.heap.size, 1, none⟩ = some (.int .i64 d) := (o1_0.1 1).trans (by go_simp)
      have s1_0 : w.heap.size < v1.heap.size := o1_0.2.2
      have o1_1 := own_stays hb1 (b := w.heap.size + 1) (by first | assumption | (simp; done) | (simp; omega) | omega)
      have n1_1_0 : v1.cell? ⟨w.heap.size + 1, 0, none⟩ = some (.int .i64 m) := (o1_1.1 0).trans (by go_simp)
      have n1_1_1 : v1.cell? ⟨w.heap.size + 1, 1, none⟩ = some (.int .i64 c) := (o1_1.1 1).trans (by go_simp)
      have s1_1 : w.heap.size + 1 < v1.heap.size := o1_1.2.2
      have o1_2 := own_stays hb1 (b := w.heap.size + 2) (by first | assumption | (simp; done) | (simp; omega) | omega)
      have n1_2_0 : v1.cell? ⟨w.heap.size + 2, 0, none⟩ = some (.int .i64 0) := (o1_2.1 0).trans (by go_simp)
      have n1_2_1 : v1.cell? ⟨w.heap.size + 2, 1, none⟩ = some (.int .i64 0) := (o1_2.1 1).trans (by go_simp)
      have f1_2 : ∀ o, v1.frozen? ⟨w.heap.size + 2, o, none⟩ = false := fun o => (o1_2.2.1 o).trans (by go_simp)
      have s1_2 : w.heap.size + 2 < v1.heap.size := o1_2.2.2
      have HB1 := Lib.hid (show Below w.heap.size w v1 from bl_call (by repeat (with_reducible (first | exact Below.refl _ _ | assumption | refine bl_alloc ?_ _ | refine bl_drewN ?_ _ | refine bl_drew ?_ | refine bl_call ?_ (by assumption) | (refine bl_setCell ?_ _ (Nat.le_refl _)) | (refine bl_setCell ?_ _ (by first | omega | (simp; done) | (simp; omega)))))) hb1)
      clear hb1 o1_0 o1_1 o1_2 
      go_wp2_with fail
      refine (M1.out _).mono ?_
      rintro e v2 ⟨rfl, hb2⟩
      have o2_0 := own_stays hb2 (b := w.heap.size) (by first | assumption | (simp; done) | (simp; omega) | omega)
      have n2_0_0 : v2.cell? ⟨w.heap.size, 0, none⟩ = some (.int .i64 n) := (o2_0.1 0).trans (by go_simp)
      have n2_0_1 : v2.cell? ⟨w.heap.size, 1, none⟩ = some (.int .i64 d) := (o2_0.1 1).trans (by go_simp)
      have s2_0 : w.heap.size < v2.heap.size := o2_0.2.2
      have o2_1 := own_stays hb2 (b := w.heap.size + 1) (by first | assumption | (simp; done) | (simp; omega) | omega)
      have n2_1_0 : v2.cell? ⟨w.heap.size + 1, 0, none⟩ = some (.int .i64 m) := (o2_1.1 0).trans (by go_simp)
      have n2_1_1 : v2.cell? ⟨w.heap.size + 1, 1, none⟩ = some (.int .i64 c) := (o2_1.1 1).trans (by go_simp)
      have s2_1 : w.heap.size + 1 < v2.heap.size := o2_1.2.2
      have o2_2 := own_stays hb2 (b := w.heap.size + 2) (by first | assumption | (simp; done) | (simp; omega) | omega)
      have n2_2_0 : v2.cell? ⟨w.heap.size + 2, 0, none⟩ = some (.int .i64 0) := (o2_2.1 0).trans (by go_simp)
      have n2_2_1 : v2.cell? ⟨w.heap.size + 2, 1, none⟩ = some (.int .i64 0) := (o2_2.1 1).trans (by go_simp)
      have f2_2 : ∀ o, v2.frozen? ⟨w.heap.size + 2, o, none⟩ = false := fun o => (o2_2.2.1 o).trans (by go_simp)
      have s2_2 : w.heap.size + 2 < v2.heap.size := o2_2.2.2
      have HBx := HB1.out
      have HB2 := Lib.hid (show Below w.heap.size w v2 from bl_call (by repeat (with_reducible (first | exact Below.refl _ _ | assumption | refine bl_alloc ?_ _ | refine bl_drewN ?_ _ | refine bl_drew ?_ | refine bl_call ?_ (by assumption) | (refine bl_setCell ?_ _ (Nat.le_refl _)) | (refine bl_setCell ?_ _ (by first | omega | (simp; done) | (simp; omega)))))) hb2)
      clear HBx
      clear hb2 o2_0 o2_1 o2_2 n1_0_0 n1_0_1 s1_0 n1_1_0 n1_1_1 s1_1 n1_2_0 n1_2_1 f1_2 s1_2 HB1
      have le0 : w.heap.size ≤ v2.heap.size := by omega
      have ne0 : ¬ w.heap.size = v2.heap.size := by omega
      have nf0 : ¬ v2.heap.size = w.heap.size := by omega
      have ne1 : ¬ w.heap.size + 1 = v2.heap.size := by omega
      have nf1 : ¬ v2.heap.size = w.heap.size + 1 := by omega
      have ne2 : ¬ w.heap.size + 1 + 1 = v2.heap.size := by omega
      have nf2 : ¬ v2.heap.size = w.heap.size + 1 + 1 := by omega
      have ne3 : ¬ w.heap.size + 2 = v2.heap.size := by omega
      have nf3 : ¬ v2.heap.size = w.heap.size + 2 := by omega
      go_wp2_with fail
      refine (NG.out _).mono ?_
      rintro e v3 ⟨rfl, hb3⟩
      have o3_0 := own_stays hb3 (b := w.heap.size) (by first | assumption | (simp; done) | (simp; omega) | omega)
      have n3_0_0 : v3.cell? ⟨w.heap.size, 0, none⟩ = some (.int .i64 n) := (o3_0.1 0).trans (by go_simp)
      have n3_0_1 : v3.cell? ⟨w.heap.size, 1, none⟩ = some (.int .i64 d) := (o3_0.1 1).trans (by go_simp)
      have s3_0 : w.heap.size < v3.heap.size := o3_0.2.2
      have o3_1 := own_stays hb3 (b := w.heap.size + 1) (by first | assumption | (simp; done) | (simp; omega) | omega)
      have n3_1_0 : v3.cell? ⟨w.heap.size + 1, 0, none⟩ = some (.int .i64 m) := (o3_1.1 0).trans (by go_simp)
      have n3_1_1 : v3.cell? ⟨w.heap.size + 1, 1, none⟩ = some (.int .i64 c) := (o3_1.1 1).trans (by go_simp)
      have s3_1 : w.heap.size + 1 < v3.heap.size := o3_1.2.2
      have o3_2 := own_stays hb3 (b := w.heap.size + 2) (by first | assumption | (simp; done) | (simp; omega) | omega)
      have n3_2_0 : v3.cell? ⟨w.heap.size + 2, 0, none⟩ = some (.int .i64 0) := (o3_2.1 0).trans (by go_simp)
      have n3_2_1 : v3.cell? ⟨w.heap.size + 2, 1, none⟩ = some (.int .i64 0) := (o3_2.1 1).trans (by go_simp)
      have f3_2 : ∀ o, v3.frozen? ⟨w.heap.size + 2, o, none⟩ = false := fun o => (o3_2.2.1 o).trans (by go_simp)
      have s3_2 : w.heap.size + 2 < v3.heap.size := o3_2.2.2
      have o3_3 := own_stays hb3 (b := v2.heap.size) (by first | assumption | (simp; done) | (simp; omega) | omega)
      have n3_3_0 : v3.cell? ⟨v2.heap.size, 0, none⟩ = some (.int .i64 (hiW x)) := (o3_3.1 0).trans (by go_simp)
      have n3_3_1 : v3.cell? ⟨v2.heap.size, 1, none⟩ = some (.int .u64 (loW x)) := (o3_3.1 1).trans (by go_simp)
      have f3_3 : ∀ o, v3.frozen? ⟨v2.heap.size, o, none⟩ = false := fun o => (o3_3.2.1 o).trans (by go_simp)
      have s3_3 : v2.heap.size < v3.heap.size := o3_3.2.2
      have HBx := HB2.out
      have HB3 := Lib.hid (show Below w.heap.size w v3 from bl_call (by repeat (with_reducible (first | exact Below.refl _ _ | assumption | refine bl_alloc ?_ _ | refine bl_drewN ?_ _ | refine bl_drew ?_ | refine bl_call ?_ (by assumption) | (refine bl_setCell ?_ _ (Nat.le_refl _)) | (refine bl_setCell ?_ _ (by first | omega | (simp; done) | (simp; omega)))))) hb3)
      clear HBx
      clear hb3 o3_0 o3_1 o3_2 o3_3 n2_0_0 n2_0_1 s2_0 n2_1_0 n2_1_1 s2_1 n2_2_0 n2_2_1 f2_2 s2_2 HB2
      go_wp2_with fail
      refine (LW.out _).mono ?_
      rintro e v4 ⟨rfl, hb4⟩
      have o4_0 := own_stays hb4 (b := w.heap.size + 2) (by first | assumption | (simp; done) | (simp; omega) | omega)
      have n4_0_0 : v4.cell? ⟨w.heap.size + 2, 0, none⟩ = some (.int .i64 0) := (o4_0.1 0).trans (by go_simp)
      have n4_0_1 : v4.cell? ⟨w.heap.size + 2, 1, none⟩ = some (.int .i64 0) := (o4_0.1 1).trans (by go_simp)
      have f4_0 : ∀ o, v4.frozen? ⟨w.heap.size + 2, o, none⟩ = false := fun o => (o4_0.2.1 o).trans (by go_simp)
      have s4_0 : w.heap.size + 2 < v4.heap.size := o4_0.2.2
      have HBx := HB3.out
      have HB4 := Lib.hid (show Below w.heap.size w v4 from bl_call (by repeat (with_reducible (first | exact Below.refl _ _ | assumption | refine bl_alloc ?_ _ | refine bl_drewN ?_ _ | refine bl_drew ?_ | refine bl_call ?_ (by assumption) | (refine bl_setCell ?_ _ (Nat.le_refl _)) | (refine bl_setCell ?_ _ (by first | omega | (simp; done) | (simp; omega)))))) hb4)
      clear HBx
      clear hb4 o4_0 n3_0_0 n3_0_1 s3_0 n3_1_0 n3_1_1 s3_1 n3_2_0 n3_2_1 f3_2 s3_2 n3_3_0 n3_3_1 f3_3 s3_3 HB3
      go_wp2
      refine bodyPost_ret (v := .tuple #[ratA rN rD, .int .i64 rE]) (by simp [results, Tryd.results16, go_sem, *]) rfl ⟨rfl, ?_⟩
      have := HB4.out
      exact (by repeat (with_reducible (first | exact Below.refl _ _ | assumption | refine bl_alloc ?_ _ | refine bl_drewN ?_ _ | refine bl_drew ?_ | refine bl_call ?_ (by assumption) | (refine bl_setCell ?_ _ (Nat.le_refl _)) | (refine bl_setCell ?_ _ (by first | omega | (simp; done) | (simp; omega))))))
    · subst m0
      obtain ⟨g1, g2, g3⟩ := DN (by omega)
      rw [g1, g2, g3]
      rw [show d * -(-9223372036854775808) = d * 9223372036854775808 by rfl]
      have two : In 2 := ⟨by decide, by decide⟩
      have DV := fun w => rwdiv_any (-(n * c)) 2 w wz two
      obtain ⟨u1, u2, u3⟩ := wd_pos (-(n * c)) 2 (by decide)
      rw [u1, u2, u3] at DV
      have wh : InW (-(n * c) / 2) := InW_ediv 2 wz (by decide)
      have LW := fun w => lowest_any (-(n * c) / 2) d 4611686018427387904 w wh hd ⟨by decide, by decide⟩ (by omega) (by decide)
      clear DP DN g1 g2 g3 u1 u2 u3 ml b1 hv e0 k1 k2 c0 hm
      by_cases od : -(n * c) % 2 = 0
      · obtain ⟨a1, a2, a3⟩ := ar_scale (-(n * c) / 2) (d * 4611686018427387904) (k := 2) (by decide)
        rw [show -(n * c) / 2 * 2 = -(n * c) by omega, show d * 4611686018427387904 * 2 = d * 9223372036854775808 by omega] at a1 a2 a3
        rw [a1, a2, a3]
        rw [od] at DV
        clear a1 a2 a3 od wh two
        generalize arN (-(n * c) / 2) (d * 4611686018427387904) = rN at *
        generalize arD (-(n * c) / 2) (d * 4611686018427387904) = rD at *
        generalize arE (-(n * c) / 2) (d * 4611686018427387904) = rE at *
        generalize -(n * c) / 2 = h at *
        generalize -(n * c) = z at *
        generalize n * c = x at *
        have DV := Lib.hid DV
        have LW := Lib.hid LW
        clear wx wz hn hd hc d0
        go_enter Tryd.func16, Tryd.ntmps16
        go_wp2_with fail
        refine (MY.out _).mono ?_
        rintro e v1 ⟨rfl, hb1⟩
        have o1_0 := own_stays hb1 (b := w.heap.size) (by first | assumption | (simp; done) | (simp; omega) | omega)
        have n1_0_0 : v1.cell? ⟨w.heap.size, 0, none⟩ = some (.int .i64 n) := (o1_0.1 0).trans (by go_simp)
        have n1_0_1 : v1.cell? ⟨w.heap.size, 1, none⟩ = some (.int .i64 d) := (o1_0.1 1).trans (by go_simp)
        have s1_0 : w.heap.size < v1.heap.size := o1_0.2.2
        have o1_1 := own_stays hb1 (b := w.heap.size + 1) (by first | assumption | (simp; done) | (simp; omega) | omega)
        have n1_1_0 : v1.cell? ⟨w.heap.size + 1, 0, none⟩ = some (.int .i64 (-9223372036854775808)) := (o1_1.1 0).trans (by go_simp)
        have n1_1_1 : v1.cell? ⟨w.heap.size + 1, 1, none⟩ = some (.int .i64 c) := (o1_1.1 1).trans (by go_simp)
        have s1_1 : w.heap.size + 1 < v1.heap.size := o1_1.2.2
        have o1_2 := own_stays hb1 (b := w.heap.size + 2) (by first | assumption | (simp; done) | (simp; omega) | omega)
        have n1_2_0 : v1.cell? ⟨w.heap.size + 2, 0, none⟩ = some (.int .i64 0) := (o1_2.1 0).trans (by go_simp)
        have n1_2_1 : v1.cell? ⟨w.heap.size + 2, 1, none⟩ = some (.int .i64 0) := (o1_2.1 1).trans (by go_simp)
        have f1_2 : ∀ o, v1.frozen? ⟨w.heap.size + 2, o, none⟩ = false := fun o => (o1_2.2.1 o).trans (by go_simp)
        have s1_2 : w.heap.size + 2 < v1.heap.size := o1_2.2.2
        have HB1 := Lib.hid (show Below w.heap.size w v1 from bl_call (by repeat (with_reducible (first | exact Below.refl _ _ | assumption | refine bl_alloc ?_ _ | refine bl_drewN ?_ _ | refine bl_drew ?_ | refine bl_call ?_ (by assumption) | (refine bl_setCell ?_ _ (Nat.le_refl _)) | (refine bl_setCell ?_ _ (by first | omega | (simp; done) | (simp; omega)))))) hb1)
        clear hb1 o1_0 o1_1 o1_2 
        go_wp2_with fail
        refine (M1.out _).mono ?_
        rintro e v2 ⟨rfl, hb2⟩
        have o2_0 := own_stays hb2 (b := w.heap.size) (by first | assumption | (simp; done) | (simp; omega) | omega)
        have n2_0_0 : v2.cell? ⟨w.heap.size, 0, none⟩ = some (.int .i64 n) := (o2_0.1 0).trans (by go_simp)
        have n2_0_1 : v2.cell? ⟨w.heap.size, 1, none⟩ = some (.int .i64 d) := (o2_0.1 1).trans (by go_simp)
        have s2_0 : w.heap.size < v2.heap.size := o2_0.2.2
        have o2_1 := own_stays hb2 (b := w.heap.size + 1) (by first | assumption | (simp; done) | (simp; omega) | omega)
        have n2_1_0 : v2.cell? ⟨w.heap.size + 1, 0, none⟩ = some (.int .i64 (-9223372036854775808)) := (o2_1.1 0).trans (by go_simp)
        have n2_1_1 : v2.cell? ⟨w.heap.size + 1, 1, none⟩ = some (.int .i64 c) := (o2_1.1 1).trans (by go_simp)
        have s2_1 : w.heap.size + 1 < v2.heap.size := o2_1.2.2
        have o2_2 := own_stays hb2 (b := w.heap.size + 2) (by first | assumption | (simp; done) | (simp; omega) | omega)
        have n2_2_0 : v2.cell? ⟨w.heap.size + 2, 0, none⟩ = some (.int .i64 0) := (o2_2.1 0).trans (by go_simp)
        have n2_2_1 : v2.cell? ⟨w.heap.size + 2, 1, none⟩ = some (.int .i64 0) := (o2_2.1 1).trans (by go_simp)
        have f2_2 : ∀ o, v2.frozen? ⟨w.heap.size + 2, o, none⟩ = false := fun o => (o2_2.2.1 o).trans (by go_simp)
        have s2_2 : w.heap.size + 2 < v2.heap.size := o2_2.2.2
        have HBx := HB1.out
        have HB2 := Lib.hid (show Below w.heap.size w v2 from bl_call (by repeat (with_reducible (first | exact Below.refl _ _ | assumption | refine bl_alloc ?_ _ | refine bl_drewN ?_ _ | refine bl_drew ?_ | refine bl_call ?_ (by assumption) | (refine bl_setCell ?_ _ (Nat.le_refl _)) | (refine bl_setCell ?_ _ (by first | omega | (simp; done) | (simp; omega)))))) hb2)
        clear HBx
        clear hb2 o2_0 o2_1 o2_2 n1_0_0 n1_0_1 s1_0 n1_1_0 n1_1_1 s1_1 n1_2_0 n1_2_1 f1_2 s1_2 HB1
        have le0 : w.heap.size ≤ v2.heap.size := by omega
        have ne0 : ¬ w.heap.size = v2.heap.size := by omega
        have nf0 : ¬ v2.heap.size = w.heap.size := by omega
        have ne1 : ¬ w.heap.size + 1 = v2.heap.size := by omega
        have nf1 : ¬ v2.heap.size = w.heap.size + 1 := by omega
        have ne2 : ¬ w.heap.size + 1 + 1 = v2.heap.size := by omega
        have nf2 : ¬ v2.heap.size = w.heap.size + 1 + 1 := by omega
        have ne3 : ¬ w.heap.size + 2 = v2.heap.size := by omega
        have nf3 : ¬ v2.heap.size = w.heap.size + 2 := by omega
        go_wp2_with fail
        refine (NG.out _).mono ?_
        rintro e v3 ⟨rfl, hb3⟩
        have o3_0 := own_stays hb3 (b := w.heap.size) (by first | assumption | (simp; done) | (simp; omega) | omega)
        have n3_0_0 : v3.cell? ⟨w.heap.size, 0, none⟩ = some (.int .i64 n) := (o3_0.1 0).trans (by go_simp)
        have n3_0_1 : v3.cell? ⟨w.heap.size, 1, none⟩ = some (.int .i64 d) := (o3_0.1 1).trans (by go_simp)
        have s3_0 : w.heap.size < v3.heap.size := o3_0.2.2
        have o3_1 := own_stays hb3 (b := w.heap.size + 1) (by first | assumption | (simp; done) | (simp; omega) | omega)
        have n3_1_0 : v3.cell? ⟨w.heap.size + 1, 0, none⟩ = some (.int .i64 (-9223372036854775808)) := (o3_1.1 0).trans (by go_simp)
        have n3_1_1 : v3.cell? ⟨w.heap.size + 1, 1, none⟩ = some (.int .i64 c) := (o3_1.1 1).trans (by go_simp)
        have s3_1 : w.heap.size + 1 < v3.heap.size := o3_1.2.2
        have o3_2 := own_stays hb3 (b := w.heap.size + 2) (by first | assumption | (simp; done) | (simp; omega) | omega)
        have n3_2_0 : v3.cell? ⟨w.heap.size + 2, 0, none⟩ = some (.int .i64 0) := (o3_2.1 0).trans (by go_simp)
        have n3_2_1 : v3.cell? ⟨w.heap.size + 2, 1, none⟩ = some (.int .i64 0) := (o3_2.1 1).trans (by go_simp)
        have f3_2 : ∀ o, v3.frozen? ⟨w.heap.size + 2, o, none⟩ = false := fun o => (o3_2.2.1 o).trans (by go_simp)
        have s3_2 : w.heap.size + 2 < v3.heap.size := o3_2.2.2
        have o3_3 := own_stays hb3 (b := v2.heap.size) (by first | assumption | (simp; done) | (simp; omega) | omega)
        have n3_3_0 : v3.cell? ⟨v2.heap.size, 0, none⟩ = some (.int .i64 (hiW x)) := (o3_3.1 0).trans (by go_simp)
        have n3_3_1 : v3.cell? ⟨v2.heap.size, 1, none⟩ = some (.int .u64 (loW x)) := (o3_3.1 1).trans (by go_simp)
        have f3_3 : ∀ o, v3.frozen? ⟨v2.heap.size, o, none⟩ = false := fun o => (o3_3.2.1 o).trans (by go_simp)
        have s3_3 : v2.heap.size < v3.heap.size := o3_3.2.2
        have HBx := HB2.out
        have HB3 := Lib.hid (show Below w.heap.size w v3 from bl_call (by repeat (with_reducible (first | exact Below.refl _ _ | assumption | refine bl_alloc ?_ _ | refine bl_drewN ?_ _ | refine bl_drew ?_ | refine bl_call ?_ (by assumption) | (refine bl_setCell ?_ _ (Nat.le_refl _)) | (refine bl_setCell ?_ _ (by first | omega | (simp; done) | (simp; omega)))))) hb3)
        clear HBx
        clear hb3 o3_0 o3_1 o3_2 o3_3 n2_0_0 n2_0_1 s2_0 n2_1_0 n2_1_1 s2_1 n2_2_0 n2_2_1 f2_2 s2_2 HB2
        go_wp2_with fail
        refine (DV.out _).mono ?_
        rintro e v4 ⟨rfl, hb4⟩
        have o4_0 := own_stays hb4 (b := w.heap.size) (by first | assumption | (simp; done) | (simp; omega) | omega)
        have n4_0_0 : v4.cell? ⟨w.heap.size, 0, none⟩ = some (.int .i64 n) := (o4_0.1 0).trans (by go_simp)
        have n4_0_1 : v4.cell? ⟨w.heap.size, 1, none⟩ = some (.int .i64 d) := (o4_0.1 1).trans (by go_simp)
        have s4_0 : w.heap.size < v4.heap.size := o4_0.2.2
        have o4_1 := own_stays hb4 (b := w.heap.size + 1) (by first | assumption | (simp; done) | (simp; omega) | omega)
        have n4_1_0 : v4.cell? ⟨w.heap.size + 1, 0, none⟩ = some (.int .i64 (-9223372036854775808)) := (o4_1.1 0).trans (by go_simp)
        have n4_1_1 : v4.cell? ⟨w.heap.size + 1, 1, none⟩ = some (.int .i64 c) := (o4_1.1 1).trans (by go_simp)
        have s4_1 : w.heap.size + 1 < v4.heap.size := o4_1.2.2
        have o4_2 := own_stays hb4 (b := w.heap.size + 2) (by first | assumption | (simp; done) | (simp; omega) | omega)
        have n4_2_0 : v4.cell? ⟨w.heap.size + 2, 0, none⟩ = some (.int .i64 0) := (o4_2.1 0).trans (by go_simp)
        have n4_2_1 : v4.cell? ⟨w.heap.size + 2, 1, none⟩ = some (.int .i64 0) := (o4_2.1 1).trans (by go_simp)
        have f4_2 : ∀ o, v4.frozen? ⟨w.heap.size + 2, o, none⟩ = false := fun o => (o4_2.2.1 o).trans (by go_simp)
        have s4_2 : w.heap.size + 2 < v4.heap.size := o4_2.2.2
        have HBx := HB3.out
        have HB4 := Lib.hid (show Below w.heap.size w v4 from bl_call (by repeat (with_reducible (first | exact Below.refl _ _ | assumption | refine bl_alloc ?_ _ | refine bl_drewN ?_ _ | refine bl_drew ?_ | refine bl_call ?_ (by assumption) | (refine bl_setCell ?_ _ (Nat.le_refl _)) | (refine bl_setCell ?_ _ (by first | omega | (simp; done) | (simp; omega)))))) hb4)
        clear HBx
        clear hb4 o4_0 o4_1 o4_2 n3_0_0 n3_0_1 s3_0 n3_1_0 n3_1_1 s3_1 n3_2_0 n3_2_1 f3_2 s3_2 n3_3_0 n3_3_1 f3_3 s3_3 HB3
        go_wp2_with fail
        refine (LW.out _).mono ?_
        rintro e v5 ⟨rfl, hb5⟩
        have o5_0 := own_stays hb5 (b := w.heap.size + 2) (by first | assumption | (simp; done) | (simp; omega) | omega)
        have n5_0_0 : v5.cell? ⟨w.heap.size + 2, 0, none⟩ = some (.int .i64 0) := (o5_0.1 0).trans (by go_simp)
        have n5_0_1 : v5.cell? ⟨w.heap.size + 2, 1, none⟩ = some (.int .i64 0) := (o5_0.1 1).trans (by go_simp)
        have f5_0 : ∀ o, v5.frozen? ⟨w.heap.size + 2, o, none⟩ = false := fun o => (o5_0.2.1 o).trans (by go_simp)
        have s5_0 : w.heap.size + 2 < v5.heap.size := o5_0.2.2
        have HBx := HB4.out
        have HB5 := Lib.hid (show Below w.heap.size w v5 from bl_call (by repeat (with_reducible (first | exact Below.refl _ _ | assumption | refine bl_alloc ?_ _ | refine bl_drewN ?_ _ | refine bl_drew ?_ | refine bl_call ?_ (by assumption) | (refine bl_setCell ?_ _ (Nat.le_refl _)) | (refine bl_setCell ?_ _ (by first | omega | (simp; done) | (simp; omega)))))) hb5)
        clear HBx
        clear hb5 o5_0 n4_0_0 n4_0_1 s4_0 n4_1_0 n4_1_1 s4_1 n4_2_0 n4_2_1 f4_2 s4_2 HB4
        go_wp2
        refine bodyPost_ret (v := .tuple #[ratA rN rD, .int .i64 rE]) (by simp [results, Tryd.results16, go_sem, *]) rfl ⟨rfl, ?_⟩
        have := HB5.out
        exact (by repeat (with_reducible (first | exact Below.refl _ _ | assumption | refine bl_alloc ?_ _ | refine bl_drewN ?_ _ | refine bl_drew ?_ | refine bl_call ?_ (by assumption) | (refine bl_setCell ?_ _ (Nat.le_refl _)) | (refine bl_setCell ?_ _ (by first | omega | (simp; done) | (simp; omega))))))
      · obtain ⟨a1, a2, a3⟩ := ar_odd (p := -(n * c)) (d := d) (by omega) od
        rw [a1, a2, a3]
        have r1 : ((-(n * c) % 2) == 0) = false := by simpa using od
        have r2 : ((-(n * c) % 2) != 0) = true := by simpa using od
        clear a1 a2 a3 wh two LW
        generalize -(n * c) / 2 = h at *
        generalize -(n * c) % 2 = r at *
        generalize -(n * c) = z at *
        generalize n * c = x at *
        have DV := Lib.hid DV
        clear wx wz hn hd hc d0 od
        go_enter Tryd.func16, Tryd.ntmps16
        go_wp2_with fail
        refine (MY.out _).mono ?_
        rintro e v1 ⟨rfl, hb1⟩
        have o1_0 := own_stays hb1 (b := w.heap.size) (by first | assumption | (simp; done) | (simp; omega) | omega)
        have n1_0_0 : v1.cell? ⟨w.heap.size, 0, none⟩ = some (.int .i64 n) := (o1_0.1 0).trans (by go_simp)
        have n1_0_1 : v1.cell? ⟨w.heap.size, 1, none⟩ = some (.int .i64 d) := (o1_0.1 1).trans (by go_simp)
        have s1_0 : w.heap.size < v1.heap.size := o1_0.2.2
        have o1_1 := own_stays hb1 (b := w.heap.size + 1) (by first | assumption | (simp; done) | (simp; omega) | omega)
        have n1_1_0 : v1.cell? ⟨w.heap.size + 1, 0, none⟩ = some (.int .i64 (-9223372036854775808)) := (o1_1.1 0).trans (by go_simp)
        have n1_1_1 : v1.cell? ⟨w.heap.size + 1, 1, none⟩ = some (.int .i64 c) := (o1_1.1 1).trans (by go_simp)
        have s1_1 : w.heap.size + 1 < v1.heap.size := o1_1.2.2
        have o1_2 := own_stays hb1 (b := w.heap.size + 2) (by first | assumption | (simp; done) | (simp; omega) | omega)
        have n1_2_0 : v1.cell? ⟨w.heap.size + 2, 0, none⟩ = some (.int .i64 0) := (o1_2.1 0).trans (by go_simp)
        have n1_2_1 : v1.cell? ⟨w.heap.size + 2, 1, none⟩ = some (.int .i64 0) := (o1_2.1 1).trans (by go_simp)
        have f1_2 : ∀ o, v1.frozen? ⟨w.heap.size + 2, o, none⟩ = false := fun o => (o1_2.2.1 o).trans (by go_simp)
        have s1_2 : w.heap.size + 2 < v1.heap.size := o1_2.2.2
        have HB1 := Lib.hid (show Below w.heap.size w v1 from bl_call (by repeat (with_reducible (first | exact Below.refl _ _ | assumption | refine bl_alloc ?_ _ | refine bl_drewN ?_ _ | refine bl_drew ?_ | refine bl_call ?_ (by assumption) | (refine bl_setCell ?_ _ (Nat.le_refl _)) | (refine bl_setCell ?_ _ (by first | omega | (simp; done) | (simp; omega)))))) hb1)
        clear hb1 o1_0 o1_1 o1_2 
        go_wp2_with fail
        refine (M1.out _).mono ?_
        rintro e v2 ⟨rfl, hb2⟩
        have o2_0 := own_stays hb2 (b := w.heap.size) (by first | assumption | (simp; done) | (simp; omega) | omega)
        have n2_0_0 : v2.cell? ⟨w.heap.size, 0, none⟩ = some (.int .i64 n) := (o2_0.1 0).trans (by go_simp)
        have n2_0_1 : v2.cell? ⟨w.heap.size, 1, none⟩ = some (.int .i64 d) := (o2_0.1 1).trans (by go_simp)
        have s2_0 : w.heap.size < v2.heap.size := o2_0.2.2
        have o2_1 := own_stays hb2 (b := w.heap.size + 1) (by first | assumption | (simp; done) | (simp; omega) | omega)
        have n2_1_0 : v2.cell? ⟨w.heap.size + 1, 0, none⟩ = some (.int .i64 (-9223372036854775808)) := (o2_1.1 0).trans (by go_simp)
        have n2_1_1 : v2.cell? ⟨w.heap.size + 1, 1, none⟩ = some (.int .i64 c) := (o2_1.1 1).trans (by go_simp)
        have s2_1 : w.heap.size + 1 < v2.heap.size := o2_1.2.2
        have o2_2 := own_stays hb2 (b := w.heap.size + 2) (by first | assumption | (simp; done) | (simp; omega) | omega)
        have n2_2_0 : v2.cell? ⟨w.heap.size + 2, 0, none⟩ = some (.int .i64 0) := (o2_2.1 0).trans (by go_simp)
        have n2_2_1 : v2.cell? ⟨w.heap.size + 2, 1, none⟩ = some (.int .i64 0) := (o2_2.1 1).trans (by go_simp)
        have f2_2 : ∀ o, v2.frozen? ⟨w.heap.size + 2, o, none⟩ = false := fun o => (o2_2.2.1 o).trans (by go_simp)
        have s2_2 : w.heap.size + 2 < v2.heap.size := o2_2.2.2
        have HBx := HB1.out
        have HB2 := Lib.hid (show Below w.heap.size w v2 from bl_call (by repeat (with_reducible (first | exact Below.refl _ _ | assumption | refine bl_alloc ?_ _ | refine bl_drewN ?_ _ | refine bl_drew ?_ | refine bl_call ?_ (by assumption) | (refine bl_setCell ?_ _ (Nat.le_refl _)) | (refine bl_setCell ?_ _ (by first | omega | (simp; done) | (simp; omega)))))) hb2)
        clear HBx
        clear hb2 o2_0 o2_1 o2_2 n1_0_0 n1_0_1 s1_0 n1_1_0 n1_1_1 s1_1 n1_2_0 n1_2_1 f1_2 s1_2 HB1
        have le0 : w.heap.size ≤ v2.heap.size := by omega
        have ne0 : ¬ w.heap.size = v2.heap.size := by omega
        have nf0 : ¬ v2.heap.size = w.heap.size := by omega
        have ne1 : ¬ w.heap.size + 1 = v2.heap.size := by omega
        have nf1 : ¬ v2.heap.size = w.heap.size + 1 := by omega
        have ne2 : ¬ w.heap.size + 1 + 1 = v2.heap.size := by omega
        have nf2 : ¬ v2.heap.size = w.heap.size + 1 + 1 := by omega
        have ne3 : ¬ w.heap.size + 2 = v2.heap.size := by omega
        have nf3 : ¬ v2.heap.size = w.heap.size + 2 := by omega
        go_wp2_with fail
        refine (NG.out _).mono ?_
        rintro e v3 ⟨rfl, hb3⟩
        have o3_0 := own_stays hb3 (b := w.heap.size) (by first | assumption | (simp; done) | (simp; omega) | omega)
        have n3_0_0 : v3.cell? ⟨w.heap.size, 0, none⟩ = some (.int .i64 n) := (o3_0.1 0).trans (by go_simp)
        have n3_0_1 : v3.cell? ⟨w.heap.size, 1, none⟩ = some (.int .i64 d) := (o3_0.1 1).trans (by go_simp)
        have s3_0 : w.heap.size < v3.heap.size := o3_0.2.2
        have o3_1 := own_stays hb3 (b := w.heap.size + 1) (by first | assumption | (simp; done) | (simp; omega) | omega)
        have n3_1_0 : v3.cell? ⟨w.heap.size + 1, 0, none⟩ = some (.int .i64 (-9223372036854775808)) := (o3_1.1 0).trans (by go_simp)
        have n3_1_1 : v3.cell? ⟨w.heap.size + 1, 1, none⟩ = some (.int .i64 c) := (o3_1.1 1).trans (by go_simp)
        have s3_1 : w.heap.size + 1 < v3.heap.size := o3_1.2.2
        have o3_2 := own_stays hb3 (b := w.heap.size + 2) (by first | assumption | (simp; done) | (simp; omega) | omega)
        have n3_2_0 : v3.cell? ⟨w.heap.size + 2, 0, none⟩ = some (.int .i64 0) := (o3_2.1 0).trans (by go_simp)
        have n3_2_1 : v3.cell? ⟨w.heap.size + 2, 1, none⟩ = some (.int .i64 0) := (o3_2.1 1).trans (by go_simp)
        have f3_2 : ∀ o, v3.frozen? ⟨w.heap.size + 2, o, none⟩ = false := fun o => (o3_2.2.1 o).trans (by go_simp)
        have s3_2 : w.heap.size + 2 < v3.heap.size := o3_2.2.2
        have o3_3 := own_stays hb3 (b := v2.heap.size) (by first | assumption | (simp; done) | (simp; omega) | omega)
        have n3_3_0 : v3.cell? ⟨v2.heap.size, 0, none⟩ = some (.int .i64 (hiW x)) := (o3_3.1 0).trans (by go_simp)
        have n3_3_1 : v3.cell? ⟨v2.heap.size, 1, none⟩ = some (.int .u64 (loW x)) := (o3_3.1 1).trans (by go_simp)
        have f3_3 : ∀ o, v3.frozen? ⟨v2.heap.size, o, none⟩ = false := fun o => (o3_3.2.1 o).trans (by go_simp)
        have s3_3 : v2.heap.size < v3.heap.size := o3_3.2.2
        have HBx := HB2.out
        have HB3 := Lib.hid (show Below w.heap.size w v3 from bl_call (by repeat (with_reducible (first | exact Below.refl _ _ | assumption | refine bl_alloc ?_ _ | refine bl_drewN ?_ _ | refine bl_drew ?_ | refine bl_call ?_ (by assumption) | (refine bl_setCell ?_ _ (Nat.le_refl _)) | (refine bl_setCell ?_ _ (by first | omega | (simp; done) | (simp; omega)))))) hb3)
        clear HBx
        clear hb3 o3_0 o3_1 o3_2 o3_3 n2_0_0 n2_0_1 s2_0 n2_1_0 n2_1_1 s2_1 n2_2_0 n2_2_1 f2_2 s2_2 HB2
        go_wp2_with fail
        refine (DV.out _).mono ?_
        rintro e v4 ⟨rfl, hb4⟩
        have o4_0 := own_stays hb4 (b := w.heap.size) (by first | assumption | (simp; done) | (simp; omega) | omega)
        have n4_0_0 : v4.cell? ⟨w.heap.size, 0, none⟩ = some (.int .i64 n) := (o4_0.1 0).trans (by go_simp)
        have n4_0_1 : v4.cell? ⟨w.heap.size, 1, none⟩ = some (.int .i64 d) := (o4_0.1 1).trans (by go_simp)
        have s4_0 : w.heap.size < v4.heap.size := o4_0.2.2
        have o4_1 := own_stays hb4 (b := w.heap.size + 1) (by first | assumption | (simp; done) | (simp; omega) | omega)
        have n4_1_0 : v4.cell? ⟨w.heap.size + 1, 0, none⟩ = some (.int .i64 (-9223372036854775808)) := (o4_1.1 0).trans (by go_simp)
        have n4_1_1 : v4.cell? ⟨w.heap.size + 1, 1, none⟩ = some (.int .i64 c) := (o4_1.1 1).trans (by go_simp)
        have s4_1 : w.heap.size + 1 < v4.heap.size := o4_1.2.2
        have o4_2 := own_stays hb4 (b := w.heap.size + 2) (by first | assumption | (simp; done) | (simp; omega) | omega)
        have n4_2_0 : v4.cell? ⟨w.heap.size + 2, 0, none⟩ = some (.int .i64 0) := (o4_2.1 0).trans (by go_simp)
        have n4_2_1 : v4.cell? ⟨w.heap.size + 2, 1, none⟩ = some (.int .i64 0) := (o4_2.1 1).trans (by go_simp)
        have f4_2 : ∀ o, v4.frozen? ⟨w.heap.size + 2, o, none⟩ = false := fun o => (o4_2.2.1 o).trans (by go_simp)
        have s4_2 : w.heap.size + 2 < v4.heap.size := o4_2.2.2
        have HBx := HB3.out
        have HB4 := Lib.hid (show Below w.heap.size w v4 from bl_call (by repeat (with_reducible (first | exact Below.refl _ _ | assumption | refine bl_alloc ?_ _ | refine bl_drewN ?_ _ | refine bl_drew ?_ | refine bl_call ?_ (by assumption) | (refine bl_setCell ?_ _ (Nat.le_refl _)) | (refine bl_setCell ?_ _ (by first | omega | (simp; done) | (simp; omega)))))) hb4)
        clear HBx
        clear hb4 o4_0 o4_1 o4_2 n3_0_0 n3_0_1 s3_0 n3_1_0 n3_1_1 s3_1 n3_2_0 n3_2_1 f3_2 s3_2 n3_3_0 n3_3_1 f3_3 s3_3 HB3
        go_wp2
        refine bodyPost_ret (v := .tuple #[ratA 0 0, .int .i64 2]) (by simp [results, Tryd.results16, go_sem, *]) rfl ⟨rfl, ?_⟩
        have := HB4.out
        exact (by repeat (with_reducible (first | exact Below.refl _ _ | assumption | refine bl_alloc ?_ _ | refine bl_drewN ?_ _ | refine bl_drew ?_ | refine bl_call ?_ (by assumption) | (refine bl_setCell ?_ _ (Nat.le_refl _)) | (refine bl_setCell ?_ _ (by first | omega | (simp; done) | (simp; omega))))))
end Go.Proofs.YtkejohmghacdhaaDoor
