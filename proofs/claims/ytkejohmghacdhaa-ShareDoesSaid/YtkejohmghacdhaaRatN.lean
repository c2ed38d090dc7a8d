/- Contracts of r03: Mul, Add, Sub, Div. Printed by mkr3ops.py. -/
import Derived.Test.YtkejohmghacdhaaRatL
namespace Go.Proofs.Ytkejohmghacdhaa
set_option linter.unusedVariables false
set_option linter.unusedSimpArgs false
open Go.RowKit
theorem alloc_here (W : World) (x : Obj) : (W.alloc x).heap[W.heap.size]? = some x := by unfold World.alloc; simp
theorem cp_no {n d m c : Int} (h : cpB n d m c = false) : cpE n d m c = 1 := by unfold cpE; rw [h]; rfl
theorem cp_yes {n d m c : Int} (h : cpB n d m c = true) : cpE n d m c = 0 ∧ ckB n d = true ∧ ckB m c = true := by
  refine ⟨by unfold cpE; rw [h]; rfl, ?_⟩
  unfold cpB at h
  rwa [Bool.and_eq_true] at h
set_option maxRecDepth 100000 in
set_option maxHeartbeats 4000000 in
theorem r3mul (n d m c : Int) (w : World) (hn : In n) (hd : In d) (hm : In m) (hc : In c) :
    Calls Try.prog 62 #[ratA n d, ratA m c] w fun e w' => e = .returned (.tuple #[ratA (vN (cpB n d m c) (arN (n * m) (d * c))) (vN (cpB n d m c) (arD (n * m) (d * c))), .int .i64 (vE (cpB n d m c) (arE (n * m) (d * c)))]) ∧ Below w.heap.size w w' := by
  have MY := fun w => r3may n d m c w hn hd hm hc
  cases hv : cpB n d m c
  · rw [cp_no hv] at MY
    rw [vN_no, vN_no, vE_no]
    have MY := Lib.hid MY
    clear hv
    go_enter Try.func62, Try.ntmps62
    go_wp2_with fail
    refine (MY.out _).mono ?_
    rintro e w1 ⟨rfl, hb1⟩
    obtain ⟨hc1_0, hf1_0, hz1_0⟩ := own_stays hb1 (b := w.heap.size + 2) (by first | (simp; done) | (simp; omega) | omega)
    go_wp2_with fail
    refine bodyPost_ret (v := .tuple #[ratA 0 0, .int .i64 1]) (by simp [results, Try.results62, go_sem, *]) rfl ⟨rfl, ?_⟩
    exact (by repeat (with_reducible (first | exact Below.refl _ _ | assumption | refine bl_alloc ?_ _ | refine bl_drewN ?_ _ | refine bl_drew ?_ | refine bl_call ?_ (by assumption) | (refine bl_setCell ?_ _ (Nat.le_refl _)) | (refine bl_setCell ?_ _ (by first | omega | (simp; done) | (simp; omega))))))
  · obtain ⟨e0, k1, k2⟩ := cp_yes hv
    rw [e0] at MY
    rw [vN_yes, vN_yes, vE_yes]
    have MY := Lib.hid MY
    have M := Lib.hid (fun w => rmul_any n m w hn hm)
    have L := Lib.hid (fun w => lowest_any (n * m) d c w (prod_InW hn hm) hd hc (by have := (ck_true k1).1; omega) (by have := (ck_true k2).1; omega))
    clear hv e0 k1 k2
    generalize arN (n * m) (d * c) = rN at *
    generalize arD (n * m) (d * c) = rD at *
    generalize arE (n * m) (d * c) = rE at *
    generalize n * m = p at *
    have q0 : ((w.alloc (Obj.cells #[.int .i64 n, .int .i64 d] 24)).alloc (Obj.cells #[.int .i64 m, .int .i64 c] 24)).cell? ⟨w.heap.size, 0, none⟩ = some (.int .i64 n) := by go_simp
    have q1 : ((w.alloc (Obj.cells #[.int .i64 n, .int .i64 d] 24)).alloc (Obj.cells #[.int .i64 m, .int .i64 c] 24)).cell? ⟨w.heap.size, 1, none⟩ = some (.int .i64 d) := by go_simp
    have q2 : ((w.alloc (Obj.cells #[.int .i64 n, .int .i64 d] 24)).alloc (Obj.cells #[.int .i64 m, .int .i64 c] 24)).cell? ⟨w.heap.size + 1, 0, none⟩ = some (.int .i64 m) := by go_simp
    have q3 : ((w.alloc (Obj.cells #[.int .i64 n, .int .i64 d] 24)).alloc (Obj.cells #[.int .i64 m, .int .i64 c] 24)).cell? ⟨w.heap.size + 1, 1, none⟩ = some (.int .i64 c) := by go_simp
    have Q := Lib.hid (And.intro (rcell q0) (And.intro (rcell q1) (And.intro (rcell q2) (rcell q3))))
    clear q0 q1 q2 q3
    have hs : w.heap.size + 1 + 1 = ((w.alloc (Obj.cells #[.int .i64 n, .int .i64 d] 24)).alloc (Obj.cells #[.int .i64 m, .int .i64 c] 24)).heap.size := by simp
    have HS := Lib.hid hs
    clear hs
    go_enter Try.func62, Try.ntmps62
    go_wp2_with fail
    refine (MY.out _).mono ?_
    rintro e w1 ⟨rfl, hb1⟩
    have HX : w1.heap[w.heap.size + 1 + 1]? = some (Obj.cells #[.int .i64 0, .int .i64 0] 24) := by
      rw [hb1.block (w.heap.size + 1 + 1) (by simp), HS.out]; exact alloc_here _ _
    have hz1 : w.heap.size + 1 + 1 < w1.heap.size := by have := hb1.size; simp at this; omega
    go_wp2_with fail
    refine region_t0 (fun _ => none) (st1 12 99) (fun _ => true) ((w.alloc (Obj.cells #[.int .i64 n, .int .i64 d] 24)).alloc (Obj.cells #[.int .i64 m, .int .i64 c] 24)) (upd (fun _ => none) 99 (w.heap.size + 1 + 1) (Obj.cells #[.int .i64 0, .int .i64 0] 24)) (fresh_one (bl_call (bl_alloc (Below.refl _ _) _) hb1) (Nat.le_of_eq HS.out.symm) hz1 HX) (by kernel_rfl) (by kernel_rfl) (kinds_old (by decide)) ?_
    clear HX hb1
    obtain ⟨q0, q1, q2, q3⟩ := Q.out
    repeat ((first | refine wpT_op true rfl rfl rfl (fun K hK => ?_) | refine wpT_op false rfl rfl rfl (fun K hK => ?_)); go_simp; first | (refine hK _ ?_; clear hK K) | (apply Exists.intro; refine ⟨fun _ => ?_, hK _ ?_⟩; (first | with_reducible exact Calls.stay (M.out _) | with_reducible exact Calls.stay (L.out _)); clear hK K))
    refine wpT_st 99 (w.heap.size + 1 + 1) _ (Obj.cells #[.int .i64 rN, .int .i64 rD] 24) rfl rfl (upd_same _ _ _ _) (Nat.le_of_eq HS.out.symm) ⟨fun y => rfl, fun w1 hb1 hlt hx => ⟨_, ?_, touch_set2 hx (.int .i64 rN) (.int .i64 rD)⟩⟩ ?_
    · have k0 := laid_cell hx 0 _ rfl
      have k1 := laid_cell hx 1 _ rfl
      have f0 := laid_free hx 0
      have f1 := laid_free hx 1
      clear hx hb1 q0 q1 q2 q3
      go_simp
    repeat ((first | refine wpT_op true rfl rfl rfl (fun K hK => ?_) | refine wpT_op false rfl rfl rfl (fun K hK => ?_)); go_simp; first | (refine hK _ ?_; clear hK K) | (apply Exists.intro; refine ⟨fun _ => ?_, hK _ ?_⟩; (fail); clear hK K))
    refine wpT_nil ?_
    intro w2 hfr
    obtain ⟨l1, l2, l3⟩ := hfr.low 99 (w.heap.size + 1 + 1) _ (upd_same _ _ _ _)
    have k0 := laid_cell l3 0 _ rfl
    have k1 := laid_cell l3 1 _ rfl
    have hb2 := hfr.below
    clear l3 hfr q0 q1 q2 q3
    go_wp2
    refine bodyPost_ret (v := .tuple #[ratA rN rD, .int .i64 rE]) (by simp [results, Try.results62, go_sem, k0, k1]) rfl ⟨rfl, ?_⟩
    exact (by repeat (with_reducible (first | exact Below.refl _ _ | assumption | refine bl_alloc ?_ _ | refine bl_drewN ?_ _ | refine bl_drew ?_ | refine bl_call ?_ (by assumption) | (refine bl_setCell ?_ _ (Nat.le_refl _)) | (refine bl_setCell ?_ _ (by first | omega | (simp; done) | (simp; omega))))))
theorem prod_bd' {a b : Int} (ha : In a) (h0 : 0 ≤ b) (h1 : b ≤ 9223372036854775807) : -(9223372036854775808 * 9223372036854775807) ≤ a * b ∧ a * b ≤ 9223372036854775808 * 9223372036854775807 := by
  have h : (a * b).natAbs ≤ 9223372036854775808 * 9223372036854775807 := by
    rw [Int.natAbs_mul]; exact Nat.mul_le_mul (by unfold In at ha; omega) (by omega)
  omega
end Go.Proofs.Ytkejohmghacdhaa
