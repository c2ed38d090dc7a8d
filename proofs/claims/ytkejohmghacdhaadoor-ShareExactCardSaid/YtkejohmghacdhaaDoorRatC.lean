/- Contracts of the package ratio: Cmp, Floor, Ceil. -/
import Derived.Test.YtkejohmghacdhaaDoorRatB
namespace Go.Proofs.YtkejohmghacdhaaDoor
set_option linter.unusedVariables false
set_option linter.unusedSimpArgs false
open Go.RowKit
set_option maxRecDepth 100000 in
set_option maxHeartbeats 4000000 in
theorem rat_cmp (n d m c : Int) (w : World) (hn : In n) (hd : In d) (hm : In m) (hc : In c) :
    Calls Tryd.prog 17 #[ratA n d, ratA m c] w fun e w' => e = .returned (.tuple #[.int .i64 (cpV n d m c), .int .i64 (cpE n d m c)]) ∧ Below w.heap.size w w' := by
  cases k1 : ckB n d
  · have E1 := Lib.hid (ck_false k1).2
    have E0 := Lib.hid (show cpE n d m c = 1 by unfold cpE cpB; rw [k1]; rfl)
    have V := Lib.hid (show cpV n d m c = 0 ∧ cpE n d m c = 1 by unfold cpV cpE cpB; rw [k1]; exact ⟨rfl, rfl⟩)
    clear k1
    go_enter Tryd.func17, Tryd.ntmps17
    go_wp2_with fail
    refine (rat_check n d _ hn hd).mono ?_
    rintro e w1 ⟨rfl, hb1⟩
    rw [E1.out]
    obtain ⟨hc1_0, hf1_0, hz1_0⟩ := own_stays hb1 (b := w.heap.size) (by go_simp)
    obtain ⟨hc1_1, hf1_1, hz1_1⟩ := own_stays hb1 (b := w.heap.size + 1) (by go_simp)
    go_wp2
    go_ret2
    exact ⟨ret_ii V.out.1.symm V.out.2.symm, (by repeat (with_reducible (first | exact Below.refl _ _ | assumption | refine bl_alloc ?_ _ | refine bl_drewN ?_ _ | refine bl_drew ?_ | refine bl_call ?_ (by assumption) | (refine bl_setCell ?_ _ (Nat.le_refl _)) | (refine bl_setCell ?_ _ (by first | omega | (simp; done) | (simp; omega))))))⟩
  cases k2 : ckB m c
  · have E1 := Lib.hid (ck_true k1).2.2
    have E2 := Lib.hid (ck_false k2).2
    have E0 := Lib.hid (show cpE n d m c = 1 by unfold cpE cpB; rw [k1, k2]; rfl)
    have V := Lib.hid (show cpV n d m c = 0 ∧ cpE n d m c = 1 by unfold cpV cpE cpB; rw [k1, k2]; exact ⟨rfl, rfl⟩)
    clear k1 k2
    go_enter Tryd.func17, Tryd.ntmps17
    go_wp2_with fail
    refine (rat_check n d _ hn hd).mono ?_
    rintro e w1 ⟨rfl, hb1⟩
    rw [E1.out]
    obtain ⟨hc1_0, hf1_0, hz1_0⟩ := own_stays hb1 (b := w.heap.size) (by go_simp)
    obtain ⟨hc1_1, hf1_1, hz1_1⟩ := own_stays hb1 (b := w.heap.size + 1) (by go_simp)
    go_wp2_with fail
    refine (rat_check m c _ hm hc).mono ?_
    rintro e w2 ⟨rfl, hb2⟩
    rw [E2.out]
    obtain ⟨hc2_0, hf2_0, hz2_0⟩ := own_stays hb2 (b := w.heap.size) hz1_0
    obtain ⟨hc2_1, hf2_1, hz2_1⟩ := own_stays hb2 (b := w.heap.size + 1) hz1_1
    go_wp2
    go_ret2
    exact ⟨ret_ii V.out.1.symm V.out.2.symm, (by repeat (with_reducible (first | exact Below.refl _ _ | assumption | refine bl_alloc ?_ _ | refine bl_drewN ?_ _ | refine bl_drew ?_ | refine bl_call ?_ (by assumption) | (refine bl_setCell ?_ _ (Nat.le_refl _)) | (refine bl_setCell ?_ _ (by first | omega | (simp; done) | (simp; omega))))))⟩
  · have E1 := Lib.hid (ck_true k1).2.2
    have E2 := Lib.hid (ck_true k2).2.2
    have E0 := Lib.hid (show cpE n d m c = 0 by unfold cpE cpB; rw [k1, k2]; rfl)
    have V := Lib.hid (show cpV n d m c = cmpI (n * c) (m * d) ∧ cpE n d m c = 0 by unfold cpV cpE cpB; rw [k1, k2]; exact ⟨rfl, rfl⟩)
    clear k1 k2
    have M1 := Lib.hid (fun w => wmul_any n c w hn hc)
    have M2 := Lib.hid (fun w => wmul_any m d w hm hd)
    have p1 := prod_InW hn hc
    have p2 := prod_InW hm hd
    have CC := Lib.hid (fun w => wcmp_any (n * c) (m * d) w)
    clear p1 p2
    generalize n * c = p at *
    generalize m * d = q at *
    go_enter Tryd.func17, Tryd.ntmps17
    go_wp2_with fail
    refine (rat_check n d _ hn hd).mono ?_
    rintro e w1 ⟨rfl, hb1⟩
    rw [E1.out]
    obtain ⟨hc1_0, hf1_0, hz1_0⟩ := own_stays hb1 (b := w.heap.size) (by go_simp)
    obtain ⟨hc1_1, hf1_1, hz1_1⟩ := own_stays hb1 (b := w.heap.size + 1) (by go_simp)
    go_wp2_with fail
    refine (rat_check m c _ hm hc).mono ?_
    rintro e w2 ⟨rfl, hb2⟩
    rw [E2.out]
    obtain ⟨hc2_0, hf2_0, hz2_0⟩ := own_stays hb2 (b := w.heap.size) hz1_0
    obtain ⟨hc2_1, hf2_1, hz2_1⟩ := own_stays hb2 (b := w.heap.size + 1) hz1_1
    go_wp2_with fail
    refine region_qb (fun W => W.cell? ⟨w.heap.size, 0, none⟩ = some (.int .i64 n) ∧ W.cell? ⟨w.heap.size, 1, none⟩ = some (.int .i64 d) ∧ W.cell? ⟨w.heap.size + 1, 0, none⟩ = some (.int .i64 m) ∧ W.cell? ⟨w.heap.size + 1, 1, none⟩ = some (.int .i64 c) ∧ Below w.heap.size w W) ⟨by go_simp, by go_simp, by go_simp, by go_simp, (by repeat (with_reducible (first | exact Below.refl _ _ | assumption | refine bl_alloc ?_ _ | refine bl_drewN ?_ _ | refine bl_drew ?_ | refine bl_call ?_ (by assumption) | (refine bl_setCell ?_ _ (Nat.le_refl _)) | (refine bl_setCell ?_ _ (by first | omega | (simp; done) | (simp; omega))))))⟩ (by kernel_rfl) (by kernel_rfl) ?_
    intro W ⟨k0, k1, k2, k3, hbW⟩
    replace k0 := rcell k0
    replace k1 := rcell k1
    replace k2 := rcell k2
    replace k3 := rcell k3
    repeat (quiet_step (first | with_reducible exact Calls.regrown_of (M1.out _) | with_reducible exact Calls.regrown_of (M2.out _) | with_reducible exact Calls.regrown_of (CC.out _)))
    refine wpQuiet_nil ?_
    intro w3 hb3
    go_wp2
    go_ret2
    exact ⟨ret_ii V.out.1.symm V.out.2.symm, bl_call hbW hb3⟩
set_option maxRecDepth 100000 in
set_option maxHeartbeats 1000000 in
theorem rat_floor (n d : Int) (w : World) (hn : In n) (hd : In d) :
    Calls Tryd.prog 21 #[ratA n d] w fun e w' => e = .returned (.tuple #[.int .i64 (flV n d), .int .i64 (ckR n d)]) ∧ Below w.heap.size w w' := by
  have CKC := Lib.hid (fun w => rat_check n d w hn hd)
  cases k : ckB n d
  · have E := Lib.hid (ck_false k).2
    have V := Lib.hid (show flV n d = 0 by unfold flV; rw [k]; rfl)
    clear k
    have CKC := CKC.out
    rw [E.out] at CKC ⊢
    rw [V.out]
    have CKC := Lib.hid CKC
    go_enter Tryd.func21, Tryd.ntmps21
    go_wp2_with fail
    refine (CKC.out _).mono ?_
    rintro e w1 ⟨rfl, hb1⟩
    go_wp2_with fail
    go_ret2
    exact ⟨rfl, (by repeat (with_reducible (first | exact Below.refl _ _ | assumption | refine bl_alloc ?_ _ | refine bl_drewN ?_ _ | refine bl_drew ?_ | refine bl_call ?_ (by assumption) | (refine bl_setCell ?_ _ (Nat.le_refl _)) | (refine bl_setCell ?_ _ (by first | omega | (simp; done) | (simp; omega))))))⟩
  · obtain ⟨h1, _, e⟩ := ck_true k
    have E := Lib.hid e
    have V := Lib.hid (show flV n d = n / d by unfold flV; rw [k]; rfl)
    obtain ⟨d1, d2, d3, d4⟩ := dv_one hn hd h1
    have D := fun w => whole_div n d w hn hd
    rw [d1, d2, d3] at D
    have D := Lib.hid D
    clear k e d1 d2 d3 d4
    have CKC := CKC.out
    rw [E.out] at CKC ⊢
    rw [V.out]
    have CKC := Lib.hid CKC
    generalize n / d = q at *
    generalize n % d = r at *
    go_enter Tryd.func21, Tryd.ntmps21
    go_wp2_with fail
    refine (CKC.out _).mono ?_
    rintro e w1 ⟨rfl, hb1⟩
    obtain ⟨hc1_0, hf1_0, hz1_0⟩ := own_stays hb1 (b := w.heap.size) (by first | (simp; done) | (simp; omega) | omega)
    go_wp2_with fail
    refine (D.out _).mono ?_
    rintro e w2 ⟨rfl, hb2⟩
    go_wp2_with fail
    go_ret2
    exact ⟨rfl, (by repeat (with_reducible (first | exact Below.refl _ _ | assumption | refine bl_alloc ?_ _ | refine bl_drewN ?_ _ | refine bl_drew ?_ | refine bl_call ?_ (by assumption) | (refine bl_setCell ?_ _ (Nat.le_refl _)) | (refine bl_setCell ?_ _ (by first | omega | (simp; done) | (simp; omega))))))⟩
set_option maxRecDepth 100000 in
set_option maxHeartbeats 1000000 in
theorem rat_ceil (n d : Int) (w : World) (hn : In n) (hd : In d) :
    Calls Tryd.prog 22 #[ratA n d] w fun e w' => e = .returned (.tuple #[.int .i64 (clV n d), .int .i64 (ckR n d)]) ∧ Below w.heap.size w w' := by
  have F := Lib.hid (fun w => rat_floor n d w hn hd)
  have F := F.out
  cases k : ckB n d
  · have E := (ck_false k).2
    have V : flV n d = 0 ∧ clV n d = 0 := by unfold flV clV; rw [k]; exact ⟨rfl, rfl⟩
    rw [E, V.1] at F
    rw [E, V.2]
    have F := Lib.hid F
    clear k E V
    go_enter Tryd.func22, Tryd.ntmps22
    go_wp2_with fail
    refine (F.out _).mono ?_
    rintro e w1 ⟨rfl, hb1⟩
    obtain ⟨hc1_0, hf1_0, hz1_0⟩ := own_stays hb1 (b := w.heap.size) (by first | (simp; done) | (simp; omega) | omega)
    go_wp2_with fail
    go_ret2
    exact ⟨rfl, (by repeat (with_reducible (first | exact Below.refl _ _ | assumption | refine bl_alloc ?_ _ | refine bl_drewN ?_ _ | refine bl_drew ?_ | refine bl_call ?_ (by assumption) | (refine bl_setCell ?_ _ (Nat.le_refl _)) | (refine bl_setCell ?_ _ (by first | omega | (simp; done) | (simp; omega))))))⟩
  · obtain ⟨h1, _, E⟩ := ck_true k
    have V : flV n d = n / d := by unfold flV; rw [k]; rfl
    rw [E, V] at F
    rw [E]
    by_cases h2 : 1 < d
    · have U : clV n d = n / d + 1 := by unfold clV; rw [k, if_pos rfl, if_pos h2]
      rw [U]
      obtain ⟨b0, b1⟩ := half_div hn h2
      have F := Lib.hid F
      clear k E V U
      generalize n / d = q at *
      go_enter Tryd.func22, Tryd.ntmps22
      go_wp2_with fail
      refine (F.out _).mono ?_
      rintro e w1 ⟨rfl, hb1⟩
      obtain ⟨hc1_0, hf1_0, hz1_0⟩ := own_stays hb1 (b := w.heap.size) (by first | (simp; done) | (simp; omega) | omega)
      go_wp2_with fail
      go_ret2
      exact ⟨rfl, (by repeat (with_reducible (first | exact Below.refl _ _ | assumption | refine bl_alloc ?_ _ | refine bl_drewN ?_ _ | refine bl_drew ?_ | refine bl_call ?_ (by assumption) | (refine bl_setCell ?_ _ (Nat.le_refl _)) | (refine bl_setCell ?_ _ (by first | omega | (simp; done) | (simp; omega))))))⟩
    · have U : clV n d = n / d := by unfold clV; rw [k, if_pos rfl, if_neg h2]
      rw [U]
      have F := Lib.hid F
      have h3 : d = 1 := by omega
      clear k E V U h2 h1
      subst h3
      generalize n / 1 = q at *
      go_enter Tryd.func22, Tryd.ntmps22
      go_wp2_with fail
      refine (F.out _).mono ?_
      rintro e w1 ⟨rfl, hb1⟩
      obtain ⟨hc1_0, hf1_0, hz1_0⟩ := own_stays hb1 (b := w.heap.size) (by first | (simp; done) | (simp; omega) | omega)
      go_wp2_with fail
      go_ret2
      exact ⟨rfl, (by repeat (with_reducible (first | exact Below.refl _ _ | assumption | refine bl_alloc ?_ _ | refine bl_drewN ?_ _ | refine bl_drew ?_ | refine bl_call ?_ (by assumption) | (refine bl_setCell ?_ _ (Nat.le_refl _)) | (refine bl_setCell ?_ _ (by first | omega | (simp; done) | (simp; omega))))))⟩
end Go.Proofs.YtkejohmghacdhaaDoor
