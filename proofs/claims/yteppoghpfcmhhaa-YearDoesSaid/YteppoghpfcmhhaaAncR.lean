/- Contracts of the reference's chapter 13. -/
import Derived.Test.YteppoghpfcmhhaaFieldO
import Derived.Test.YteppoghpfcmhhaaAncB
import Derived.Test.YteppoghpfcmhhaaRefG
namespace Go.Proofs.Yteppoghpfcmhhaa
set_option linter.unusedVariables false
set_option linter.unusedSimpArgs false
open Go.RowKit
set_option maxHeartbeats 4000000 in
theorem rend_any (c : CalI) (y : Int) (w : World) (hs : c.name.size ≤ maxLen) :
    Calls Try.prog 17 #[calA c, .int .i64 y] w fun e w' => e = .returned (.tuple #[.int .i64 (endV c y), .int .i64 (tellE c y 1600)]) ∧ Below w.heap.size w w' := by
  have C := r11check_any c
  rcases tell_ways c y 1600 with ⟨h, h1, h2, h3⟩ | ⟨h, h1, h3⟩ | ⟨h, h1, h2, h3⟩ | ⟨h, h3⟩
  · rw [h] at C
    have C := Lib.hid (fun w => C w hs)
    have V := Lib.hid (show endV c y = endN c y from if_pos h3)
    have T := Lib.hid h3
    obtain ⟨r1, r2, r3, r4, r5, r6, r7, _⟩ := cal_rule c h
    obtain ⟨e1, _, e2, e3, e4, _⟩ := end_facts c h y h1 h2
    have kk : (c.kind = 1 ∨ c.kind = 4) ∨ c.kind = 6 ∨ (c.kind = 2 ∨ c.kind = 3 ∨ c.kind = 5) := by omega
    rcases kk with k | k | k
    · have E := fun w => rlast_any (y + c.shift) c.month c.day w
      rw [(e2 k).1, (e2 k).2] at E
      have E := Lib.hid E
      clear e1 e2 e3 e4 h h3 r7
      generalize endN c y = P at *
      rcases k with k | k
      · have k1 : (c.kind == 1) = true := by simpa using k
        clear k
        go_enter Try.func17, Try.ntmps17
        go_wp2_with fail
        refine (C.out _).mono ?_
        rintro e w1 ⟨rfl, hb1⟩
        obtain ⟨hc1_0, hf1_0, hz1_0⟩ := own_stays hb1 (b := w.heap.size) (by first | (simp; done) | (simp; omega) | omega)
        go_wp2_with fail
        refine (E.out _).mono ?_
        rintro e w2 ⟨rfl, hb2⟩
        go_wp2_with fail
        go_ret2
        exact ⟨ret_ii V.out.symm T.out.symm, (by repeat (with_reducible (first | exact Below.refl _ _ | assumption | refine bl_alloc ?_ _ | refine bl_drewN ?_ _ | refine bl_drew ?_ | refine bl_call ?_ (by assumption) | (refine bl_setCell ?_ _ (Nat.le_refl _)) | (refine bl_setCell ?_ _ (by simp)))))⟩
      · have k1 : (c.kind == 1) = false := by simp; omega
        have k4 : (c.kind == 4) = true := by simpa using k
        clear k
        go_enter Try.func17, Try.ntmps17
        go_wp2_with fail
        refine (C.out _).mono ?_
        rintro e w1 ⟨rfl, hb1⟩
        obtain ⟨hc1_0, hf1_0, hz1_0⟩ := own_stays hb1 (b := w.heap.size) (by first | (simp; done) | (simp; omega) | omega)
        go_wp2_with fail
        refine (E.out _).mono ?_
        rintro e w2 ⟨rfl, hb2⟩
        go_wp2_with fail
        go_ret2
        exact ⟨ret_ii V.out.symm T.out.symm, (by repeat (with_reducible (first | exact Below.refl _ _ | assumption | refine bl_alloc ?_ _ | refine bl_drewN ?_ _ | refine bl_drew ?_ | refine bl_call ?_ (by assumption) | (refine bl_setCell ?_ _ (Nat.le_refl _)) | (refine bl_setCell ?_ _ (by simp)))))⟩
    · obtain ⟨a1, a2, a3, a4⟩ := e3 k
      have L := fun w => rlength_any (y + c.shift) c.month w
      rw [a1, a2] at L
      have D := fun w => rday_any (y + c.shift) c.month (mlen (y + c.shift) c.month) w
      rw [a3, a4] at D
      have L := Lib.hid L
      have D := Lib.hid D
      have k1 : (c.kind == 1) = false := by simp; omega
      have k4 : (c.kind == 4) = false := by simp; omega
      have k6 : (c.kind == 6) = true := by simpa using k
      clear a1 a2 a3 a4 e1 e2 e3 e4 h h3 r7 k
      generalize mlen (y + c.shift) c.month = ml at *
      generalize endN c y = P at *
      go_enter Try.func17, Try.ntmps17
      go_wp2_with fail
      refine (C.out _).mono ?_
      rintro e w1 ⟨rfl, hb1⟩
      obtain ⟨hc1_0, hf1_0, hz1_0⟩ := own_stays hb1 (b := w.heap.size) (by first | (simp; done) | (simp; omega) | omega)
      go_wp2_with fail
      refine (L.out _).mono ?_
      rintro e w2 ⟨rfl, rfl⟩
      go_wp2_with fail
      refine (D.out _).mono ?_
      rintro e w3 ⟨rfl, hb3⟩
      go_wp2
      go_ret2
      exact ⟨ret_ii V.out.symm T.out.symm, (by repeat (with_reducible (first | exact Below.refl _ _ | assumption | refine bl_alloc ?_ _ | refine bl_drewN ?_ _ | refine bl_drew ?_ | refine bl_call ?_ (by assumption) | (refine bl_setCell ?_ _ (Nat.le_refl _)) | (refine bl_setCell ?_ _ (by simp)))))⟩
    · have E := fun w => rnear_any (y + c.shift) c.month c.day w
      rw [(e4 k).1, (e4 k).2] at E
      have E := Lib.hid E
      have k1 : (c.kind == 1) = false := by simp; omega
      have k4 : (c.kind == 4) = false := by simp; omega
      have k6 : (c.kind == 6) = false := by simp; omega
      clear e1 e2 e3 e4 h h3 r7 k
      generalize endN c y = P at *
      go_enter Try.func17, Try.ntmps17
      go_wp2_with fail
      refine (C.out _).mono ?_
      rintro e w1 ⟨rfl, hb1⟩
      obtain ⟨hc1_0, hf1_0, hz1_0⟩ := own_stays hb1 (b := w.heap.size) (by first | (simp; done) | (simp; omega) | omega)
      go_wp2_with fail
      refine (E.out _).mono ?_
      rintro e w2 ⟨rfl, hb2⟩
      go_wp2_with fail
      go_ret2
      exact ⟨ret_ii V.out.symm T.out.symm, (by repeat (with_reducible (first | exact Below.refl _ _ | assumption | refine bl_alloc ?_ _ | refine bl_drewN ?_ _ | refine bl_drew ?_ | refine bl_call ?_ (by assumption) | (refine bl_setCell ?_ _ (Nat.le_refl _)) | (refine bl_setCell ?_ _ (by simp)))))⟩
  all_goals
    rw [h] at C
    have C := Lib.hid (fun w => C w hs)
    have V := Lib.hid (show endV c y = 0 from if_neg (by omega))
    have T := Lib.hid h3
    clear h h3
    go_enter Try.func17, Try.ntmps17
    go_wp2_with fail
    refine (C.out _).mono ?_
    rintro e w1 ⟨rfl, hb1⟩
    obtain ⟨hc1_0, hf1_0, hz1_0⟩ := own_stays hb1 (b := w.heap.size) (by first | (simp; done) | (simp; omega) | omega)
    go_wp2_with fail
    go_ret2
    exact ⟨ret_ii V.out.symm T.out.symm, (by repeat (with_reducible (first | exact Below.refl _ _ | assumption | refine bl_alloc ?_ _ | refine bl_drewN ?_ _ | refine bl_drew ?_ | refine bl_call ?_ (by assumption) | (refine bl_setCell ?_ _ (Nat.le_refl _)) | (refine bl_setCell ?_ _ (by simp)))))⟩
set_option maxHeartbeats 1000000 in
theorem rtold_any (c : CalI) (y : Int) (w : World) (hs : c.name.size ≤ maxLen) :
    Calls Try.prog 48 #[calA c, .int .i64 y] w fun e w' => e = .returned (.int .i64 (tellE c y 1601)) ∧ Below w.heap.size w w' := by
  have C := r11check_any c
  rcases tell_ways c y 1601 with ⟨h, h1, h2, h3⟩ | ⟨h, h1, h3⟩ | ⟨h, h1, h2, h3⟩ | ⟨h, h3⟩
  all_goals
    rw [h] at C
    have C := Lib.hid (fun w => C w hs)
    have T := Lib.hid h3
    clear h h3
    go_enter Try.func48, Try.ntmps48
    go_wp2_with fail
    refine (C.out _).mono ?_
    rintro e w1 ⟨rfl, hb1⟩
    obtain ⟨hc1_0, hf1_0, hz1_0⟩ := own_stays hb1 (b := w.heap.size) (by first | (simp; done) | (simp; omega) | omega)
    go_wp2_with fail
    go_ret
    exact ⟨ret_i T.out.symm, (by repeat (with_reducible (first | exact Below.refl _ _ | assumption | refine bl_alloc ?_ _ | refine bl_drewN ?_ _ | refine bl_drew ?_ | refine bl_call ?_ (by assumption) | (refine bl_setCell ?_ _ (Nat.le_refl _)) | (refine bl_setCell ?_ _ (by simp)))))⟩
set_option maxHeartbeats 2000000 in
theorem rstart_any (c : CalI) (y : Int) (w : World) (hs : c.name.size ≤ maxLen) :
    Calls Try.prog 19 #[calA c, .int .i64 y] w fun e w' => e = .returned (.tuple #[.int .i64 (startV c y), .int .i64 (tellE c y 1601)]) ∧ Below w.heap.size w w' := by
  have C := rtold_any c y
  by_cases hE : tellE c y 1601 = 0
  · obtain ⟨a, b, d⟩ := tell_zero hE
    have E := rend_any c (y - 1)
    rw [show endV c (y - 1) = endN c (y - 1) from if_pos (tell_yes a (by omega) (by omega)), tell_yes a (by omega) (by omega)] at E
    have E := Lib.hid (fun w => E w hs)
    rw [hE] at C
    have C := Lib.hid (fun w => C w hs)
    obtain ⟨e3, e4⟩ := end_bd a (y := y - 1) (by omega) (by omega)
    have V := Lib.hid (show startV c y = endN c (y - 1) + 1 from if_pos hE)
    have T := Lib.hid hE
    clear a hE
    generalize endN c (y - 1) = P at *
    go_enter Try.func19, Try.ntmps19
    go_wp2_with fail
    refine (C.out _).mono ?_
    rintro e w1 ⟨rfl, hb1⟩
    obtain ⟨hc1_0, hf1_0, hz1_0⟩ := own_stays hb1 (b := w.heap.size) (by first | (simp; done) | (simp; omega) | omega)
    go_wp2_with fail
    refine (E.out _).mono ?_
    rintro e w2 ⟨rfl, hb2⟩
    go_wp2_with fail
    go_ret2
    exact ⟨ret_ii V.out.symm T.out.symm, (by repeat (with_reducible (first | exact Below.refl _ _ | assumption | refine bl_alloc ?_ _ | refine bl_drewN ?_ _ | refine bl_drew ?_ | refine bl_call ?_ (by assumption) | (refine bl_setCell ?_ _ (Nat.le_refl _)) | (refine bl_setCell ?_ _ (by simp)))))⟩
  · obtain ⟨t1, _⟩ := tell_not hE
    have V := Lib.hid (show startV c y = 0 from if_neg hE)
    have C := Lib.hid (fun w => C w hs)
    have t3 : (tellE c y 1601 != 0) = true := by simpa using t1
    clear hE
    generalize tellE c y 1601 = t at *
    go_enter Try.func19, Try.ntmps19
    go_wp2_with fail
    refine (C.out _).mono ?_
    rintro e w1 ⟨rfl, hb1⟩
    obtain ⟨hc1_0, hf1_0, hz1_0⟩ := own_stays hb1 (b := w.heap.size) (by first | (simp; done) | (simp; omega) | omega)
    go_wp2_with fail
    go_ret2
    exact ⟨ret_ii V.out.symm rfl, (by repeat (with_reducible (first | exact Below.refl _ _ | assumption | refine bl_alloc ?_ _ | refine bl_drewN ?_ _ | refine bl_drew ?_ | refine bl_call ?_ (by assumption) | (refine bl_setCell ?_ _ (Nat.le_refl _)) | (refine bl_setCell ?_ _ (by simp)))))⟩
set_option maxHeartbeats 2000000 in
theorem rdays_any (c : CalI) (y : Int) (w : World) (hs : c.name.size ≤ maxLen) :
    Calls Try.prog 21 #[calA c, .int .i64 y] w fun e w' => e = .returned (.tuple #[.int .i64 (daysV c y), .int .i64 (tellE c y 1601)]) ∧ Below w.heap.size w w' := by
  have C := rtold_any c y
  by_cases hE : tellE c y 1601 = 0
  · obtain ⟨a, b, d⟩ := tell_zero hE
    have E := rend_any c (y - 1)
    rw [show endV c (y - 1) = endN c (y - 1) from if_pos (tell_yes a (by omega) (by omega)), tell_yes a (by omega) (by omega)] at E
    have E := Lib.hid (fun w => E w hs)
    have F := rend_any c y
    rw [show endV c y = endN c y from if_pos (tell_yes a (by omega) d), tell_yes a (by omega) d] at F
    have F := Lib.hid (fun w => F w hs)
    rw [hE] at C
    have C := Lib.hid (fun w => C w hs)
    obtain ⟨e3, e4⟩ := end_bd a (y := y - 1) (by omega) (by omega)
    obtain ⟨e1, e2⟩ := end_bd a (y := y) (by omega) d
    have V := Lib.hid (show daysV c y = endN c y - endN c (y - 1) from if_pos hE)
    have T := Lib.hid hE
    clear a hE
    generalize hP : endN c (y - 1) = P at *
    generalize hR : endN c y = R at *
    clear hP hR
    go_enter Try.func21, Try.ntmps21
    go_wp2_with fail
    refine (C.out _).mono ?_
    rintro e w1 ⟨rfl, hb1⟩
    obtain ⟨hc1_0, hf1_0, hz1_0⟩ := own_stays hb1 (b := w.heap.size) (by first | (simp; done) | (simp; omega) | omega)
    go_wp2_with fail
    refine (E.out _).mono ?_
    rintro e w2 ⟨rfl, hb2⟩
    obtain ⟨hc2_0, hf2_0, hz2_0⟩ := own_stays hb2 (b := w.heap.size) (by first | (simp; done) | (simp; omega) | omega)
    go_wp2_with fail
    refine (F.out _).mono ?_
    rintro e w3 ⟨rfl, hb3⟩
    go_wp2_with fail
    go_ret2
    exact ⟨ret_ii V.out.symm T.out.symm, (by repeat (with_reducible (first | exact Below.refl _ _ | assumption | refine bl_alloc ?_ _ | refine bl_drewN ?_ _ | refine bl_drew ?_ | refine bl_call ?_ (by assumption) | (refine bl_setCell ?_ _ (Nat.le_refl _)) | (refine bl_setCell ?_ _ (by simp)))))⟩
  · obtain ⟨t1, _⟩ := tell_not hE
    have V := Lib.hid (show daysV c y = 0 from if_neg hE)
    have C := Lib.hid (fun w => C w hs)
    have t3 : (tellE c y 1601 != 0) = true := by simpa using t1
    clear hE
    generalize tellE c y 1601 = t at *
    go_enter Try.func21, Try.ntmps21
    go_wp2_with fail
    refine (C.out _).mono ?_
    rintro e w1 ⟨rfl, hb1⟩
    obtain ⟨hc1_0, hf1_0, hz1_0⟩ := own_stays hb1 (b := w.heap.size) (by first | (simp; done) | (simp; omega) | omega)
    go_wp2_with fail
    go_ret2
    exact ⟨ret_ii V.out.symm rfl, (by repeat (with_reducible (first | exact Below.refl _ _ | assumption | refine bl_alloc ?_ _ | refine bl_drewN ?_ _ | refine bl_drew ?_ | refine bl_call ?_ (by assumption) | (refine bl_setCell ?_ _ (Nat.le_refl _)) | (refine bl_setCell ?_ _ (by simp)))))⟩
set_option maxHeartbeats 1000000 in
theorem rweeks_any (c : CalI) (y : Int) (w : World) (hs : c.name.size ≤ maxLen) :
    Calls Try.prog 23 #[calA c, .int .i64 y] w fun e w' => e = .returned (.tuple #[.int .i64 (weeksV c y), .int .i64 (weeksE c y)]) ∧ Below w.heap.size w w' := by
  have C := r11check_any c
  rcases Bool.eq_false_or_eq_true (calB c) with h | h
  · rw [h] at C
    have C := Lib.hid (fun w => C w hs)
    by_cases k : c.kind = 6
    · have V := Lib.hid (show weeksV c y = 0 from if_neg (fun hh => hh.2 k))
      have V2 := Lib.hid (show weeksE c y = 1 from if_neg (fun hh => hh.2 k))
      have k6 : (c.kind == 6) = true := by simpa using k
      clear k h
      go_enter Try.func23, Try.ntmps23
      go_wp2_with fail
      refine (C.out _).mono ?_
      rintro e w1 ⟨rfl, hb1⟩
      obtain ⟨hc1_0, hf1_0, hz1_0⟩ := own_stays hb1 (b := w.heap.size) (by first | (simp; done) | (simp; omega) | omega)
      go_wp2_with fail
      go_ret2
      exact ⟨ret_ii V.out.symm V2.out.symm, (by repeat (with_reducible (first | exact Below.refl _ _ | assumption | refine bl_alloc ?_ _ | refine bl_drewN ?_ _ | refine bl_drew ?_ | refine bl_call ?_ (by assumption) | (refine bl_setCell ?_ _ (Nat.le_refl _)) | (refine bl_setCell ?_ _ (by simp)))))⟩
    · have V := Lib.hid (show weeksV c y = daysV c y / 7 from if_pos ⟨h, k⟩)
      have V2 := Lib.hid (show weeksE c y = tellE c y 1601 from if_pos ⟨h, k⟩)
      have k6 : (c.kind == 6) = false := by simpa using k
      have D := Lib.hid (fun w => rdays_any c y w hs)
      obtain ⟨b1, b2⟩ := daysV_bd c y
      clear k h
      generalize daysV c y = P at *
      generalize tellE c y 1601 = t at *
      go_enter Try.func23, Try.ntmps23
      go_wp2_with fail
      refine (C.out _).mono ?_
      rintro e w1 ⟨rfl, hb1⟩
      obtain ⟨hc1_0, hf1_0, hz1_0⟩ := own_stays hb1 (b := w.heap.size) (by first | (simp; done) | (simp; omega) | omega)
      go_wp2_with fail
      refine (D.out _).mono ?_
      rintro e w2 ⟨rfl, hb2⟩
      go_wp2_with fail
      go_ret2
      exact ⟨ret_ii V.out.symm V2.out.symm, (by repeat (with_reducible (first | exact Below.refl _ _ | assumption | refine bl_alloc ?_ _ | refine bl_drewN ?_ _ | refine bl_drew ?_ | refine bl_call ?_ (by assumption) | (refine bl_setCell ?_ _ (Nat.le_refl _)) | (refine bl_setCell ?_ _ (by simp)))))⟩
  · rw [h] at C
    have C := Lib.hid (fun w => C w hs)
    have V := Lib.hid (show weeksV c y = 0 from if_neg (by simp [h]))
    have V2 := Lib.hid (show weeksE c y = 1 from if_neg (by simp [h]))
    clear h
    go_enter Try.func23, Try.ntmps23
    go_wp2_with fail
    refine (C.out _).mono ?_
    rintro e w1 ⟨rfl, hb1⟩
    obtain ⟨hc1_0, hf1_0, hz1_0⟩ := own_stays hb1 (b := w.heap.size) (by first | (simp; done) | (simp; omega) | omega)
    go_wp2_with fail
    go_ret2
    exact ⟨ret_ii V.out.symm V2.out.symm, (by repeat (with_reducible (first | exact Below.refl _ _ | assumption | refine bl_alloc ?_ _ | refine bl_drewN ?_ _ | refine bl_drew ?_ | refine bl_call ?_ (by assumption) | (refine bl_setCell ?_ _ (Nat.le_refl _)) | (refine bl_setCell ?_ _ (by simp)))))⟩
end Go.Proofs.Yteppoghpfcmhhaa
