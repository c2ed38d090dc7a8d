import Derived.Test.YteppoghpfcmhhaaLawAnchorNext
import Derived.Test.YteppoghpfcmhhaaMathJ
namespace Go.Proofs.Yteppoghpfcmhhaa
set_option linter.unusedVariables false
set_option linter.unusedSimpArgs false
open Go.RowKit
set_option maxRecDepth 100000 in
set_option maxHeartbeats 8000000 in
theorem anchorMonths_any (c : CalI) (y : Int) (w : World) (hc : CalOk c) (hy : In y) :
    Calls Try.prog 7 #[calA c, .int .i64 y] w fun e w' => e = .returned (.bool true) ∧ Below w.heap.size w w' := by
  have hs := hc.1
  have hs' := hs
  unfold maxLen at hs'
  by_cases hn : 100 < c.name.size
  · have hn' : (100 : Int) < c.name.size := by omega
    go_enter Try.func7, Try.ntmps7
    go_wp2_with fail
    refine (live13 _).mono ?_
    rintro e w1 ⟨rfl, hb1⟩
    obtain ⟨hc1_0, hf1_0, hz1_0⟩ := own_stays hb1 (b := w.heap.size) (by first | (simp; done) | (simp; omega) | omega)
    go_wp2_with fail
    go_ret
    exact ⟨rfl, (by repeat (with_reducible (first | exact Below.refl _ _ | assumption | refine bl_alloc ?_ _ | refine bl_drewN ?_ _ | refine bl_drew ?_ | refine bl_call ?_ (by assumption) | (refine bl_setCell ?_ _ (Nat.le_refl _)) | (refine bl_setCell ?_ _ (by simp)))))⟩
  have hn' : ¬ (100 : Int) < c.name.size := by omega
  by_cases k : c.kind = 6
  · have k6 : (c.kind == 6) = true := by simpa using k
    have k6' : (c.kind != 6) = false := by simpa using k
    have S := astart_any c y
    by_cases t : tellE c y 1601 = 0
    · obtain ⟨h, h1, h2⟩ := tell_zero t
      obtain ⟨m1, m2, m3, m4, m5, m6, m7, m8, m9⟩ := month_year c y h k h1 h2
      have S := Lib.hid (fun w => astart_told c y w hs h h1 h2)
      have E := Lib.hid (fun w => aend_told c y w hs h (by omega) h2)
      have A := fun w => of_any (endN c (y - 1) + 1) w
      have B := fun w => of_any (endN c y) w
      rw [m2, m3, m6] at A
      rw [m4, m5, m7] at B
      have A := Lib.hid A
      have B := Lib.hid B
      have D := adays_any c y
      rw [show daysV c y = _ from if_pos t, t] at D
      have D := Lib.hid (fun w => D w hs)
      have W := aweeks_any c y
      rw [show weeksV c y = 0 from if_neg (fun hh => hh.2 k), show weeksE c y = 1 from if_neg (fun hh => hh.2 k)] at W
      have W := Lib.hid (fun w => W w hs)
      obtain ⟨sh0, sh1⟩ := shift_bd h
      clear m2 m3 m4 m5 m6 m7 h t hc hy hn k
      generalize ofY (endN c (y - 1) + 1) = oy at *
      generalize ofD (endN c y) = od at *
      generalize hP : endN c y = P at *
      generalize hR : endN c (y - 1) = R at *
      clear hP hR
      rcases m1 with m1 | m1
      all_goals
        rw [m1] at D
        clear m1
        go_enter Try.func7, Try.ntmps7
        go_wp2_with fail
        refine (live13 _).mono ?_
        rintro e w1 ⟨rfl, hb1⟩
        obtain ⟨hc1_0, hf1_0, hz1_0⟩ := own_stays hb1 (b := w.heap.size) (by first | (simp; done) | (simp; omega) | omega)
        go_wp2_with fail
        refine (S.out _).mono ?_
        rintro e w2 ⟨rfl, hb2⟩
        obtain ⟨hc2_0, hf2_0, hz2_0⟩ := own_stays hb2 (b := w.heap.size) (by first | (simp; done) | (simp; omega) | omega)
        go_wp2_with fail
        refine (E.out _).mono ?_
        rintro e w3 ⟨rfl, hb3⟩
        obtain ⟨hc3_0, hf3_0, hz3_0⟩ := own_stays hb3 (b := w.heap.size) (by first | (simp; done) | (simp; omega) | omega)
        go_wp2_with fail
        refine (A.out _).mono ?_
        rintro e w4 ⟨rfl, hb4⟩
        obtain ⟨hc4_0, hf4_0, hz4_0⟩ := own_stays hb4 (b := w.heap.size) (by first | (simp; done) | (simp; omega) | omega)
        go_wp2_with fail
        refine (B.out _).mono ?_
        rintro e w5 ⟨rfl, hb5⟩
        obtain ⟨hc5_0, hf5_0, hz5_0⟩ := own_stays hb5 (b := w.heap.size) (by first | (simp; done) | (simp; omega) | omega)
        obtain ⟨hc5_1, hf5_1, hz5_1⟩ := own_stays hb5 (b := w4.heap.size) (by first | (simp; done) | (simp; omega) | omega)
        go_wp2_with fail
        refine (D.out _).mono ?_
        rintro e w6 ⟨rfl, hb6⟩
        obtain ⟨hc6_0, hf6_0, hz6_0⟩ := own_stays hb6 (b := w.heap.size) (by first | (simp; done) | (simp; omega) | omega)
        obtain ⟨hc6_1, hf6_1, hz6_1⟩ := own_stays hb6 (b := w4.heap.size) (by first | (simp; done) | (simp; omega) | omega)
        obtain ⟨hc6_2, hf6_2, hz6_2⟩ := own_stays hb6 (b := w5.heap.size) (by first | (simp; done) | (simp; omega) | omega)
        go_wp2_with fail
        refine (W.out _).mono ?_
        rintro e w7 ⟨rfl, hb7⟩
        obtain ⟨hc7_0, hf7_0, hz7_0⟩ := own_stays hb7 (b := w.heap.size) (by first | (simp; done) | (simp; omega) | omega)
        obtain ⟨hc7_1, hf7_1, hz7_1⟩ := own_stays hb7 (b := w4.heap.size) (by first | (simp; done) | (simp; omega) | omega)
        obtain ⟨hc7_2, hf7_2, hz7_2⟩ := own_stays hb7 (b := w5.heap.size) (by first | (simp; done) | (simp; omega) | omega)
        go_wp2_with fail
        go_ret
        exact ⟨ret_b (by first | rfl | (simp; done)), (by repeat (with_reducible (first | exact Below.refl _ _ | assumption | refine bl_alloc ?_ _ | refine bl_drewN ?_ _ | refine bl_drew ?_ | refine bl_call ?_ (by assumption) | (refine bl_setCell ?_ _ (Nat.le_refl _)) | (refine bl_setCell ?_ _ (by simp)))))⟩
    · obtain ⟨t1, _⟩ := tell_not t
      rw [show startV c y = 0 from if_neg t] at S
      have S := Lib.hid (fun w => S w hs)
      have E := Lib.hid (fun w => aend_any c y w hs)
      have t3 : (tellE c y 1601 != 0) = true := by simpa using t1
      clear t hc hy hn k
      generalize tellE c y 1601 = t at *
      generalize tellE c y 1600 = u at *
      generalize endV c y = v at *
      go_enter Try.func7, Try.ntmps7
      go_wp2_with fail
      refine (live13 _).mono ?_
      rintro e w1 ⟨rfl, hb1⟩
      obtain ⟨hc1_0, hf1_0, hz1_0⟩ := own_stays hb1 (b := w.heap.size) (by first | (simp; done) | (simp; omega) | omega)
      go_wp2_with fail
      refine (S.out _).mono ?_
      rintro e w2 ⟨rfl, hb2⟩
      obtain ⟨hc2_0, hf2_0, hz2_0⟩ := own_stays hb2 (b := w.heap.size) (by first | (simp; done) | (simp; omega) | omega)
      go_wp2_with fail
      refine (E.out _).mono ?_
      rintro e w3 ⟨rfl, hb3⟩
      obtain ⟨hc3_0, hf3_0, hz3_0⟩ := own_stays hb3 (b := w.heap.size) (by first | (simp; done) | (simp; omega) | omega)
      go_wp2_with fail
      go_ret
      exact ⟨ret_b (by first | rfl | (simp; done)), (by repeat (with_reducible (first | exact Below.refl _ _ | assumption | refine bl_alloc ?_ _ | refine bl_drewN ?_ _ | refine bl_drew ?_ | refine bl_call ?_ (by assumption) | (refine bl_setCell ?_ _ (Nat.le_refl _)) | (refine bl_setCell ?_ _ (by simp)))))⟩
  · have k6 : (c.kind == 6) = false := by simpa using k
    have k6' : (c.kind != 6) = true := by simpa using k
    clear k hc hy hn
    go_enter Try.func7, Try.ntmps7
    go_wp2_with fail
    refine (live13 _).mono ?_
    rintro e w1 ⟨rfl, hb1⟩
    obtain ⟨hc1_0, hf1_0, hz1_0⟩ := own_stays hb1 (b := w.heap.size) (by first | (simp; done) | (simp; omega) | omega)
    go_wp2_with fail
    go_ret
    exact ⟨ret_b (by first | rfl | (simp; done)), (by repeat (with_reducible (first | exact Below.refl _ _ | assumption | refine bl_alloc ?_ _ | refine bl_drewN ?_ _ | refine bl_drew ?_ | refine bl_call ?_ (by assumption) | (refine bl_setCell ?_ _ (Nat.le_refl _)) | (refine bl_setCell ?_ _ (by simp)))))⟩
end Go.Proofs.Yteppoghpfcmhhaa
