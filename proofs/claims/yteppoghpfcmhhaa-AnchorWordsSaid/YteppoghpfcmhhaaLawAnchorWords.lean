import Derived.Test.YteppoghpfcmhhaaLawAnchorNext
import Derived.Test.YteppoghpfcmhhaaMathJ
namespace Go.Proofs.Yteppoghpfcmhhaa
set_option linter.unusedVariables false
set_option linter.unusedSimpArgs false
open Go.RowKit
set_option maxRecDepth 100000 in
set_option maxHeartbeats 8000000 in
theorem anchorWords_any (c : CalI) (y : Int) (w : World) (hc : CalOk c) (hy : In y) :
    Calls Try.prog 6 #[calA c, .int .i64 y] w fun e w' => e = .returned (.bool true) ∧ Below w.heap.size w w' := by
  have hs := hc.1
  have hs' := hs
  unfold maxLen at hs'
  by_cases hn : 100 < c.name.size
  · have hn' : (100 : Int) < c.name.size := by omega
    go_enter Try.func6, Try.ntmps6
    go_wp2_with fail
    refine (live13 _).mono ?_
    rintro e w1 ⟨rfl, hb1⟩
    obtain ⟨hc1_0, hf1_0, hz1_0⟩ := own_stays hb1 (b := w.heap.size) (by first | (simp; done) | (simp; omega) | omega)
    go_wp2_with fail
    go_ret
    exact ⟨rfl, (by repeat (with_reducible (first | exact Below.refl _ _ | assumption | refine bl_alloc ?_ _ | refine bl_drewN ?_ _ | refine bl_drew ?_ | refine bl_call ?_ (by assumption) | (refine bl_setCell ?_ _ (Nat.le_refl _)) | (refine bl_setCell ?_ _ (by simp)))))⟩
  have hn' : ¬ (100 : Int) < c.name.size := by omega
  have E := aend_any c y
  by_cases t : tellE c y 1600 = 0
  · obtain ⟨h, h1, h2⟩ := tell_zero t
    obtain ⟨f1, f2, f3, f4, f5, f6, f7, f8, f9, ff⟩ := words_facts c y h h1 h2
    obtain ⟨sh0, sh1⟩ := shift_bd h
    have E := Lib.hid (fun w => aend_told c y w hs h h1 h2)
    have O := fun w => of_any (endN c y) w
    rw [f1] at O
    have L := fun w => length_any (y + c.shift) c.month w
    rw [f2, f3] at L
    have D := fun w => day_any (y + c.shift) c.month (mlen (y + c.shift) c.month) w
    rw [f4, f5] at D
    have U := fun w => weekday_any (endN c y) w
    rw [f1] at U
    have L := Lib.hid L
    have D := Lib.hid D
    clear f1 f2 f3 f4 f5 h t hc hy hn
    generalize mlen (y + c.shift) c.month = ml at *
    generalize eomI (y + c.shift) c.month = em at *
    rcases ff with ⟨k, e⟩ | ⟨k6, wd, k, o1, o2, o3, o4, o5⟩ | ⟨k6, wd, k1, k4, n1, n2⟩
    · rw [e] at E O U
      have k6 : (c.kind == 6) = true := by simpa using k
      have O := Lib.hid O
      have U := Lib.hid U
      clear k e
      go_enter Try.func6, Try.ntmps6
      go_wp2_with fail
      refine (live13 _).mono ?_
      rintro e w1 ⟨rfl, hb1⟩
      obtain ⟨hc1_0, hf1_0, hz1_0⟩ := own_stays hb1 (b := w.heap.size) (by first | (simp; done) | (simp; omega) | omega)
      go_wp2_with fail
      refine (E.out _).mono ?_
      rintro e w2 ⟨rfl, hb2⟩
      obtain ⟨hc2_0, hf2_0, hz2_0⟩ := own_stays hb2 (b := w.heap.size) (by first | (simp; done) | (simp; omega) | omega)
      go_wp2_with fail
      refine (O.out _).mono ?_
      rintro e w3 ⟨rfl, hb3⟩
      obtain ⟨hc3_0, hf3_0, hz3_0⟩ := own_stays hb3 (b := w.heap.size) (by first | (simp; done) | (simp; omega) | omega)
      go_wp2_with fail
      refine (L.out _).mono ?_
      rintro e w4 ⟨rfl, hb4⟩
      obtain ⟨hc4_0, hf4_0, hz4_0⟩ := own_stays hb4 (b := w.heap.size) (by first | (simp; done) | (simp; omega) | omega)
      obtain ⟨hc4_1, hf4_1, hz4_1⟩ := own_stays hb4 (b := w3.heap.size) (by first | (simp; done) | (simp; omega) | omega)
      go_wp2_with fail
      refine (D.out _).mono ?_
      rintro e w5 ⟨rfl, hb5⟩
      obtain ⟨hc5_0, hf5_0, hz5_0⟩ := own_stays hb5 (b := w.heap.size) (by first | (simp; done) | (simp; omega) | omega)
      obtain ⟨hc5_1, hf5_1, hz5_1⟩ := own_stays hb5 (b := w3.heap.size) (by first | (simp; done) | (simp; omega) | omega)
      go_wp2_with fail
      go_wp2_with fail
      refine (U.out _).mono ?_
      rintro e w6 ⟨rfl, rfl⟩
      go_wp2
      go_ret
      exact ⟨ret_b (by first | rfl | (simp; done)), (by repeat (with_reducible (first | exact Below.refl _ _ | assumption | refine bl_alloc ?_ _ | refine bl_drewN ?_ _ | refine bl_drew ?_ | refine bl_call ?_ (by assumption) | (refine bl_setCell ?_ _ (Nat.le_refl _)) | (refine bl_setCell ?_ _ (by simp)))))⟩
    · rw [o1, o2] at O
      rw [wd] at U
      have O := Lib.hid O
      have U := Lib.hid U
      clear wd o1 o2
      generalize ofD (endN c y) = od at *
      generalize endN c y = P at *
      rcases k with k | k
      all_goals
        have kk : (c.kind == 1) = decide (c.kind = 1) := rfl
        first
          | (have k1 : (c.kind == 1) = true := by simpa using k)
          | (have k1 : (c.kind == 1) = false := by simp; omega)
        have k4 : (c.kind == 4) = decide (c.kind = 4) := rfl
        clear kk k4
        have k4 : (c.kind == 4) = !(c.kind == 1) := by rw [k1]; simp; omega
        rw [k1] at k4
        clear k
        go_enter Try.func6, Try.ntmps6
        go_wp2_with fail
        refine (live13 _).mono ?_
        rintro e w1 ⟨rfl, hb1⟩
        obtain ⟨hc1_0, hf1_0, hz1_0⟩ := own_stays hb1 (b := w.heap.size) (by first | (simp; done) | (simp; omega) | omega)
        go_wp2_with fail
        refine (E.out _).mono ?_
        rintro e w2 ⟨rfl, hb2⟩
        obtain ⟨hc2_0, hf2_0, hz2_0⟩ := own_stays hb2 (b := w.heap.size) (by first | (simp; done) | (simp; omega) | omega)
        go_wp2_with fail
        refine (O.out _).mono ?_
        rintro e w3 ⟨rfl, hb3⟩
        obtain ⟨hc3_0, hf3_0, hz3_0⟩ := own_stays hb3 (b := w.heap.size) (by first | (simp; done) | (simp; omega) | omega)
        go_wp2_with fail
        refine (L.out _).mono ?_
        rintro e w4 ⟨rfl, hb4⟩
        obtain ⟨hc4_0, hf4_0, hz4_0⟩ := own_stays hb4 (b := w.heap.size) (by first | (simp; done) | (simp; omega) | omega)
        obtain ⟨hc4_1, hf4_1, hz4_1⟩ := own_stays hb4 (b := w3.heap.size) (by first | (simp; done) | (simp; omega) | omega)
        go_wp2_with fail
        refine (D.out _).mono ?_
        rintro e w5 ⟨rfl, hb5⟩
        obtain ⟨hc5_0, hf5_0, hz5_0⟩ := own_stays hb5 (b := w.heap.size) (by first | (simp; done) | (simp; omega) | omega)
        obtain ⟨hc5_1, hf5_1, hz5_1⟩ := own_stays hb5 (b := w3.heap.size) (by first | (simp; done) | (simp; omega) | omega)
        go_wp2_with fail
        go_wp2_with fail
        refine (U.out _).mono ?_
        rintro e w6 ⟨rfl, rfl⟩
        go_wp2
        go_ret
        exact ⟨ret_b (by first | rfl | (simp; done)), (by repeat (with_reducible (first | exact Below.refl _ _ | assumption | refine bl_alloc ?_ _ | refine bl_drewN ?_ _ | refine bl_drew ?_ | refine bl_call ?_ (by assumption) | (refine bl_setCell ?_ _ (Nat.le_refl _)) | (refine bl_setCell ?_ _ (by simp)))))⟩
    · rw [wd] at U
      have O := Lib.hid O
      have U := Lib.hid U
      clear wd
      generalize ofY (endN c y) = oy at *
      generalize ofM (endN c y) = om at *
      generalize ofD (endN c y) = od at *
      generalize endN c y = P at *
      go_enter Try.func6, Try.ntmps6
      go_wp2_with fail
      refine (live13 _).mono ?_
      rintro e w1 ⟨rfl, hb1⟩
      obtain ⟨hc1_0, hf1_0, hz1_0⟩ := own_stays hb1 (b := w.heap.size) (by first | (simp; done) | (simp; omega) | omega)
      go_wp2_with fail
      refine (E.out _).mono ?_
      rintro e w2 ⟨rfl, hb2⟩
      obtain ⟨hc2_0, hf2_0, hz2_0⟩ := own_stays hb2 (b := w.heap.size) (by first | (simp; done) | (simp; omega) | omega)
      go_wp2_with fail
      refine (O.out _).mono ?_
      rintro e w3 ⟨rfl, hb3⟩
      obtain ⟨hc3_0, hf3_0, hz3_0⟩ := own_stays hb3 (b := w.heap.size) (by first | (simp; done) | (simp; omega) | omega)
      go_wp2_with fail
      refine (L.out _).mono ?_
      rintro e w4 ⟨rfl, hb4⟩
      obtain ⟨hc4_0, hf4_0, hz4_0⟩ := own_stays hb4 (b := w.heap.size) (by first | (simp; done) | (simp; omega) | omega)
      obtain ⟨hc4_1, hf4_1, hz4_1⟩ := own_stays hb4 (b := w3.heap.size) (by first | (simp; done) | (simp; omega) | omega)
      go_wp2_with fail
      refine (D.out _).mono ?_
      rintro e w5 ⟨rfl, hb5⟩
      obtain ⟨hc5_0, hf5_0, hz5_0⟩ := own_stays hb5 (b := w.heap.size) (by first | (simp; done) | (simp; omega) | omega)
      obtain ⟨hc5_1, hf5_1, hz5_1⟩ := own_stays hb5 (b := w3.heap.size) (by first | (simp; done) | (simp; omega) | omega)
      go_wp2_with fail
      go_wp2_with fail
      refine (U.out _).mono ?_
      rintro e w6 ⟨rfl, rfl⟩
      go_wp2
      go_ret
      exact ⟨ret_b (by first | rfl | (simp; done)), (by repeat (with_reducible (first | exact Below.refl _ _ | assumption | refine bl_alloc ?_ _ | refine bl_drewN ?_ _ | refine bl_drew ?_ | refine bl_call ?_ (by assumption) | (refine bl_setCell ?_ _ (Nat.le_refl _)) | (refine bl_setCell ?_ _ (by simp)))))⟩
  · obtain ⟨t1, _⟩ := tell_not t
    rw [show endV c y = 0 from if_neg t] at E
    have E := Lib.hid (fun w => E w hs)
    have t3 : (tellE c y 1600 != 0) = true := by simpa using t1
    clear t hc hy hn
    generalize tellE c y 1600 = t at *
    go_enter Try.func6, Try.ntmps6
    go_wp2_with fail
    refine (live13 _).mono ?_
    rintro e w1 ⟨rfl, hb1⟩
    obtain ⟨hc1_0, hf1_0, hz1_0⟩ := own_stays hb1 (b := w.heap.size) (by first | (simp; done) | (simp; omega) | omega)
    go_wp2_with fail
    refine (E.out _).mono ?_
    rintro e w2 ⟨rfl, hb2⟩
    obtain ⟨hc2_0, hf2_0, hz2_0⟩ := own_stays hb2 (b := w.heap.size) (by first | (simp; done) | (simp; omega) | omega)
    go_wp2_with fail
    go_ret
    exact ⟨ret_b (by first | rfl | (simp; done)), (by repeat (with_reducible (first | exact Below.refl _ _ | assumption | refine bl_alloc ?_ _ | refine bl_drewN ?_ _ | refine bl_drew ?_ | refine bl_call ?_ (by assumption) | (refine bl_setCell ?_ _ (Nat.le_refl _)) | (refine bl_setCell ?_ _ (by simp)))))⟩
end Go.Proofs.Yteppoghpfcmhhaa
