import Derived.Test.YtmkpkghhalpfaaaWeekE
import Derived.Test.YtmkpkghhalpfaaaMathF
namespace Go.Proofs.Ytmkpkghhalpfaaa
open Go.RowKit
set_option linter.unusedVariables false
set_option maxRecDepth 100000 in
set_option maxHeartbeats 4000000 in
theorem weekNext_any (n : Int) (w : World) (_ : In n) :
    Calls Try.prog 12 #[.int .i64 n] w fun e w' => e = .returned (.bool true) ∧ Below w.heap.size w w' := by
  by_cases y1 : n < 0
  · go_enter Try.func12, Try.ntmps12
    go_wp2_with fail
    refine (live6 _).mono ?_
    rintro e w1 ⟨rfl, hb1⟩
    go_wp2_with fail
    go_ret
    exact ⟨ret_b (by first | rfl | (simp; done)), (by repeat (with_reducible (first | exact Below.refl _ _ | assumption | refine bl_alloc ?_ _ | refine bl_drewN ?_ _ | refine bl_drew ?_ | refine bl_call ?_ (by assumption) | (refine bl_setCell ?_ _ (Nat.le_refl _)) | (refine bl_setCell ?_ _ (by simp)))))⟩
  by_cases y2 : 3068036 ≤ n
  · go_enter Try.func12, Try.ntmps12
    go_wp2_with fail
    refine (live6 _).mono ?_
    rintro e w1 ⟨rfl, hb1⟩
    go_wp2_with fail
    go_ret
    exact ⟨ret_b (by first | rfl | (simp; done)), (by repeat (with_reducible (first | exact Below.refl _ _ | assumption | refine bl_alloc ?_ _ | refine bl_drewN ?_ _ | refine bl_drew ?_ | refine bl_call ?_ (by assumption) | (refine bl_setCell ?_ _ (Nat.le_refl _)) | (refine bl_setCell ?_ _ (by simp)))))⟩
  have h : isB n = true := (isB_iff _).2 (by omega)
  have h1 : isB (n + 1) = true := (isB_iff _).2 (by omega)
  have d0 := dateE_true h
  have d1 := dateE_true h1
  obtain ⟨_, b1, b2, b3, b4, b5, b6, b7⟩ := iso_at n h
  clear b7
  have HI := Lib.hid (iso_any n)
  have HJ := Lib.hid (iso_any (n + 1))
  have z1 : 0 ≤ n := by omega
  have z2 : n ≤ 3068035 := by omega
  have hx := iso_next n h h1
  clear h h1 y1 y2
  have hm : 1600 ≤ isoY n → isoY n ≤ 9999 → dateE (thereB (isoY n) 1) = 0 := fun h1 h2 => (firV_of h1 h2).2
  generalize isoY n = Y at *
  generalize isoW n = W at *
  generalize isoD n = D at *
  generalize isoY (n + 1) = Y' at *
  generalize isoW (n + 1) = W' at *
  generalize isoD (n + 1) = D' at *
  rcases hx with ⟨c1, c2, c3, c4⟩ | ⟨c1, c2, c3, c4, c5⟩ | ⟨c1, c2, c3, c4, c5, c6, c7⟩ | ⟨c1, c2, c3, c4, c5, c6, c7⟩
  · clear hm
    go_enter Try.func12, Try.ntmps12
    go_wp2_with fail
    refine (live6 _).mono ?_
    rintro e w1 ⟨rfl, hb1⟩
    go_wp2_with fail
    refine (HI.out _).mono ?_
    rintro e w2 ⟨rfl, hb2⟩
    go_wp2_with fail
    refine (HJ.out _).mono ?_
    rintro e w3 ⟨rfl, hb3⟩
    obtain ⟨hc3_0, hf3_0, hz3_0⟩ := own_stays hb3 (b := w2.heap.size) (by first | (simp; done) | (simp; omega) | omega)
    go_wp2_with fail
    go_ret
    exact ⟨ret_b (by first | rfl | (simp; done)), (by repeat (with_reducible (first | exact Below.refl _ _ | assumption | refine bl_alloc ?_ _ | refine bl_drewN ?_ _ | refine bl_drew ?_ | refine bl_call ?_ (by assumption) | (refine bl_setCell ?_ _ (Nat.le_refl _)) | (refine bl_setCell ?_ _ (by simp)))))⟩
  · clear hm
    go_enter Try.func12, Try.ntmps12
    go_wp2_with fail
    refine (live6 _).mono ?_
    rintro e w1 ⟨rfl, hb1⟩
    go_wp2_with fail
    refine (HI.out _).mono ?_
    rintro e w2 ⟨rfl, hb2⟩
    go_wp2_with fail
    refine (HJ.out _).mono ?_
    rintro e w3 ⟨rfl, hb3⟩
    obtain ⟨hc3_0, hf3_0, hz3_0⟩ := own_stays hb3 (b := w2.heap.size) (by first | (simp; done) | (simp; omega) | omega)
    go_wp2_with fail
    go_ret
    exact ⟨ret_b (by first | rfl | (simp; done)), (by repeat (with_reducible (first | exact Below.refl _ _ | assumption | refine bl_alloc ?_ _ | refine bl_drewN ?_ _ | refine bl_drew ?_ | refine bl_call ?_ (by assumption) | (refine bl_setCell ?_ _ (Nat.le_refl _)) | (refine bl_setCell ?_ _ (by simp)))))⟩
  · have hm := hm c2 c3
    go_enter Try.func12, Try.ntmps12
    go_wp2_with fail
    refine (live6 _).mono ?_
    rintro e w1 ⟨rfl, hb1⟩
    go_wp2_with fail
    refine (HI.out _).mono ?_
    rintro e w2 ⟨rfl, hb2⟩
    go_wp2_with fail
    refine (HJ.out _).mono ?_
    rintro e w3 ⟨rfl, hb3⟩
    obtain ⟨hc3_0, hf3_0, hz3_0⟩ := own_stays hb3 (b := w2.heap.size) (by first | (simp; done) | (simp; omega) | omega)
    go_wp2_with fail
    refine (many_any _ _).mono ?_
    rintro e w4 ⟨rfl, hb4⟩
    obtain ⟨hc4_0, hf4_0, hz4_0⟩ := own_stays hb4 (b := w2.heap.size) (by first | (simp; done) | (simp; omega) | omega)
    obtain ⟨hc4_1, hf4_1, hz4_1⟩ := own_stays hb4 (b := w3.heap.size) (by first | (simp; done) | (simp; omega) | omega)
    go_wp2_with fail
    go_ret
    exact ⟨ret_b (by first | rfl | (simp; done)), (by repeat (with_reducible (first | exact Below.refl _ _ | assumption | refine bl_alloc ?_ _ | refine bl_drewN ?_ _ | refine bl_drew ?_ | refine bl_call ?_ (by assumption) | (refine bl_setCell ?_ _ (Nat.le_refl _)) | (refine bl_setCell ?_ _ (by simp)))))⟩
  · have hm := hm c2 c3
    have c8 : manyV Y ≤ W := by omega
    have c9 : (W == manyV Y) = true := by rw [beq_iff_eq]; exact c4
    clear c4
    go_enter Try.func12, Try.ntmps12
    go_wp2_with fail
    refine (live6 _).mono ?_
    rintro e w1 ⟨rfl, hb1⟩
    go_wp2_with fail
    refine (HI.out _).mono ?_
    rintro e w2 ⟨rfl, hb2⟩
    go_wp2_with fail
    refine (HJ.out _).mono ?_
    rintro e w3 ⟨rfl, hb3⟩
    obtain ⟨hc3_0, hf3_0, hz3_0⟩ := own_stays hb3 (b := w2.heap.size) (by first | (simp; done) | (simp; omega) | omega)
    go_wp2_with fail
    refine (many_any _ _).mono ?_
    rintro e w4 ⟨rfl, hb4⟩
    obtain ⟨hc4_0, hf4_0, hz4_0⟩ := own_stays hb4 (b := w2.heap.size) (by first | (simp; done) | (simp; omega) | omega)
    obtain ⟨hc4_1, hf4_1, hz4_1⟩ := own_stays hb4 (b := w3.heap.size) (by first | (simp; done) | (simp; omega) | omega)
    go_wp2_with fail
    go_ret
    exact ⟨ret_b (by first | rfl | (simp; done)), (by repeat (with_reducible (first | exact Below.refl _ _ | assumption | refine bl_alloc ?_ _ | refine bl_drewN ?_ _ | refine bl_drew ?_ | refine bl_call ?_ (by assumption) | (refine bl_setCell ?_ _ (Nat.le_refl _)) | (refine bl_setCell ?_ _ (by simp)))))⟩
end Go.Proofs.Ytmkpkghhalpfaaa
