/- Contracts of the package wide: Sum. -/
import Derived.Test.YtkejohmghacdhaaDoorWideC
import Derived.Test.YtkejohmghacdhaaDoorKitT
namespace Go.Proofs.YtkejohmghacdhaaDoor
set_option linter.unusedVariables false
set_option linter.unusedSimpArgs false
open Go.RowKit
def sumI : List Int → Int
  | [] => 0
  | x :: xs => x + sumI xs
theorem sumI_append (xs ys : List Int) : sumI (xs ++ ys) = sumI xs + sumI ys := by
  induction xs with
  | nil => simp [sumI]
  | cons x xs ih => simp only [List.cons_append, sumI, ih]; omega
theorem sumI_take_succ (xs : List Int) (k : Nat) (h : k < xs.length) : sumI (xs.take (k + 1)) = sumI (xs.take k) + xs.getD k 0 := by
  rw [List.take_succ_eq_append_getElem h, sumI_append]
  simp [sumI, List.getD, h]
theorem sumI_bd (xs : List Int) (h : ∀ k, k < xs.length → In (xs.getD k 0)) : -(xs.length : Int) * 9223372036854775808 ≤ sumI xs ∧ sumI xs ≤ (xs.length : Int) * 9223372036854775808 := by
  induction xs with
  | nil => simp [sumI]
  | cons x xs ih =>
    have h0 : In x := by simpa using h 0 (by simp)
    have h1 := ih (fun k hk => by simpa using h (k + 1) (by simpa using hk))
    simp only [sumI, List.length_cons]
    unfold In at h0
    omega
theorem sumI_take_In (xs : List Int) (k : Nat) (h : ∀ k, k < xs.length → In (xs.getD k 0)) (hn : xs.length ≤ 9223372036854775807) : InW (sumI (xs.take k)) := by
  have hb := sumI_bd (xs.take k) (fun j hj => by
    have hj' : j < xs.length := by simp at hj; omega
    have := h j hj'
    have hj2 : j < k := by simp at hj; omega
    simpa [List.getD, List.getElem?_take, hj2] using this)
  have hl : (xs.take k).length ≤ xs.length := by simp; omega
  unfold InW
  omega
theorem addr_ne {b c : Nat} (h : b ≠ c) (o p : Nat) : (⟨b, o, none⟩ : Addr) ≠ ⟨c, p, none⟩ := fun e => h (by injection e)
set_option maxRecDepth 100000 in
set_option maxHeartbeats 2000000 in
theorem wsum_some (xs : List Int) (b off cap : Nat) (w : World) (hn : xs.length ≤ 9223372036854775807) (hx : ∀ k, k < xs.length → In (xs.getD k 0))
    (hbz : b < w.heap.size) (hc : ∀ k, k < xs.length → w.cell? ⟨b, off + k, none⟩ = some (.int .i64 (xs.getD k 0))) :
    Calls Tryd.prog 71 #[.slice (some ⟨b, off, none⟩) xs.length cap] w fun e w' => e = .returned (.tuple #[.int .i64 (capN (sumI xs)), .int .i64 (errN (sumI xs))]) ∧ Below w.heap.size w w' := by
  have HX := Lib.hid hx
  have HC := Lib.hid hc
  clear hx hc
  have S := Lib.hid (fun k => sumI_take_In xs k HX.out hn)
  generalize hlen : xs.length = n at *
  have HL := Lib.hid hlen
  clear hlen
  go_enter Tryd.func71, Tryd.ntmps71
  go_wp2
  go_loopw [11] (fun i wr => ∃ k : Nat, k ≤ n ∧ i = .int .i64 k ∧ Below w.heap.size w wr ∧ w.heap.size < wr.heap.size ∧ wr.cell? ⟨w.heap.size, 0, none⟩ = some (.int .i64 (hiW (sumI (xs.take k)))) ∧ wr.cell? ⟨w.heap.size, 1, none⟩ = some (.int .u64 (loW (sumI (xs.take k)))) ∧ (∀ o, wr.frozen? ⟨w.heap.size, o, none⟩ = false)) (fun i _ => n - (intOf i).toNat)
  case atStart => exact ⟨0, by omega, rfl, (by repeat (with_reducible (first | exact Below.refl _ _ | assumption | refine bl_alloc ?_ _ | refine bl_drewN ?_ _ | refine bl_drew ?_ | refine bl_call ?_ (by assumption) | (refine bl_setCell ?_ _ (Nat.le_refl _)) | (refine bl_setCell ?_ _ (by simp))))), by simp, by simp [sumI, hi_zero], by simp [sumI, lo_zero], by simp⟩
  case round =>
    obtain ⟨k, hk, rfl, hbr, hzr, q0, q1, qf⟩ := hrel
    by_cases hlt : k < n
    · have hcell : wr.cell? ⟨b, off + k, none⟩ = some (.int .i64 (xs.getD k 0)) := by
        rw [hbr.cell (p := ⟨b, off + k, none⟩) hbz]; exact HC.out k hlt
      have hin := HX.out k hlt
      have hS := S.out k
      have hS1 := S.out (k + 1)
      rw [sumI_take_succ xs k (by rw [HL.out]; exact hlt)] at hS1
      obtain ⟨e1, e2⟩ := capW_of hS1
      have ST := Lib.hid (sumI_take_succ xs k (by rw [HL.out]; exact hlt))
      generalize xs.getD k 0 = x at *
      generalize sumI (xs.take k) = s at *
      have hxw := InW_of_In hin
      clear hS1
      have HB := Lib.hid hbr
      have f0 := qf
      go_wp2_with fail
      clear hcell
      refine region_t (lay1 7 (Obj.cells #[.int .i64 0, .int .u64 0] 50)) (st1 8 7) (cl1 7) (fun W => W.cell? ⟨w.heap.size, 0, none⟩ = some (.int .i64 (hiW s)) ∧ W.cell? ⟨w.heap.size, 1, none⟩ = some (.int .u64 (loW s)) ∧ Below wr.heap.size wr W) ⟨by go_simp, by go_simp, (by repeat (with_reducible (first | exact Below.refl _ _ | assumption | refine bl_alloc ?_ _ | refine bl_drewN ?_ _ | refine bl_drew ?_ | refine bl_call ?_ (by assumption) | (refine bl_setCell ?_ _ (Nat.le_refl _)) | (refine bl_setCell ?_ _ (by simp)))))⟩ (by kernel_rfl) (by kernel_rfl) (kinds1 (by kernel_rfl)) ?_
      intro W ⟨k0, k1, hbW⟩
      replace k0 := rcell k0
      replace k1 := rcell k1
      repeat ((first | refine wpT_op true rfl rfl rfl (fun K hK => ?_) | refine wpT_op false rfl rfl rfl (fun K hK => ?_)); go_simp; first | (refine hK _ ?_; clear hK K) | (apply Exists.intro; refine ⟨fun _ => ?_, hK _ ?_⟩; (first | exact Calls.stay (wof_any _ _ hin) | exact Calls.stay (wadd_any _ _ _ hS hxw)); clear hK K))
      refine wpT_lay _ rfl ?_ ?_
      · exact ⟨fun a w => by go_simp, fun y => rfl⟩
      intro nb hnb
      refine wpT_st 7 nb _ (Obj.cells #[.int .i64 (hiW (s + x)), .int .u64 (loW (s + x))] 50) rfl rfl (upd_same _ _ _ _) hnb ⟨fun y => rfl, fun w1 hb1 hlt hx => ⟨_, ?_, touch_set2 hx (.int .i64 (hiW (s + x))) (.int .u64 (loW (s + x)))⟩⟩ ?_
      · have c0 := laid_cell hx 0 _ rfl
        have c1 := laid_cell hx 1 _ rfl
        have f0 := laid_free hx 0
        have f1 := laid_free hx 1
        clear hx hb1
        go_simp
      repeat ((first | refine wpT_op true rfl rfl rfl (fun K hK => ?_) | refine wpT_op false rfl rfl rfl (fun K hK => ?_)); go_simp; first | (refine hK _ ?_; clear hK K) | (apply Exists.intro; refine ⟨fun _ => ?_, hK _ ?_⟩; (fail); clear hK K))
      refine wpT_nil ?_
      intro w2 hfr
      obtain ⟨l1, l2, l3⟩ := hfr.low 7 nb _ (upd_same _ _ _ _)
      have hb2 := hfr.below
      have c0 := laid_cell l3 0 _ rfl
      have c1 := laid_cell l3 1 _ rfl
      have hbw : Below wr.heap.size wr w2 := bl_call hbW hb2
      obtain ⟨hc2, hf2, hz2⟩ := own_stays hbw hzr
      have f2 : ∀ o, w2.frozen? ⟨w.heap.size, o, none⟩ = false := fun o => (hf2 o).trans (qf o)
      have d0 : w2.cell? ⟨w.heap.size, 0, none⟩ = some (.int .i64 (hiW s)) := (hc2 0).trans q0
      have d1 : w2.cell? ⟨w.heap.size, 1, none⟩ = some (.int .u64 (loW s)) := (hc2 1).trans q1
      have HW := Lib.hid (show Below w.heap.size w w2 from bl_call hbr hbw)
      clear l3 hfr hc2 hf2 hbw hb2 hbr q0 q1 qf f0
      go_wp2
      go_roundw
      case rel =>
        obtain ⟨s0, s1⟩ := set2 (.int .i64 (hiW (s + x))) (.int .u64 (loW (s + x))) d0 d1
        exact ⟨k + 1, by omega, by go_num, bl_setCell (bl_setCell HW.out _ (Nat.le_refl _)) _ (Nat.le_refl _), by simpa using hz2, by rw [ST.out]; exact (World.cell?_setCell_other _ _ _ _ (by simp)).trans s0, by rw [ST.out]; exact s1, by intro o; simpa using f2 o⟩
      case measure => simp [intOf]; omega
    · have hkn : k = n := by omega
      have T := Lib.hid (show xs.take k = xs by rw [List.take_of_length_le]; have := HL.out; omega)
      rw [T.out] at q0 q1
      have hS := S.out k
      rw [T.out] at hS
      generalize hs : sumI xs = s at *
      have HS := Lib.hid hs
      clear hs
      have HB := Lib.hid hbr
      go_wp2_with fail
      refine (wfit_any s _ hS).mono ?_
      rintro e w1 ⟨rfl, hb1⟩
      go_wp2
      go_ret2
      exact ⟨ret_ii (by rw [HS.out]) (by rw [HS.out]), bl_call HB.out hb1⟩
set_option maxHeartbeats 400000 in
theorem wsum_nil (w : World) :
    Calls Tryd.prog 71 #[.slice none 0 0] w fun e w' => e = .returned (.tuple #[.int .i64 0, .int .i64 0]) ∧ Below w.heap.size w w' := by
  go_enter Tryd.func71, Tryd.ntmps71
  go_wp2
  refine wp_loop_rounds 1 ?_
  rw [rounds_succ]
  go_wp2_with fail
  have c := wfit_any 0
  unfold wideA at c
  rw [hi_zero, lo_zero] at c
  refine (c _ InW_zero).mono ?_
  rintro e w1 ⟨rfl, hb1⟩
  go_wp2
  go_ret2
  exact ⟨ret_ii (by decide) (by decide), bl_call (bl_alloc (Below.refl _ _) _) hb1⟩
theorem live2_sum : sumI [9223372036854775807, 1, -1] = 9223372036854775807 := by decide
end Go.Proofs.YtkejohmghacdhaaDoor
