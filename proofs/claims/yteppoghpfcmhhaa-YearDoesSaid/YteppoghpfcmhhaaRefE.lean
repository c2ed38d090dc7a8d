/- Contracts of the package quarterdayref05: Of. -/
import Derived.Test.YteppoghpfcmhhaaRefD
namespace Go.Proofs.Yteppoghpfcmhhaa
set_option linter.unusedVariables false
set_option linter.unusedSimpArgs false
open Go.RowKit
/-- the two blocks of 'Of': what it hands back, and its date -/
structure OfW (w wr : World) (y m d : Int) : Prop where
  d0 : wr.cell? ⟨w.heap.size + 1, 0, none⟩ = some (.int .i64 y)
  d1 : wr.cell? ⟨w.heap.size + 1, 1, none⟩ = some (.int .i64 m)
  d2 : wr.cell? ⟨w.heap.size + 1, 2, none⟩ = some (.int .i64 d)
  df : ∀ o, wr.frozen? ⟨w.heap.size + 1, o, none⟩ = false
  r0 : wr.cell? ⟨w.heap.size, 0, none⟩ = some (.int .i64 0)
  r1 : wr.cell? ⟨w.heap.size, 1, none⟩ = some (.int .i64 0)
  r2 : wr.cell? ⟨w.heap.size, 2, none⟩ = some (.int .i64 0)
  rf : ∀ o, wr.frozen? ⟨w.heap.size, o, none⟩ = false
  sz : w.heap.size + 1 < wr.heap.size
  bl : Below w.heap.size w wr
theorem OfW.set0 {w wr : World} {y m d : Int} (h : OfW w wr y m d) (x : Int) : OfW w (wr.setCell ⟨w.heap.size + 1, 0, none⟩ (.int .i64 x)) x m d :=
  ⟨World.cell?_setCell_same _ _ _ h.d0, by rw [World.cell?_setCell_other _ _ _ _ (by simp)]; exact h.d1, by rw [World.cell?_setCell_other _ _ _ _ (by simp)]; exact h.d2, fun o => by simpa using h.df o,
    by rw [World.cell?_setCell_other _ _ _ _ (by simp)]; exact h.r0, by rw [World.cell?_setCell_other _ _ _ _ (by simp)]; exact h.r1, by rw [World.cell?_setCell_other _ _ _ _ (by simp)]; exact h.r2, fun o => by simpa using h.rf o, by simpa using h.sz, bl_setCell h.bl _ (by simp)⟩
theorem OfW.set1 {w wr : World} {y m d : Int} (h : OfW w wr y m d) (x : Int) : OfW w (wr.setCell ⟨w.heap.size + 1, 1, none⟩ (.int .i64 x)) y x d :=
  ⟨by rw [World.cell?_setCell_other _ _ _ _ (by simp)]; exact h.d0, World.cell?_setCell_same _ _ _ h.d1, by rw [World.cell?_setCell_other _ _ _ _ (by simp)]; exact h.d2, fun o => by simpa using h.df o,
    by rw [World.cell?_setCell_other _ _ _ _ (by simp)]; exact h.r0, by rw [World.cell?_setCell_other _ _ _ _ (by simp)]; exact h.r1, by rw [World.cell?_setCell_other _ _ _ _ (by simp)]; exact h.r2, fun o => by simpa using h.rf o, by simpa using h.sz, bl_setCell h.bl _ (by simp)⟩
theorem OfW.set2 {w wr : World} {y m d : Int} (h : OfW w wr y m d) (x : Int) : OfW w (wr.setCell ⟨w.heap.size + 1, 2, none⟩ (.int .i64 x)) y m x :=
  ⟨by rw [World.cell?_setCell_other _ _ _ _ (by simp)]; exact h.d0, by rw [World.cell?_setCell_other _ _ _ _ (by simp)]; exact h.d1, World.cell?_setCell_same _ _ _ h.d2, fun o => by simpa using h.df o,
    by rw [World.cell?_setCell_other _ _ _ _ (by simp)]; exact h.r0, by rw [World.cell?_setCell_other _ _ _ _ (by simp)]; exact h.r1, by rw [World.cell?_setCell_other _ _ _ _ (by simp)]; exact h.r2, fun o => by simpa using h.rf o, by simpa using h.sz, bl_setCell h.bl _ (by simp)⟩
theorem y_le {n y r : Int} (h1 : n < 3068037) (hr : 0 ≤ r) (e : r + yearsI y = n) : y ≤ 9999 := by
  refine Classical.byContradiction fun hc => ?_
  have := years_mono 10000 y (by omega) (by omega)
  rw [years_10000] at this
  omega
set_option maxHeartbeats 1000000 in
theorem rof_no (n : Int) (w : World) (h : isB n = false) :
    Calls Try.prog 62 #[.int .i64 n] w fun e w' => e = .returned (.tuple #[dateA (ofY n) (ofM n) (ofD n), .int .i64 (dateE (isB n))]) ∧ Below w.heap.size w w' := by
  obtain ⟨e1, e2, e3⟩ := of_none n h
  have E := Lib.hid (dateE_false h)
  rw [e1, e2, e3, E.out]
  have b1 := mt (isB_iff n).2 (by simp [h])
  have c : n < 0 ∨ (0 ≤ n ∧ 3068036 < n) := by omega
  clear e1 e2 e3 b1 h
  rcases c with c | ⟨c, c'⟩
  all_goals
    go_enter Try.func62, Try.ntmps62
    go_wp2
    exact bodyPost_ret (v := .tuple #[dateA 0 0 0, .int .i64 4]) (by simp [results, Try.results62, go_sem]) rfl ⟨rfl, (by repeat (with_reducible (first | exact Below.refl _ _ | assumption | refine bl_alloc ?_ _ | refine bl_drewN ?_ _ | refine bl_drew ?_ | refine bl_call ?_ (by assumption) | (refine bl_setCell ?_ _ (Nat.le_refl _)) | (refine bl_setCell ?_ _ (by simp)))))⟩
set_option maxRecDepth 100000 in
set_option maxHeartbeats 4000000 in
theorem rof_yes (n : Int) (w : World) (h : isB n = true) :
    Calls Try.prog 62 #[.int .i64 n] w fun e w' => e = .returned (.tuple #[dateA (ofY n) (ofM n) (ofD n), .int .i64 (dateE (isB n))]) ∧ Below w.heap.size w w' := by
  obtain ⟨h0, h1⟩ := (isB_iff n).1 h
  have E := Lib.hid (dateE_true h)
  rw [E.out]
  have Y6 := Lib.hid years_1600
  clear h
  go_enter Try.func62, Try.ntmps62
  go_wp2
  go_loopw [0] (fun t wr => ∃ y r : Int, 1600 ≤ y ∧ 0 ≤ r ∧ r + yearsI y = n ∧ t = .int .i64 r ∧ OfW w wr y 1 1) (fun t _ => (intOf t).toNat)
  case atStart => exact ⟨1600, n, by omega, h0, by rw [Y6.out]; omega, rfl, ⟨by simp, by simp, by simp, by simp, by simp, by simp, by simp, by simp, by simp, (by repeat (with_reducible (first | exact Below.refl _ _ | assumption | refine bl_alloc ?_ _ | refine bl_drewN ?_ _ | refine bl_drew ?_ | refine bl_call ?_ (by assumption) | (refine bl_setCell ?_ _ (Nat.le_refl _)) | (refine bl_setCell ?_ _ (by simp)))))⟩⟩
  case round =>
    obtain ⟨y, r, y1, r0, e1, rfl, F⟩ := hrel
    have y2 := y_le h1 r0 e1
    have E1 := Lib.hid e1
    have yb := years_bd y y1 (by omega)
    have rb : r < 3068037 := by omega
    obtain ⟨d0, d1, d2, df, q0, q1, q2, rf, sz, bl⟩ := F
    have FF := Lib.hid (OfW.mk d0 d1 d2 df q0 q1 q2 rf sz bl)
    clear e1
    by_cases hc : 146097 ≤ r
    · have e4 := Lib.hid (years_400 y)
      go_wp2
      go_roundw
      case rel => exact ⟨y + 400, r - 146097, by omega, by omega, by rw [e4.out]; have := E1.out; omega, rfl, FF.out.set0 _⟩
      case measure => simp [intOf]; omega
    · go_wp2
      go_loopw [0] (fun t wr => ∃ y r : Int, 1600 ≤ y ∧ 0 ≤ r ∧ r + yearsI y = n ∧ t = .int .i64 r ∧ OfW w wr y 1 1) (fun t _ => (intOf t).toNat)
      case atStart => exact ⟨y, r, y1, r0, E1.out, rfl, FF.out⟩
      case round =>
        obtain ⟨z, s, z1, s0, g1, rfl, G⟩ := hrel
        have z2 := y_le h1 s0 g1
        have G1 := Lib.hid g1
        have zb := years_bd z z1 (by omega)
        have sb : s < 3068037 := by omega
        have zl := lpI_01 z
        clear d0 d1 d2 df q0 q1 q2 rf sz bl
        obtain ⟨d0, d1, d2, df, q0, q1, q2, rf, sz, bl⟩ := G
        have GG := Lib.hid (OfW.mk d0 d1 d2 df q0 q1 q2 rf sz bl)
        clear g1
        by_cases hc2 : 365 + lpI z ≤ s
        · have e5 := Lib.hid (years_succ z z1 z2)
          go_wp2_with (go_at_call 69; refine (rlong_any _ _).mono ?_; rintro e w' ⟨rfl, rfl⟩)
          go_roundw
          case rel => exact ⟨z + 1, s - (365 + lpI z), by omega, by omega, by rw [e5.out]; have := G1.out; omega, rfl, GG.out.set0 _⟩
          case measure => simp [intOf]; omega
        · have l1 : lenV z 1 = mlen z 1 := by unfold lenV; rw [if_pos (by unfold thereB; simp; omega)]
          have L1 := mlen_bd z 1
          go_wp2_with (first | (go_at_call 69; refine (rlong_any _ _).mono ?_; rintro e w' ⟨rfl, rfl⟩) | (go_at_call 45; refine (rlength_any _ _ _).mono ?_; rintro e w' ⟨rfl, rfl⟩))
          go_loopw [0, 5] (fun t k wr => ∃ m r : Int, 1 ≤ m ∧ m ≤ 12 ∧ 0 ≤ r ∧ r + (yearsI z + aheadI z m) = n ∧ t = .int .i64 r ∧ k = .int .i64 (mlen z m) ∧ OfW w wr z m 1) (fun t _ _ => (intOf t).toNat)
          case atStart => exact ⟨1, s, by omega, by omega, s0, by rw [ahead_one]; have := G1.out; omega, rfl, rfl, GG.out⟩
          case round =>
            obtain ⟨m, x, m1, m2, x0, f1, rfl, rfl, H⟩ := hrel
            have F1 := Lib.hid f1
            have mb := mlen_bd z m
            have ab := ahead_bd z m m1 (by omega)
            have xb : x < 3068037 := by omega
            have xs : x + aheadI z m = s := by have := G1.out; omega
            have XS := Lib.hid xs
            clear d0 d1 d2 df q0 q1 q2 rf sz bl l1 L1
            obtain ⟨d0, d1, d2, df, q0, q1, q2, rf, sz, bl⟩ := H
            have HH := Lib.hid (OfW.mk d0 d1 d2 df q0 q1 q2 rf sz bl)
            clear f1 xs
            by_cases hc3 : mlen z m ≤ x
            · have e6 := ahead_succ z m m1 m2
              have hm : m ≠ 12 := fun e => by
                subst e
                rw [show (12 : Int) + 1 = 13 from rfl, ahead_13] at e6
                have := XS.out
                omega
              have E6 := Lib.hid e6
              have l2 : lenV z (m + 1) = mlen z (m + 1) := by unfold lenV; rw [if_pos (by unfold thereB; simp; omega)]
              have m3 : m + 1 ≤ 12 := by omega
              clear e6 hm
              go_wp2_with (go_at_call 45; refine (rlength_any _ _ _).mono ?_; rintro e w' ⟨rfl, rfl⟩)
              go_roundw
              case rel => exact ⟨m + 1, x - mlen z m, by omega, m3, by omega, by rw [E6.out]; have := F1.out; omega, rfl, rfl, HH.out.set1 _⟩
              case measure => simp [intOf]; omega
            · have hv : validB z m (x + 1) = true := by rw [validB_iff]; omega
              have hd : dayNo z m (x + 1) = n := by unfold dayNo; have := F1.out; omega
              obtain ⟨o1, o2, o3⟩ := of_is _ _ _ n hv hd
              have O1 := Lib.hid o1
              have O2 := Lib.hid o2
              have O3 := Lib.hid o3
              clear o1 o2 o3 hv hd
              go_wp2
              rw [O1.out, O2.out, O3.out, show x + 1 = 1 + x from Int.add_comm _ _]
              have K := HH.out.set2 (1 + x)
              obtain ⟨s0', s1', s2'⟩ := set3 (.int .i64 z) (.int .i64 m) (.int .i64 (1 + x)) K.r0 K.r1 K.r2
              refine bodyPost_ret (v := .tuple #[dateA z m (1 + x), .int .i64 0]) (by simp [results, Try.results62, go_sem, s0', s1', s2']) rfl ⟨rfl, ?_⟩
              have hb0 := K.bl
              exact (by repeat (with_reducible (first | exact Below.refl _ _ | assumption | refine bl_alloc ?_ _ | refine bl_drewN ?_ _ | refine bl_drew ?_ | refine bl_call ?_ (by assumption) | (refine bl_setCell ?_ _ (Nat.le_refl _)) | (refine bl_setCell ?_ _ (by simp)))))
theorem rof_any (n : Int) (w : World) :
    Calls Try.prog 62 #[.int .i64 n] w fun e w' => e = .returned (.tuple #[dateA (ofY n) (ofM n) (ofD n), .int .i64 (dateE (isB n))]) ∧ Below w.heap.size w w' := by
  rcases Bool.eq_false_or_eq_true (isB n) with h | h
  · exact rof_yes n w h
  · exact rof_no n w h
end Go.Proofs.Yteppoghpfcmhhaa
