/- Contracts of the package ratio: sum, Add, Sub. Printed by mksum.py. -/
import Derived.Test.YtkejohmghacdhaaDoorRatF
import Derived.Test.YtkejohmghacdhaaDoorGcdA
import Derived.Test.YtkejohmghacdhaaDoorDivC
namespace Go.Proofs.YtkejohmghacdhaaDoor
set_option linter.unusedVariables false
set_option linter.unusedSimpArgs false
open Go.RowKit
theorem capN_of {a : Int} (h : In a) : capN a = a ∧ errN a = 0 := by
  unfold capN errN; rw [if_pos ((fitB_iff a).2 h), if_pos ((fitB_iff a).2 h)]; exact ⟨rfl, rfl⟩
theorem capN_not {a : Int} (h : ¬ In a) : capN a = 0 ∧ errN a = 2 := by
  unfold capN errN; rw [if_neg (fun k => h ((fitB_iff a).1 k)), if_neg (fun k => h ((fitB_iff a).1 k))]; exact ⟨rfl, rfl⟩
theorem prod_bdr {a b : Int} (ha : In a) (h0 : 0 ≤ b) (h1 : b ≤ 9223372036854775807) : -(9223372036854775808 * 9223372036854775807) ≤ a * b ∧ a * b ≤ 9223372036854775808 * 9223372036854775807 := by
  have h : (a * b).natAbs ≤ 9223372036854775808 * 9223372036854775807 := by
    rw [Int.natAbs_mul]; exact Nat.mul_le_mul (by unfold In at ha; omega) (by omega)
  omega
set_option maxRecDepth 100000 in
set_option maxHeartbeats 16000000 in
theorem sum_any (n d m c : Int) (less : Bool) (w : World) (hn : In n) (hd : In d) (hm : In m) (hc : In c) (k1 : ckB n d = true) (k2 : ckB m c = true) (hT : Tab w) :
    Calls Tryd.prog 26 #[ratA n d, ratA m c, .bool less] w fun e w' => e = .returned (.tuple #[ratA (arN (smP less n d m c) (d * c)) (arD (smP less n d m c) (d * c)), .int .i64 (arE (smP less n d m c) (d * c))]) ∧ Below w.heap.size w w' := by
  obtain ⟨d1, g1, _⟩ := ck_true k1
  obtain ⟨c1, g2, _⟩ := ck_true k2
  obtain ⟨s, hs⟩ : ∃ s : Int, (if less = true then -m else m) = s := ⟨_, rfl⟩
  have sm : s.natAbs = m.natAbs := by rw [← hs]; split <;> omega
  obtain ⟨G, eG⟩ : ∃ G, Nat.gcd d.natAbs c.natAbs = G := ⟨_, rfl⟩
  obtain ⟨A, eA⟩ : ∃ A, d / (G : Int) = A := ⟨_, rfl⟩
  obtain ⟨B, eB⟩ : ∃ B, c / (G : Int) = B := ⟨_, rfl⟩
  obtain ⟨t, et⟩ : ∃ t, n * B + s * A = t := ⟨_, rfl⟩
  obtain ⟨R, eR⟩ : ∃ R, (t % (G : Int)).natAbs = R := ⟨_, rfl⟩
  obtain ⟨K, eK⟩ : ∃ K, Nat.gcd R G = K := ⟨_, rfl⟩
  obtain ⟨G0, Gd, K0, KG, A0, Ad, B0, Bc, C0, Cc, r1, r2⟩ := sum_ar (K := K) d1 c1 g1 g2 sm eG eA eB et (by rw [eR]; exact eK)
  obtain ⟨C, eC⟩ : ∃ C, c / (K : Int) = C := ⟨_, rfl⟩
  rw [eC] at C0 Cc r1 r2
  obtain ⟨q, eq⟩ : ∃ q, t / (K : Int) = q := ⟨_, rfl⟩
  obtain ⟨p, ep⟩ : ∃ p, A * C = p := ⟨_, rfl⟩
  rw [eq, ep] at r1 r2
  rw [show smP less n d m c = n * c + s * d by unfold smP; rw [hs]]
  have RR := Lib.hid (show (In q → (In p ∧ arN (n * c + s * d) (d * c) = q ∧ arD (n * c + s * d) (d * c) = p ∧ arE (n * c + s * d) (d * c) = 0) ∨ (¬ In p ∧ arN (n * c + s * d) (d * c) = 0 ∧ arD (n * c + s * d) (d * c) = 0 ∧ arE (n * c + s * d) (d * c) = 2)) ∧ (¬ In q → arN (n * c + s * d) (d * c) = 0 ∧ arD (n * c + s * d) (d * c) = 0 ∧ arE (n * c + s * d) (d * c) = 2) from
    ⟨fun h => by
      by_cases h2 : In p
      · exact .inl ⟨h2, r1 ⟨h, h2⟩⟩
      · exact .inr ⟨h2, r2 (fun k => h2 k.2)⟩, fun h => r2 (fun k => h k.1)⟩)
  have dm := hd.2
  have cm := hc.2
  have iA : In A := ⟨by omega, by omega⟩
  have iB : In B := ⟨by omega, by omega⟩
  have iC : In C := ⟨by omega, by omega⟩
  have iG : In (G : Int) := ⟨by omega, by omega⟩
  have iK : In (K : Int) := ⟨by omega, by omega⟩
  have px := prod_bdr hn (show 0 ≤ B by omega) (by omega)
  have py := prod_bdr hm (show 0 ≤ A by omega) (by omega)
  have M1 := Lib.hid (fun w => wmul_any n B w hn iB)
  have M2 := Lib.hid (fun w => wmul_any m A w hm iA)
  obtain ⟨x, ex⟩ : ∃ x, n * B = x := ⟨_, rfl⟩
  obtain ⟨y, ey⟩ : ∃ y, m * A = y := ⟨_, rfl⟩
  rw [ex] at M1 px
  rw [ey] at M2 py
  have wx : InW x := by unfold InW; omega
  have wy : InW y := by unfold InW; omega
  have wny : InW (-y) := by unfold InW; omega
  have et2 : x + (if less = true then -y else y) = t := by
    rw [← et, ← ex, ← ey, ← hs]; cases less <;> simp [Int.neg_mul]
  have wt : InW t := by rw [← et2]; unfold InW; split <;> omega
  have GC := fun w hT => whole_gcd d c w hd hc hT
  rw [show gI d c = (G : Int) by unfold gI; rw [eG], (capN_of iG).1, (capN_of iG).2] at GC
  have NG := fun w => wneg_any y w wy
  rw [(capW_of wny).1, (capW_of wny).2] at NG
  have D1 := fun w => wdiv_any t (G : Int) w wt iG
  obtain ⟨u1, u2, u3⟩ := wd_pos t (G : Int) (by omega)
  have rn := Int.emod_nonneg t (show (G : Int) ≠ 0 by omega)
  have rl := Int.emod_lt_of_pos t (show (0 : Int) < (G : Int) by omega)
  rw [u3, show wdR t (G : Int) = (R : Int) by rw [u2]; omega] at D1
  generalize wdQ t (G : Int) = q0 at D1
  have CM := fun w => rat_common R G w (by omega) (by omega)
  rw [eK] at CM
  have D2 := fun w => wdiv_any t (K : Int) w wt iK
  obtain ⟨u4, u5, u6⟩ := wd_pos t (K : Int) (by omega)
  rw [u4, u6, eq] at D2
  generalize wdR t (K : Int) = r0 at D2
  have wq : InW q := by
    have h1 : (t / (K : Int)).natAbs ≤ t.natAbs := Int.natAbs_ediv_le_natAbs _ _
    rw [eq] at h1
    unfold InW at wt ⊢
    have h2 : (0 ≤ t → 0 ≤ q) := fun h => by rw [← eq]; exact Int.ediv_nonneg h (by omega)
    by_cases h3 : 0 ≤ t
    · have := h2 h3; omega
    · omega
  have FT := Lib.hid (fun w => wfit_any q w wq)
  have ML := fun w => whole_mul A C w iA iC
  rw [ep] at ML
  have tA : d.tdiv (G : Int) = A := by rw [Int.tdiv_eq_ediv_of_nonneg (by omega)]; exact eA
  have tB : c.tdiv (G : Int) = B := by rw [Int.tdiv_eq_ediv_of_nonneg (by omega)]; exact eB
  have tC : c.tdiv (K : Int) = C := by rw [Int.tdiv_eq_ediv_of_nonneg (by omega)]; exact eC
  have wA : wrap64 A = A := wrap64_of iA
  have wB : wrap64 B = B := wrap64_of iB
  have wC : wrap64 C = C := wrap64_of iC
  have vA : IntKind.i64.wrap A = A := IntWalk.i64_in _ iA
  have vB : IntKind.i64.wrap B = B := IntWalk.i64_in _ iB
  have vC : IntKind.i64.wrap C = C := IntWalk.i64_in _ iC
  have wK : wrap64 (K : Int) = (K : Int) := wrap64_of iK
  have wG : IntKind.u64.wrap (G : Int) = (G : Int) := by rw [IntKind.wrap_u64]; omega
  have wR : IntKind.u64.wrap (R : Int) = (R : Int) := by rw [IntKind.wrap_u64]; omega
  have gz : ¬ G = 0 := Nat.ne_of_gt G0
  have kz : ¬ K = 0 := Nat.ne_of_gt K0
  have gz1 : ((G : Int) == 0) = false := by simpa using gz
  have kz1 : ((K : Int) == 0) = false := by simpa using kz
  have gp : (0 : Int) < (G : Int) := Int.natCast_pos.2 G0
  have kp : (0 : Int) < (K : Int) := Int.natCast_pos.2 K0
  have TB := Lib.hid hT
  have ML := Lib.hid ML
  have GC := Lib.hid GC
  have NG := Lib.hid NG
  have D1 := Lib.hid D1
  have D2 := Lib.hid D2
  have CM := Lib.hid CM
  generalize arN (n * c + s * d) (d * c) = rN at *
  generalize arD (n * c + s * d) (d * c) = rD at *
  generalize arE (n * c + s * d) (d * c) = rE at *
  clear r1 r2 eG eA eB et eR eK eC eq ep hs sm d1 c1 g1 g2 k1 k2 hT iA iB iC iG iK px py ex ey wq u1 u2 u3 u4 u5 u6 rn rl dm cm hn hd hm hc G0 Gd K0 KG A0 Ad B0 Bc C0 Cc
  cases less
  · have AD := fun w => wadd_any x y w wx wy
    rw [show x + y = t from et2, (capW_of wt).1, (capW_of wt).2] at AD
    have AD := Lib.hid AD
    clear NG wx wy wt et2 wny
    go_enter Tryd.func26, Tryd.ntmps26
    go_wp2_with fail
    refine (GC.out _ ?_).mono ?_
    · exact TB.out.go (by repeat (with_reducible (first | exact Below.refl _ _ | assumption | refine bl_alloc ?_ _ | refine bl_drewN ?_ _ | refine bl_drew ?_ | refine bl_call ?_ (by assumption) | (refine bl_setCell ?_ _ (Nat.le_refl _)) | (refine bl_setCell ?_ _ (by first | omega | (simp; done) | (simp; omega))))))
    rintro e v0 ⟨rfl, rfl⟩
    go_wp2_with fail
    refine region_t (lay2 14 (Obj.cells #[.int .i64 0, .int .u64 0] 50) 15 (Obj.cells #[.int .i64 0, .int .u64 0] 50)) (st2 16 14 17 15) (cl1 14) (fun W => W.cell? ⟨w.heap.size, 0, none⟩ = some (.int .i64 n) ∧ W.cell? ⟨w.heap.size, 1, none⟩ = some (.int .i64 d) ∧ W.cell? ⟨w.heap.size + 1, 0, none⟩ = some (.int .i64 m) ∧ W.cell? ⟨w.heap.size + 1, 1, none⟩ = some (.int .i64 c) ∧ W.cell? ⟨w.heap.size + 2, 0, none⟩ = some (.int .i64 0) ∧ W.cell? ⟨w.heap.size + 2, 1, none⟩ = some (.int .i64 0) ∧ (∀ o, W.frozen? ⟨w.heap.size + 2, o, none⟩ = false) ∧ w.heap.size + 2 < W.heap.size ∧ Below w.heap.size w W) ⟨by go_simp, by go_simp, by go_simp, by go_simp, by go_simp, by go_simp, by go_simp, by go_simp, (by repeat (with_reducible (first | exact Below.refl _ _ | assumption | refine bl_alloc ?_ _ | refine bl_drewN ?_ _ | refine bl_drew ?_ | refine bl_call ?_ (by assumption) | (refine bl_setCell ?_ _ (Nat.le_refl _)) | (refine bl_setCell ?_ _ (by first | omega | (simp; done) | (simp; omega))))))⟩ (by kernel_rfl) (by kernel_rfl) (kinds2 (by decide) (by decide) (by kernel_rfl) (by kernel_rfl)) ?_
    intro W ⟨k0, k1, k2, k3, k4, k5, k6, k7, hbW⟩
    have K := Lib.hid (And.intro k0 (And.intro k1 (And.intro k2 (And.intro k3 (And.intro k4 (And.intro k5 k6))))))
    clear k4 k5 k6
    replace k0 := rcell k0
    replace k1 := rcell k1
    replace k2 := rcell k2
    replace k3 := rcell k3
    repeat ((first | refine wpT_op true rfl rfl rfl (fun K hK => ?_) | refine wpT_op false rfl rfl rfl (fun K hK => ?_)); go_simp; first | (refine hK _ ?_; clear hK K) | (apply Exists.intro; refine ⟨fun _ => ?_, hK _ ?_⟩; (first | with_reducible exact Calls.stay (M1.out _) | with_reducible exact Calls.stay (M2.out _)); clear hK K))
    refine wpT_lay _ rfl ?_ ?_
    · exact ⟨fun a w => by go_simp, fun y => rfl⟩
    intro na hna
    refine wpT_lay _ rfl ?_ ?_
    · exact ⟨fun a w => by go_simp, fun y => rfl⟩
    intro nb hnb
    refine wpT_st 14 na _ (Obj.cells #[.int .i64 (hiW x), .int .u64 (loW x)] 50) rfl rfl ((upd_ne _ (by decide) _ _).trans (upd_same _ _ _ _)) hna ⟨fun y => rfl, fun w1 hb1 hlt hx => ⟨_, ?_, touch_set2 hx (.int .i64 (hiW x)) (.int .u64 (loW x))⟩⟩ ?_
    · have c0 := laid_cell hx 0 _ rfl
      have c1 := laid_cell hx 1 _ rfl
      have f0 := laid_free hx 0
      have f1 := laid_free hx 1
      clear hx hb1
      go_simp
    refine wpT_st 15 nb _ (Obj.cells #[.int .i64 (hiW y), .int .u64 (loW y)] 50) rfl rfl ((upd_ne _ (by decide) _ _).trans (upd_same _ _ _ _)) hnb ⟨fun y => rfl, fun w1 hb1 hlt hx => ⟨_, ?_, touch_set2 hx (.int .i64 (hiW y)) (.int .u64 (loW y))⟩⟩ ?_
    · have c0 := laid_cell hx 0 _ rfl
      have c1 := laid_cell hx 1 _ rfl
      have f0 := laid_free hx 0
      have f1 := laid_free hx 1
      clear hx hb1
      go_simp
    repeat ((first | refine wpT_op true rfl rfl rfl (fun K hK => ?_) | refine wpT_op false rfl rfl rfl (fun K hK => ?_)); go_simp; first | (refine hK _ ?_; clear hK K) | (apply Exists.intro; refine ⟨fun _ => ?_, hK _ ?_⟩; (fail); clear hK K))
    refine wpT_nil ?_
    intro v0 hfr
    obtain ⟨_, la, la3⟩ := hfr.low 14 na _ ((upd_ne _ (by decide) _ _).trans (upd_same _ _ _ _))
    obtain ⟨_, lb, lb3⟩ := hfr.low 15 nb _ (upd_same _ _ _ _)
    have nab : na ≠ nb := fun e => by have := hfr.apart 14 15 nb _ _ ((upd_ne _ (by decide) _ _).trans (by rw [upd_same, e])) (upd_same _ _ _ _); omega
    have hb0 := hfr.below
    have a0 := laid_cell la3 0 _ rfl
    have a1 := laid_cell la3 1 _ rfl
    have fa := laid_free la3
    have b0 := laid_cell lb3 0 _ rfl
    have b1 := laid_cell lb3 1 _ rfl
    have fb := laid_free lb3
    obtain ⟨K0, K1, K2, K3, K4, K5, K6⟩ := K.out
    have o0 := own_stays hb0 (b := w.heap.size) (by first | assumption | (simp; done) | (simp; omega) | omega)
    have o1 := own_stays hb0 (b := w.heap.size + 1) (by first | assumption | (simp; done) | (simp; omega) | omega)
    have o2 := own_stays hb0 (b := w.heap.size + 2) (by first | assumption | (simp; done) | (simp; omega) | omega)
    have j0 : v0.cell? ⟨w.heap.size, 0, none⟩ = some (.int .i64 n) := (o0.1 0).trans K0
    have j1 : v0.cell? ⟨w.heap.size, 1, none⟩ = some (.int .i64 d) := (o0.1 1).trans K1
    have j2 : v0.cell? ⟨w.heap.size + 1, 0, none⟩ = some (.int .i64 m) := (o1.1 0).trans K2
    have j3 : v0.cell? ⟨w.heap.size + 1, 1, none⟩ = some (.int .i64 c) := (o1.1 1).trans K3
    have j4 : v0.cell? ⟨w.heap.size + 2, 0, none⟩ = some (.int .i64 0) := (o2.1 0).trans K4
    have j5 : v0.cell? ⟨w.heap.size + 2, 1, none⟩ = some (.int .i64 0) := (o2.1 1).trans K5
    have j6 : ∀ o, v0.frozen? ⟨w.heap.size + 2, o, none⟩ = false := fun o => (o2.2.1 o).trans (K6 o)
    have j7 : w.heap.size + 2 < v0.heap.size := o2.2.2
    have z1 : w.heap.size + 2 < na := by omega
    have z2 : w.heap.size + 2 < nb := by omega
    have HB0 := Lib.hid (show Below w.heap.size w v0 from bl_call hbW hb0)
    clear K K0 K1 K2 K3 K4 K5 K6 hfr la3 lb3 hb0 o0 o1 o2 hbW k0 k1 k2 k3 k7
    go_wp2_with fail
    refine (AD.out _).mono ?_
    rintro e v1 ⟨rfl, hb1⟩
    have o1_0 := own_stays hb1 (b := w.heap.size) (by first | assumption | (simp; done) | (simp; omega) | omega)
    have n1_0_0 : v1.cell? ⟨w.heap.size, 0, none⟩ = some (.int .i64 n) := (o1_0.1 0).trans (by go_simp)
    have n1_0_1 : v1.cell? ⟨w.heap.size, 1, none⟩ = some (.int .i64 d) := (o1_0.1 1).trans (by go_simp)
    have s1_0 : w.heap.size < v1.heap.size := o1_0.2.2
    have o1_1 := own_stays hb1 (b := w.heap.size + 1) (by first | assumption | (simp; done) | (simp; omega) | omega)
    have n1_1_0 : v1.cell? ⟨w.heap.size + 1, 0, none⟩ = some (.int .i64 m) := (o1_1.1 0).trans (by go_simp)
    have n1_1_1 : v1.cell? ⟨w.heap.size + 1, 1, none⟩ = some (.int .i64 c) := (o1_1.1 1).trans (by go_simp)
    have s1_1 : w.heap.size + 1 < v1.heap.size := o1_1.2.2
    have o1_2 := own_stays hb1 (b := w.heap.size + 2) (by first | assumption | (simp; done) | (simp; omega) | omega)
    have n1_2_0 : v1.cell? ⟨w.heap.size + 2, 0, none⟩ = some (.int .i64 0) := (o1_2.1 0).trans (by go_simp)
    have n1_2_1 : v1.cell? ⟨w.heap.size + 2, 1, none⟩ = some (.int .i64 0) := (o1_2.1 1).trans (by go_simp)
    have f1_2 : ∀ o, v1.frozen? ⟨w.heap.size + 2, o, none⟩ = false := fun o => (o1_2.2.1 o).trans (by go_simp)
    have s1_2 : w.heap.size + 2 < v1.heap.size := o1_2.2.2
    have HBx := HB0.out
    have HB1 := Lib.hid (show Below w.heap.size w v1 from bl_call (by repeat (with_reducible (first | exact Below.refl _ _ | assumption | refine bl_alloc ?_ _ | refine bl_drewN ?_ _ | refine bl_drew ?_ | refine bl_call ?_ (by assumption) | (refine bl_setCell ?_ _ (Nat.le_refl _)) | (refine bl_setCell ?_ _ (by first | omega | (simp; done) | (simp; omega)))))) hb1)
    clear HBx
    clear hb1 o1_0 o1_1 o1_2 j0 j1 j2 j3 j4 j5 j6 j7 a0 a1 b0 b1 fa fb la lb HB0
    go_wp2_with fail
    refine (D1.out _).mono ?_
    rintro e v2 ⟨rfl, hb2⟩
    have o2_0 := own_stays hb2 (b := w.heap.size) (by first | assumption | (simp; done) | (simp; omega) | omega)
    have n2_0_0 : v2.cell? ⟨w.heap.size, 0, none⟩ = some (.int .i64 n) := (o2_0.1 0).trans (by go_simp)
    have n2_0_1 : v2.cell? ⟨w.heap.size, 1, none⟩ = some (.int .i64 d) := (o2_0.1 1).trans (by go_simp)
    have s2_0 : w.heap.size < v2.heap.size := o2_0.2.2
    have o2_1 := own_stays hb2 (b := w.heap.size + 1) (by first | assumption | (simp; done) | (simp; omega) | omega)
    have n2_1_0 : v2.cell? ⟨w.heap.size + 1, 0, none⟩ = some (.int .i64 m) := (o2_1.1 0).trans (by go_simp)
    have n2_1_1 : v2.cell? ⟨w.heap.size + 1, 1, none⟩ = some (.int .i64 c) := (o2_1.1 1).trans (by go_simp)
    have s2_1 : w.heap.size + 1 < v2.heap.size := o2_1.2.2
    have o2_2 := own_stays hb2 (b := w.heap.size + 2) (by first | assumption | (simp; done) | (simp; omega) | omega)
    have n2_2_0 : v2.cell? ⟨w.heap.size + 2, 0, none⟩ = some (.int .i64 0) := (o2_2.1 0).trans (by go_simp)
    have n2_2_1 : v2.cell? ⟨w.heap.size + 2, 1, none⟩ = some (.int .i64 0) := (o2_2.1 1).trans (by go_simp)
    have f2_2 : ∀ o, v2.frozen? ⟨w.heap.size + 2, o, none⟩ = false := fun o => (o2_2.2.1 o).trans (by go_simp)
    have s2_2 : w.heap.size + 2 < v2.heap.size := o2_2.2.2
    have o2_3 := own_stays hb2 (b := v1.heap.size) (by first | assumption | (simp; done) | (simp; omega) | omega)
    have n2_3_0 : v2.cell? ⟨v1.heap.size, 0, none⟩ = some (.int .i64 (hiW t)) := (o2_3.1 0).trans (by go_simp)
    have n2_3_1 : v2.cell? ⟨v1.heap.size, 1, none⟩ = some (.int .u64 (loW t)) := (o2_3.1 1).trans (by go_simp)
    have s2_3 : v1.heap.size < v2.heap.size := o2_3.2.2
    have HBx := HB1.out
    have HB2 := Lib.hid (show Below w.heap.size w v2 from bl_call (by repeat (with_reducible (first | exact Below.refl _ _ | assumption | refine bl_alloc ?_ _ | refine bl_drewN ?_ _ | refine bl_drew ?_ | refine bl_call ?_ (by assumption) | (refine bl_setCell ?_ _ (Nat.le_refl _)) | (refine bl_setCell ?_ _ (by first | omega | (simp; done) | (simp; omega)))))) hb2)
    clear HBx
    clear hb2 o2_0 o2_1 o2_2 o2_3 n1_0_0 n1_0_1 s1_0 n1_1_0 n1_1_1 s1_1 n1_2_0 n1_2_1 f1_2 s1_2 HB1
    go_wp2_with fail
    refine (CM.out _).mono ?_
    rintro e v3 ⟨rfl, hb3⟩
    have o3_0 := own_stays hb3 (b := w.heap.size) (by first | assumption | (simp; done) | (simp; omega) | omega)
    have n3_0_0 : v3.cell? ⟨w.heap.size, 0, none⟩ = some (.int .i64 n) := (o3_0.1 0).trans (by go_simp)
    have n3_0_1 : v3.cell? ⟨w.heap.size, 1, none⟩ = some (.int .i64 d) := (o3_0.1 1).trans (by go_simp)
    have s3_0 : w.heap.size < v3.heap.size := o3_0.2.2
    have o3_1 := own_stays hb3 (b := w.heap.size + 1) (by first | assumption | (simp; done) | (simp; omega) | omega)
    have n3_1_0 : v3.cell? ⟨w.heap.size + 1, 0, none⟩ = some (.int .i64 m) := (o3_1.1 0).trans (by go_simp)
    have n3_1_1 : v3.cell? ⟨w.heap.size + 1, 1, none⟩ = some (.int .i64 c) := (o3_1.1 1).trans (by go_simp)
    have s3_1 : w.heap.size + 1 < v3.heap.size := o3_1.2.2
    have o3_2 := own_stays hb3 (b := w.heap.size + 2) (by first | assumption | (simp; done) | (simp; omega) | omega)
    have n3_2_0 : v3.cell? ⟨w.heap.size + 2, 0, none⟩ = some (.int .i64 0) := (o3_2.1 0).trans (by go_simp)
    have n3_2_1 : v3.cell? ⟨w.heap.size + 2, 1, none⟩ = some (.int .i64 0) := (o3_2.1 1).trans (by go_simp)
    have f3_2 : ∀ o, v3.frozen? ⟨w.heap.size + 2, o, none⟩ = false := fun o => (o3_2.2.1 o).trans (by go_simp)
    have s3_2 : w.heap.size + 2 < v3.heap.size := o3_2.2.2
    have o3_3 := own_stays hb3 (b := v1.heap.size) (by first | assumption | (simp; done) | (simp; omega) | omega)
    have n3_3_0 : v3.cell? ⟨v1.heap.size, 0, none⟩ = some (.int .i64 (hiW t)) := (o3_3.1 0).trans (by go_simp)
    have n3_3_1 : v3.cell? ⟨v1.heap.size, 1, none⟩ = some (.int .u64 (loW t)) := (o3_3.1 1).trans (by go_simp)
    have s3_3 : v1.heap.size < v3.heap.size := o3_3.2.2
    have HBx := HB2.out
    have HB3 := Lib.hid (show Below w.heap.size w v3 from bl_call (by repeat (with_reducible (first | exact Below.refl _ _ | assumption | refine bl_alloc ?_ _ | refine bl_drewN ?_ _ | refine bl_drew ?_ | refine bl_call ?_ (by assumption) | (refine bl_setCell ?_ _ (Nat.le_refl _)) | (refine bl_setCell ?_ _ (by first | omega | (simp; done) | (simp; omega)))))) hb3)
    clear HBx
    clear hb3 o3_0 o3_1 o3_2 o3_3 n2_0_0 n2_0_1 s2_0 n2_1_0 n2_1_1 s2_1 n2_2_0 n2_2_1 f2_2 s2_2 n2_3_0 n2_3_1 s2_3 HB2
    go_wp2_with fail
    refine (D2.out _).mono ?_
    rintro e v4 ⟨rfl, hb4⟩
    have o4_0 := own_stays hb4 (b := w.heap.size) (by first | assumption | (simp; done) | (simp; omega) | omega)
    have n4_0_0 : v4.cell? ⟨w.heap.size, 0, none⟩ = some (.int .i64 n) := (o4_0.1 0).trans (by go_simp)
    have n4_0_1 : v4.cell? ⟨w.heap.size, 1, none⟩ = some (.int .i64 d) := (o4_0.1 1).trans (by go_simp)
    have s4_0 : w.heap.size < v4.heap.size := o4_0.2.2
    have o4_1 := own_stays hb4 (b := w.heap.size + 1) (by first | assumption | (simp; done) | (simp; omega) | omega)
    have n4_1_0 : v4.cell? ⟨w.heap.size + 1, 0, none⟩ = some (.int .i64 m) := (o4_1.1 0).trans (by go_simp)
    have n4_1_1 : v4.cell? ⟨w.heap.size + 1, 1, none⟩ = some (.int .i64 c) := (o4_1.1 1).trans (by go_simp)
    have s4_1 : w.heap.size + 1 < v4.heap.size := o4_1.2.2
    have o4_2 := own_stays hb4 (b := w.heap.size + 2) (by first | assumption | (simp; done) | (simp; omega) | omega)
    have n4_2_0 : v4.cell? ⟨w.heap.size + 2, 0, none⟩ = some (.int .i64 0) := (o4_2.1 0).trans (by go_simp)
    have n4_2_1 : v4.cell? ⟨w.heap.size + 2, 1, none⟩ = some (.int .i64 0) := (o4_2.1 1).trans (by go_simp)
    have f4_2 : ∀ o, v4.frozen? ⟨w.heap.size + 2, o, none⟩ = false := fun o => (o4_2.2.1 o).trans (by go_simp)
    have s4_2 : w.heap.size + 2 < v4.heap.size := o4_2.2.2
    have HBx := HB3.out
    have HB4 := Lib.hid (show Below w.heap.size w v4 from bl_call (by repeat (with_reducible (first | exact Below.refl _ _ | assumption | refine bl_alloc ?_ _ | refine bl_drewN ?_ _ | refine bl_drew ?_ | refine bl_call ?_ (by assumption) | (refine bl_setCell ?_ _ (Nat.le_refl _)) | (refine bl_setCell ?_ _ (by first | omega | (simp; done) | (simp; omega)))))) hb4)
    clear HBx
    clear hb4 o4_0 o4_1 o4_2 n3_0_0 n3_0_1 s3_0 n3_1_0 n3_1_1 s3_1 n3_2_0 n3_2_1 f3_2 s3_2 n3_3_0 n3_3_1 s3_3 HB3
    go_wp2_with fail
    refine (FT.out _).mono ?_
    rintro e v5 ⟨rfl, hb5⟩
    have o5_0 := own_stays hb5 (b := w.heap.size) (by first | assumption | (simp; done) | (simp; omega) | omega)
    have n5_0_0 : v5.cell? ⟨w.heap.size, 0, none⟩ = some (.int .i64 n) := (o5_0.1 0).trans (by go_simp)
    have n5_0_1 : v5.cell? ⟨w.heap.size, 1, none⟩ = some (.int .i64 d) := (o5_0.1 1).trans (by go_simp)
    have s5_0 : w.heap.size < v5.heap.size := o5_0.2.2
    have o5_1 := own_stays hb5 (b := w.heap.size + 1) (by first | assumption | (simp; done) | (simp; omega) | omega)
    have n5_1_0 : v5.cell? ⟨w.heap.size + 1, 0, none⟩ = some (.int .i64 m) := (o5_1.1 0).trans (by go_simp)
    have n5_1_1 : v5.cell? ⟨w.heap.size + 1, 1, none⟩ = some (.int .i64 c) := (o5_1.1 1).trans (by go_simp)
    have s5_1 : w.heap.size + 1 < v5.heap.size := o5_1.2.2
    have o5_2 := own_stays hb5 (b := w.heap.size + 2) (by first | assumption | (simp; done) | (simp; omega) | omega)
    have n5_2_0 : v5.cell? ⟨w.heap.size + 2, 0, none⟩ = some (.int .i64 0) := (o5_2.1 0).trans (by go_simp)
    have n5_2_1 : v5.cell? ⟨w.heap.size + 2, 1, none⟩ = some (.int .i64 0) := (o5_2.1 1).trans (by go_simp)
    have f5_2 : ∀ o, v5.frozen? ⟨w.heap.size + 2, o, none⟩ = false := fun o => (o5_2.2.1 o).trans (by go_simp)
    have s5_2 : w.heap.size + 2 < v5.heap.size := o5_2.2.2
    have HBx := HB4.out
    have HB5 := Lib.hid (show Below w.heap.size w v5 from bl_call (by repeat (with_reducible (first | exact Below.refl _ _ | assumption | refine bl_alloc ?_ _ | refine bl_drewN ?_ _ | refine bl_drew ?_ | refine bl_call ?_ (by assumption) | (refine bl_setCell ?_ _ (Nat.le_refl _)) | (refine bl_setCell ?_ _ (by first | omega | (simp; done) | (simp; omega)))))) hb5)
    clear HBx
    clear hb5 o5_0 o5_1 o5_2 n4_0_0 n4_0_1 s4_0 n4_1_0 n4_1_1 s4_1 n4_2_0 n4_2_1 f4_2 s4_2 HB4
    by_cases i1 : In q
    · have c1 : capN q = q ∧ errN q = 0 := capN_of i1
      rw [c1.1, c1.2]
      go_wp2_with fail
      refine region_qb (fun W => W.cell? ⟨w.heap.size, 0, none⟩ = some (.int .i64 n) ∧ W.cell? ⟨w.heap.size, 1, none⟩ = some (.int .i64 d) ∧ W.cell? ⟨w.heap.size + 1, 0, none⟩ = some (.int .i64 m) ∧ W.cell? ⟨w.heap.size + 1, 1, none⟩ = some (.int .i64 c) ∧ W.cell? ⟨w.heap.size + 2, 0, none⟩ = some (.int .i64 0) ∧ W.cell? ⟨w.heap.size + 2, 1, none⟩ = some (.int .i64 0) ∧ (∀ o, W.frozen? ⟨w.heap.size + 2, o, none⟩ = false) ∧ w.heap.size + 2 < W.heap.size ∧ Below w.heap.size w W) ⟨by go_simp, by go_simp, by go_simp, by go_simp, by go_simp, by go_simp, by go_simp, by go_simp, by (have HBx := HB5.out; exact (by repeat (with_reducible (first | exact Below.refl _ _ | assumption | refine bl_alloc ?_ _ | refine bl_drewN ?_ _ | refine bl_drew ?_ | refine bl_call ?_ (by assumption) | (refine bl_setCell ?_ _ (Nat.le_refl _)) | (refine bl_setCell ?_ _ (by first | omega | (simp; done) | (simp; omega)))))))⟩ (by kernel_rfl) (by kernel_rfl) ?_
      intro W ⟨k0, k1, k2, k3, k4, k5, k6, k7, hbW⟩
      clear n5_0_0 n5_0_1 s5_0 n5_1_0 n5_1_1 s5_1 n5_2_0 n5_2_1 f5_2 s5_2 HB5
      have K := Lib.hid (And.intro k4 (And.intro k5 k6))
      clear k4 k5 k6
      replace k0 := rcell k0
      replace k1 := rcell k1
      replace k2 := rcell k2
      replace k3 := rcell k3
      repeat (first | go_big_quiet_step (first | with_reducible exact Calls.regrown_same (ML.out _)) | quiet_step (first | with_reducible exact Calls.regrown_same (ML.out _)))
      refine wpQuiet_nil ?_
      intro u hu
      obtain ⟨x1, x2, x3⟩ := own_stays hu k7
      obtain ⟨K4, K5, K6⟩ := K.out
      have j4 : u.cell? ⟨w.heap.size + 2, 0, none⟩ = some (.int .i64 0) := (x1 0).trans K4
      have j5 : u.cell? ⟨w.heap.size + 2, 1, none⟩ = some (.int .i64 0) := (x1 1).trans K5
      have j6 : ∀ o, u.frozen? ⟨w.heap.size + 2, o, none⟩ = false := fun o => (x2 o).trans (K6 o)
      have HU := Lib.hid (show Below w.heap.size w u from bl_call hbW hu)
      clear k0 k1 k2 k3 K K4 K5 K6 x1 x2 hu hbW
      rcases RR.out.1 i1 with ⟨i2, e1, e2, e3⟩ | ⟨i2, e1, e2, e3⟩
      · have c2 : capN p = p ∧ errN p = 0 := capN_of i2
        rw [c2.1, c2.2]
        have EE := Lib.hid (And.intro e1 (And.intro e2 e3))
        clear e1 e2 e3 c2 i1 i2
        go_wp2
        refine bodyPost_ret (v := .tuple #[ratA q p, .int .i64 0]) (by simp [results, Tryd.results26, go_sem, *]) rfl ⟨ret_re EE.out.1.symm EE.out.2.1.symm EE.out.2.2.symm, ?_⟩
        have := HU.out
        exact (by repeat (with_reducible (first | exact Below.refl _ _ | assumption | refine bl_alloc ?_ _ | refine bl_drewN ?_ _ | refine bl_drew ?_ | refine bl_call ?_ (by assumption) | (refine bl_setCell ?_ _ (Nat.le_refl _)) | (refine bl_setCell ?_ _ (by first | omega | (simp; done) | (simp; omega))))))
      · have c2 : capN p = 0 ∧ errN p = 2 := capN_not i2
        rw [c2.1, c2.2]
        have EE := Lib.hid (And.intro e1 (And.intro e2 e3))
        clear e1 e2 e3 c2 i1 i2
        go_wp2
        refine bodyPost_ret (v := .tuple #[ratA 0 0, .int .i64 2]) (by simp [results, Tryd.results26, go_sem, *]) rfl ⟨ret_re EE.out.1.symm EE.out.2.1.symm EE.out.2.2.symm, ?_⟩
        have := HU.out
        exact (by repeat (with_reducible (first | exact Below.refl _ _ | assumption | refine bl_alloc ?_ _ | refine bl_drewN ?_ _ | refine bl_drew ?_ | refine bl_call ?_ (by assumption) | (refine bl_setCell ?_ _ (Nat.le_refl _)) | (refine bl_setCell ?_ _ (by first | omega | (simp; done) | (simp; omega))))))
    · have c1 : capN q = 0 ∧ errN q = 2 := capN_not i1
      rw [c1.1, c1.2]
      have EE := Lib.hid (RR.out.2 i1)
      clear i1 c1
      go_wp2
      refine bodyPost_ret (v := .tuple #[ratA 0 0, .int .i64 2]) (by simp [results, Tryd.results26, go_sem, *]) rfl ⟨ret_re EE.out.1.symm EE.out.2.1.symm EE.out.2.2.symm, ?_⟩
      have := HB5.out
      exact (by repeat (with_reducible (first | exact Below.refl _ _ | assumption | refine bl_alloc ?_ _ | refine bl_drewN ?_ _ | refine bl_drew ?_ | refine bl_call ?_ (by assumption) | (refine bl_setCell ?_ _ (Nat.le_refl _)) | (refine bl_setCell ?_ _ (by first | omega | (simp; done) | (simp; omega))))))
  · have AD := fun w => wadd_any x (-y) w wx wny
    rw [show x + -y = t from et2, (capW_of wt).1, (capW_of wt).2] at AD
    have AD := Lib.hid AD
    clear wx wy wt et2 wny
    go_enter Tryd.func26, Tryd.ntmps26
    go_wp2_with fail
    refine (GC.out _ ?_).mono ?_
    · exact TB.out.go (by repeat (with_reducible (first | exact Below.refl _ _ | assumption | refine bl_alloc ?_ _ | refine bl_drewN ?_ _ | refine bl_drew ?_ | refine bl_call ?_ (by assumption) | (refine bl_setCell ?_ _ (Nat.le_refl _)) | (refine bl_setCell ?_ _ (by first | omega | (simp; done) | (simp; omega))))))
    rintro e v0 ⟨rfl, rfl⟩
    go_wp2_with fail
    refine region_t (lay2 14 (Obj.cells #[.int .i64 0, .int .u64 0] 50) 15 (Obj.cells #[.int .i64 0, .int .u64 0] 50)) (st2 16 14 17 15) (cl1 14) (fun W => W.cell? ⟨w.heap.size, 0, none⟩ = some (.int .i64 n) ∧ W.cell? ⟨w.heap.size, 1, none⟩ = some (.int .i64 d) ∧ W.cell? ⟨w.heap.size + 1, 0, none⟩ = some (.int .i64 m) ∧ W.cell? ⟨w.heap.size + 1, 1, none⟩ = some (.int .i64 c) ∧ W.cell? ⟨w.heap.size + 2, 0, none⟩ = some (.int .i64 0) ∧ W.cell? ⟨w.heap.size + 2, 1, none⟩ = some (.int .i64 0) ∧ (∀ o, W.frozen? ⟨w.heap.size + 2, o, none⟩ = false) ∧ w.heap.size + 2 < W.heap.size ∧ Below w.heap.size w W) ⟨by go_simp, by go_simp, by go_simp, by go_simp, by go_simp, by go_simp, by go_simp, by go_simp, (by repeat (with_reducible (first | exact Below.refl _ _ | assumption | refine bl_alloc ?_ _ | refine bl_drewN ?_ _ | refine bl_drew ?_ | refine bl_call ?_ (by assumption) | (refine bl_setCell ?_ _ (Nat.le_refl _)) | (refine bl_setCell ?_ _ (by first | omega | (simp; done) | (simp; omega))))))⟩ (by kernel_rfl) (by kernel_rfl) (kinds2 (by decide) (by decide) (by kernel_rfl) (by kernel_rfl)) ?_
    intro W ⟨k0, k1, k2, k3, k4, k5, k6, k7, hbW⟩
    have K := Lib.hid (And.intro k0 (And.intro k1 (And.intro k2 (And.intro k3 (And.intro k4 (And.intro k5 k6))))))
    clear k4 k5 k6
    replace k0 := rcell k0
    replace k1 := rcell k1
    replace k2 := rcell k2
    replace k3 := rcell k3
    repeat ((first | refine wpT_op true rfl rfl rfl (fun K hK => ?_) | refine wpT_op false rfl rfl rfl (fun K hK => ?_)); go_simp; first | (refine hK _ ?_; clear hK K) | (apply Exists.intro; refine ⟨fun _ => ?_, hK _ ?_⟩; (first | with_reducible exact Calls.stay (M1.out _) | with_reducible exact Calls.stay (M2.out _)); clear hK K))
    refine wpT_lay _ rfl ?_ ?_
    · exact ⟨fun a w => by go_simp, fun y => rfl⟩
    intro na hna
    refine wpT_lay _ rfl ?_ ?_
    · exact ⟨fun a w => by go_simp, fun y => rfl⟩
    intro nb hnb
    refine wpT_st 14 na _ (Obj.cells #[.int .i64 (hiW x), .int .u64 (loW x)] 50) rfl rfl ((upd_ne _ (by decide) _ _).trans (upd_same _ _ _ _)) hna ⟨fun y => rfl, fun w1 hb1 hlt hx => ⟨_, ?_, touch_set2 hx (.int .i64 (hiW x)) (.int .u64 (loW x))⟩⟩ ?_
    · have c0 := laid_cell hx 0 _ rfl
      have c1 := laid_cell hx 1 _ rfl
      have f0 := laid_free hx 0
      have f1 := laid_free hx 1
      clear hx hb1
      go_simp
    refine wpT_st 15 nb _ (Obj.cells #[.int .i64 (hiW y), .int .u64 (loW y)] 50) rfl rfl ((upd_ne _ (by decide) _ _).trans (upd_same _ _ _ _)) hnb ⟨fun y => rfl, fun w1 hb1 hlt hx => ⟨_, ?_, touch_set2 hx (.int .i64 (hiW y)) (.int .u64 (loW y))⟩⟩ ?_
    · have c0 := laid_cell hx 0 _ rfl
      have c1 := laid_cell hx 1 _ rfl
      have f0 := laid_free hx 0
      have f1 := laid_free hx 1
      clear hx hb1
      go_simp
    repeat ((first | refine wpT_op true rfl rfl rfl (fun K hK => ?_) | refine wpT_op false rfl rfl rfl (fun K hK => ?_)); go_simp; first | (refine hK _ ?_; clear hK K) | (apply Exists.intro; refine ⟨fun _ => ?_, hK _ ?_⟩; (fail); clear hK K))
    refine wpT_nil ?_
    intro v0 hfr
    obtain ⟨_, la, la3⟩ := hfr.low 14 na _ ((upd_ne _ (by decide) _ _).trans (upd_same _ _ _ _))
    obtain ⟨_, lb, lb3⟩ := hfr.low 15 nb _ (upd_same _ _ _ _)
    have nab : na ≠ nb := fun e => by have := hfr.apart 14 15 nb _ _ ((upd_ne _ (by decide) _ _).trans (by rw [upd_same, e])) (upd_same _ _ _ _); omega
    have hb0 := hfr.below
    have a0 := laid_cell la3 0 _ rfl
    have a1 := laid_cell la3 1 _ rfl
    have fa := laid_free la3
    have b0 := laid_cell lb3 0 _ rfl
    have b1 := laid_cell lb3 1 _ rfl
    have fb := laid_free lb3
    obtain ⟨K0, K1, K2, K3, K4, K5, K6⟩ := K.out
    have o0 := own_stays hb0 (b := w.heap.size) (by first | assumption | (simp; done) | (simp; omega) | omega)
    have o1 := own_stays hb0 (b := w.heap.size + 1) (by first | assumption | (simp; done) | (simp; omega) | omega)
    have o2 := own_stays hb0 (b := w.heap.size + 2) (by first | assumption | (simp; done) | (simp; omega) | omega)
    have j0 : v0.cell? ⟨w.heap.size, 0, none⟩ = some (.int .i64 n) := (o0.1 0).trans K0
    have j1 : v0.cell? ⟨w.heap.size, 1, none⟩ = some (.int .i64 d) := (o0.1 1).trans K1
    have j2 : v0.cell? ⟨w.heap.size + 1, 0, none⟩ = some (.int .i64 m) := (o1.1 0).trans K2
    have j3 : v0.cell? ⟨w.heap.size + 1, 1, none⟩ = some (.int .i64 c) := (o1.1 1).trans K3
    have j4 : v0.cell? ⟨w.heap.size + 2, 0, none⟩ = some (.int .i64 0) := (o2.1 0).trans K4
    have j5 : v0.cell? ⟨w.heap.size + 2, 1, none⟩ = some (.int .i64 0) := (o2.1 1).trans K5
    have j6 : ∀ o, v0.frozen? ⟨w.heap.size + 2, o, none⟩ = false := fun o => (o2.2.1 o).trans (K6 o)
    have j7 : w.heap.size + 2 < v0.heap.size := o2.2.2
    have z1 : w.heap.size + 2 < na := by omega
    have z2 : w.heap.size + 2 < nb := by omega
    have HB0 := Lib.hid (show Below w.heap.size w v0 from bl_call hbW hb0)
    clear K K0 K1 K2 K3 K4 K5 K6 hfr la3 lb3 hb0 o0 o1 o2 hbW k0 k1 k2 k3 k7
    go_wp2_with fail
    refine (NG.out _).mono ?_
    rintro e v1 ⟨rfl, hb1⟩
    have o1_0 := own_stays hb1 (b := w.heap.size) (by first | assumption | (simp; done) | (simp; omega) | omega)
    have n1_0_0 : v1.cell? ⟨w.heap.size, 0, none⟩ = some (.int .i64 n) := (o1_0.1 0).trans (by go_simp)
    have n1_0_1 : v1.cell? ⟨w.heap.size, 1, none⟩ = some (.int .i64 d) := (o1_0.1 1).trans (by go_simp)
    have s1_0 : w.heap.size < v1.heap.size := o1_0.2.2
    have o1_1 := own_stays hb1 (b := w.heap.size + 1) (by first | assumption | (simp; done) | (simp; omega) | omega)
    have n1_1_0 : v1.cell? ⟨w.heap.size + 1, 0, none⟩ = some (.int .i64 m) := (o1_1.1 0).trans (by go_simp)
    have n1_1_1 : v1.cell? ⟨w.heap.size + 1, 1, none⟩ = some (.int .i64 c) := (o1_1.1 1).trans (by go_simp)
    have s1_1 : w.heap.size + 1 < v1.heap.size := o1_1.2.2
    have o1_2 := own_stays hb1 (b := w.heap.size + 2) (by first | assumption | (simp; done) | (simp; omega) | omega)
    have n1_2_0 : v1.cell? ⟨w.heap.size + 2, 0, none⟩ = some (.int .i64 0) := (o1_2.1 0).trans (by go_simp)
    have n1_2_1 : v1.cell? ⟨w.heap.size + 2, 1, none⟩ = some (.int .i64 0) := (o1_2.1 1).trans (by go_simp)
    have f1_2 : ∀ o, v1.frozen? ⟨w.heap.size + 2, o, none⟩ = false := fun o => (o1_2.2.1 o).trans (by go_simp)
    have s1_2 : w.heap.size + 2 < v1.heap.size := o1_2.2.2
    have o1_3 := own_stays hb1 (b := na) (by first | assumption | (simp; done) | (simp; omega) | omega)
    have n1_3_0 : v1.cell? ⟨na, 0, none⟩ = some (.int .i64 (hiW x)) := (o1_3.1 0).trans (by go_simp)
    have n1_3_1 : v1.cell? ⟨na, 1, none⟩ = some (.int .u64 (loW x)) := (o1_3.1 1).trans (by go_simp)
    have s1_3 : na < v1.heap.size := o1_3.2.2
    have o1_4 := own_stays hb1 (b := nb) (by first | assumption | (simp; done) | (simp; omega) | omega)
    have n1_4_0 : v1.cell? ⟨nb, 0, none⟩ = some (.int .i64 (hiW y)) := (o1_4.1 0).trans (by go_simp)
    have n1_4_1 : v1.cell? ⟨nb, 1, none⟩ = some (.int .u64 (loW y)) := (o1_4.1 1).trans (by go_simp)
    have f1_4 : ∀ o, v1.frozen? ⟨nb, o, none⟩ = false := fun o => (o1_4.2.1 o).trans (by go_simp)
    have s1_4 : nb < v1.heap.size := o1_4.2.2
    have HBx := HB0.out
    have HB1 := Lib.hid (show Below w.heap.size w v1 from bl_call (by repeat (with_reducible (first | exact Below.refl _ _ | assumption | refine bl_alloc ?_ _ | refine bl_drewN ?_ _ | refine bl_drew ?_ | refine bl_call ?_ (by assumption) | (refine bl_setCell ?_ _ (Nat.le_refl _)) | (refine bl_setCell ?_ _ (by first | omega | (simp; done) | (simp; omega)))))) hb1)
    clear HBx
    clear hb1 o1_0 o1_1 o1_2 o1_3 o1_4 j0 j1 j2 j3 j4 j5 j6 j7 a0 a1 b0 b1 fa fb la lb HB0
    go_wp2_with fail
    refine (AD.out _).mono ?_
    rintro e v2 ⟨rfl, hb2⟩
    have o2_0 := own_stays hb2 (b := w.heap.size) (by first | assumption | (simp; done) | (simp; omega) | omega)
    have n2_0_0 : v2.cell? ⟨w.heap.size, 0, none⟩ = some (.int .i64 n) := (o2_0.1 0).trans (by go_simp)
    have n2_0_1 : v2.cell? ⟨w.heap.size, 1, none⟩ = some (.int .i64 d) := (o2_0.1 1).trans (by go_simp)
    have s2_0 : w.heap.size < v2.heap.size := o2_0.2.2
    have o2_1 := own_stays hb2 (b := w.heap.size + 1) (by first | assumption | (simp; done) | (simp; omega) | omega)
    have n2_1_0 : v2.cell? ⟨w.heap.size + 1, 0, none⟩ = some (.int .i64 m) := (o2_1.1 0).trans (by go_simp)
    have n2_1_1 : v2.cell? ⟨w.heap.size + 1, 1, none⟩ = some (.int .i64 c) := (o2_1.1 1).trans (by go_simp)
    have s2_1 : w.heap.size + 1 < v2.heap.size := o2_1.2.2
    have o2_2 := own_stays hb2 (b := w.heap.size + 2) (by first | assumption | (simp; done) | (simp; omega) | omega)
    have n2_2_0 : v2.cell? ⟨w.heap.size + 2, 0, none⟩ = some (.int .i64 0) := (o2_2.1 0).trans (by go_simp)
    have n2_2_1 : v2.cell? ⟨w.heap.size + 2, 1, none⟩ = some (.int .i64 0) := (o2_2.1 1).trans (by go_simp)
    have f2_2 : ∀ o, v2.frozen? ⟨w.heap.size + 2, o, none⟩ = false := fun o => (o2_2.2.1 o).trans (by go_simp)
    have s2_2 : w.heap.size + 2 < v2.heap.size := o2_2.2.2
    have HBx := HB1.out
    have HB2 := Lib.hid (show Below w.heap.size w v2 from bl_call (by repeat (with_reducible (first | exact Below.refl _ _ | assumption | refine bl_alloc ?_ _ | refine bl_drewN ?_ _ | refine bl_drew ?_ | refine bl_call ?_ (by assumption) | (refine bl_setCell ?_ _ (Nat.le_refl _)) | (refine bl_setCell ?_ _ (by first | omega | (simp; done) | (simp; omega)))))) hb2)
    clear HBx
    clear hb2 o2_0 o2_1 o2_2 n1_0_0 n1_0_1 s1_0 n1_1_0 n1_1_1 s1_1 n1_2_0 n1_2_1 f1_2 s1_2 n1_3_0 n1_3_1 s1_3 n1_4_0 n1_4_1 f1_4 s1_4 HB1
    go_wp2_with fail
    refine (D1.out _).mono ?_
    rintro e v3 ⟨rfl, hb3⟩
    have o3_0 := own_stays hb3 (b := w.heap.size) (by first | assumption | (simp; done) | (simp; omega) | omega)
    have n3_0_0 : v3.cell? ⟨w.heap.size, 0, none⟩ = some (.int .i64 n) := (o3_0.1 0).trans (by go_simp)
    have n3_0_1 : v3.cell? ⟨w.heap.size, 1, none⟩ = some (.int .i64 d) := (o3_0.1 1).trans (by go_simp)
    have s3_0 : w.heap.size < v3.heap.size := o3_0.2.2
    have o3_1 := own_stays hb3 (b := w.heap.size + 1) (by first | assumption | (simp; done) | (simp; omega) | omega)
    have n3_1_0 : v3.cell? ⟨w.heap.size + 1, 0, none⟩ = some (.int .i64 m) := (o3_1.1 0).trans (by go_simp)
    have n3_1_1 : v3.cell? ⟨w.heap.size + 1, 1, none⟩ = some (.int .i64 c) := (o3_1.1 1).trans (by go_simp)
    have s3_1 : w.heap.size + 1 < v3.heap.size := o3_1.2.2
    have o3_2 := own_stays hb3 (b := w.heap.size + 2) (by first | assumption | (simp; done) | (simp; omega) | omega)
    have n3_2_0 : v3.cell? ⟨w.heap.size + 2, 0, none⟩ = some (.int .i64 0) := (o3_2.1 0).trans (by go_simp)
    have n3_2_1 : v3.cell? ⟨w.heap.size + 2, 1, none⟩ = some (.int .i64 0) := (o3_2.1 1).trans (by go_simp)
    have f3_2 : ∀ o, v3.frozen? ⟨w.heap.size + 2, o, none⟩ = false := fun o => (o3_2.2.1 o).trans (by go_simp)
    have s3_2 : w.heap.size + 2 < v3.heap.size := o3_2.2.2
    have o3_3 := own_stays hb3 (b := v2.heap.size) (by first | assumption | (simp; done) | (simp; omega) | omega)
    have n3_3_0 : v3.cell? ⟨v2.heap.size, 0, none⟩ = some (.int .i64 (hiW t)) := (o3_3.1 0).trans (by go_simp)
    have n3_3_1 : v3.cell? ⟨v2.heap.size, 1, none⟩ = some (.int .u64 (loW t)) := (o3_3.1 1).trans (by go_simp)
    have s3_3 : v2.heap.size < v3.heap.size := o3_3.2.2
    have HBx := HB2.out
    have HB3 := Lib.hid (show Below w.heap.size w v3 from bl_call (by repeat (with_reducible (first | exact Below.refl _ _ | assumption | refine bl_alloc ?_ _ | refine bl_drewN ?_ _ | refine bl_drew ?_ | refine bl_call ?_ (by assumption) | (refine bl_setCell ?_ _ (Nat.le_refl _)) | (refine bl_setCell ?_ _ (by first | omega | (simp; done) | (simp; omega)))))) hb3)
    clear HBx
    clear hb3 o3_0 o3_1 o3_2 o3_3 n2_0_0 n2_0_1 s2_0 n2_1_0 n2_1_1 s2_1 n2_2_0 n2_2_1 f2_2 s2_2 HB2
    go_wp2_with fail
    refine (CM.out _).mono ?_
    rintro e v4 ⟨rfl, hb4⟩
    have o4_0 := own_stays hb4 (b := w.heap.size) (by first | assumption | (simp; done) | (simp; omega) | omega)
    have n4_0_0 : v4.cell? ⟨w.heap.size, 0, none⟩ = some (.int .i64 n) := (o4_0.1 0).trans (by go_simp)
    have n4_0_1 : v4.cell? ⟨w.heap.size, 1, none⟩ = some (.int .i64 d) := (o4_0.1 1).trans (by go_simp)
    have s4_0 : w.heap.size < v4.heap.size := o4_0.2.2
    have o4_1 := own_stays hb4 (b := w.heap.size + 1) (by first | assumption | (simp; done) | (simp; omega) | omega)
    have n4_1_0 : v4.cell? ⟨w.heap.size + 1, 0, none⟩ = some (.int .i64 m) := (o4_1.1 0).trans (by go_simp)
    have n4_1_1 : v4.cell? ⟨w.heap.size + 1, 1, none⟩ = some (.int .i64 c) := (o4_1.1 1).trans (by go_simp)
    have s4_1 : w.heap.size + 1 < v4.heap.size := o4_1.2.2
    have o4_2 := own_stays hb4 (b := w.heap.size + 2) (by first | assumption | (simp; done) | (simp; omega) | omega)
    have n4_2_0 : v4.cell? ⟨w.heap.size + 2, 0, none⟩ = some (.int .i64 0) := (o4_2.1 0).trans (by go_simp)
    have n4_2_1 : v4.cell? ⟨w.heap.size + 2, 1, none⟩ = some (.int .i64 0) := (o4_2.1 1).trans (by go_simp)
    have f4_2 : ∀ o, v4.frozen? ⟨w.heap.size + 2, o, none⟩ = false := fun o => (o4_2.2.1 o).trans (by go_simp)
    have s4_2 : w.heap.size + 2 < v4.heap.size := o4_2.2.2
    have o4_3 := own_stays hb4 (b := v2.heap.size) (by first | assumption | (simp; done) | (simp; omega) | omega)
    have n4_3_0 : v4.cell? ⟨v2.heap.size, 0, none⟩ = some (.int .i64 (hiW t)) := (o4_3.1 0).trans (by go_simp)
    have n4_3_1 : v4.cell? ⟨v2.heap.size, 1, none⟩ = some (.int .u64 (loW t)) := (o4_3.1 1).trans (by go_simp)
    have s4_3 : v2.heap.size < v4.heap.size := o4_3.2.2
    have HBx := HB3.out
    have HB4 := Lib.hid (show Below w.heap.size w v4 from bl_call (by repeat (with_reducible (first | exact Below.refl _ _ | assumption | refine bl_alloc ?_ _ | refine bl_drewN ?_ _ | refine bl_drew ?_ | refine bl_call ?_ (by assumption) | (refine bl_setCell ?_ _ (Nat.le_refl _)) | (refine bl_setCell ?_ _ (by first | omega | (simp; done) | (simp; omega)))))) hb4)
    clear HBx
    clear hb4 o4_0 o4_1 o4_2 o4_3 n3_0_0 n3_0_1 s3_0 n3_1_0 n3_1_1 s3_1 n3_2_0 n3_2_1 f3_2 s3_2 n3_3_0 n3_3_1 s3_3 HB3
    go_wp2_with fail
    refine (D2.out _).mono ?_
    rintro e v5 ⟨rfl, hb5⟩
    have o5_0 := own_stays hb5 (b := w.heap.size) (by first | assumption | (simp; done) | (simp; omega) | omega)
    have n5_0_0 : v5.cell? ⟨w.heap.size, 0, none⟩ = some (.int .i64 n) := (o5_0.1 0).trans (by go_simp)
    have n5_0_1 : v5.cell? ⟨w.heap.size, 1, none⟩ = some (.int .i64 d) := (o5_0.1 1).trans (by go_simp)
    have s5_0 : w.heap.size < v5.heap.size := o5_0.2.2
    have o5_1 := own_stays hb5 (b := w.heap.size + 1) (by first | assumption | (simp; done) | (simp; omega) | omega)
    have n5_1_0 : v5.cell? ⟨w.heap.size + 1, 0, none⟩ = some (.int .i64 m) := (o5_1.1 0).trans (by go_simp)
    have n5_1_1 : v5.cell? ⟨w.heap.size + 1, 1, none⟩ = some (.int .i64 c) := (o5_1.1 1).trans (by go_simp)
    have s5_1 : w.heap.size + 1 < v5.heap.size := o5_1.2.2
    have o5_2 := own_stays hb5 (b := w.heap.size + 2) (by first | assumption | (simp; done) | (simp; omega) | omega)
    have n5_2_0 : v5.cell? ⟨w.heap.size + 2, 0, none⟩ = some (.int .i64 0) := (o5_2.1 0).trans (by go_simp)
    have n5_2_1 : v5.cell? ⟨w.heap.size + 2, 1, none⟩ = some (.int .i64 0) := (o5_2.1 1).trans (by go_simp)
    have f5_2 : ∀ o, v5.frozen? ⟨w.heap.size + 2, o, none⟩ = false := fun o => (o5_2.2.1 o).trans (by go_simp)
    have s5_2 : w.heap.size + 2 < v5.heap.size := o5_2.2.2
    have HBx := HB4.out
    have HB5 := Lib.hid (show Below w.heap.size w v5 from bl_call (by repeat (with_reducible (first | exact Below.refl _ _ | assumption | refine bl_alloc ?_ _ | refine bl_drewN ?_ _ | refine bl_drew ?_ | refine bl_call ?_ (by assumption) | (refine bl_setCell ?_ _ (Nat.le_refl _)) | (refine bl_setCell ?_ _ (by first | omega | (simp; done) | (simp; omega)))))) hb5)
    clear HBx
    clear hb5 o5_0 o5_1 o5_2 n4_0_0 n4_0_1 s4_0 n4_1_0 n4_1_1 s4_1 n4_2_0 n4_2_1 f4_2 s4_2 n4_3_0 n4_3_1 s4_3 HB4
    go_wp2_with fail
    refine (FT.out _).mono ?_
    rintro e v6 ⟨rfl, hb6⟩
    have o6_0 := own_stays hb6 (b := w.heap.size) (by first | assumption | (simp; done) | (simp; omega) | omega)
    have n6_0_0 : v6.cell? ⟨w.heap.size, 0, none⟩ = some (.int .i64 n) := (o6_0.1 0).trans (by go_simp)
    have n6_0_1 : v6.cell? ⟨w.heap.size, 1, none⟩ = some (.int .i64 d) := (o6_0.1 1).trans (by go_simp)
    have s6_0 : w.heap.size < v6.heap.size := o6_0.2.2
    have o6_1 := own_stays hb6 (b := w.heap.size + 1) (by first | assumption | (simp; done) | (simp; omega) | omega)
    have n6_1_0 : v6.cell? ⟨w.heap.size + 1, 0, none⟩ = some (.int .i64 m) := (o6_1.1 0).trans (by go_simp)
    have n6_1_1 : v6.cell? ⟨w.heap.size + 1, 1, none⟩ = some (.int .i64 c) := (o6_1.1 1).trans (by go_simp)
    have s6_1 : w.heap.size + 1 < v6.heap.size := o6_1.2.2
    have o6_2 := own_stays hb6 (b := w.heap.size + 2) (by first | assumption | (simp; done) | (simp; omega) | omega)
    have n6_2_0 : v6.cell? ⟨w.heap.size + 2, 0, none⟩ = some (.int .i64 0) := (o6_2.1 0).trans (by go_simp)
    have n6_2_1 : v6.cell? ⟨w.heap.size + 2, 1, none⟩ = some (.int .i64 0) := (o6_2.1 1).trans (by go_simp)
    have f6_2 : ∀ o, v6.frozen? ⟨w.heap.size + 2, o, none⟩ = false := fun o => (o6_2.2.1 o).trans (by go_simp)
    have s6_2 : w.heap.size + 2 < v6.heap.size := o6_2.2.2
    have HBx := HB5.out
    have HB6 := Lib.hid (show Below w.heap.size w v6 from bl_call (by repeat (with_reducible (first | exact Below.refl _ _ | assumption | refine bl_alloc ?_ _ | refine bl_drewN ?_ _ | refine bl_drew ?_ | refine bl_call ?_ (by assumption) | (refine bl_setCell ?_ _ (Nat.le_refl _)) | (refine bl_setCell ?_ _ (by first | omega | (simp; done) | (simp; omega)))))) hb6)
    clear HBx
    clear hb6 o6_0 o6_1 o6_2 n5_0_0 n5_0_1 s5_0 n5_1_0 n5_1_1 s5_1 n5_2_0 n5_2_1 f5_2 s5_2 HB5
    by_cases i1 : In q
    · have c1 : capN q = q ∧ errN q = 0 := capN_of i1
      rw [c1.1, c1.2]
      go_wp2_with fail
      refine region_qb (fun W => W.cell? ⟨w.heap.size, 0, none⟩ = some (.int .i64 n) ∧ W.cell? ⟨w.heap.size, 1, none⟩ = some (.int .i64 d) ∧ W.cell? ⟨w.heap.size + 1, 0, none⟩ = some (.int .i64 m) ∧ W.cell? ⟨w.heap.size + 1, 1, none⟩ = some (.int .i64 c) ∧ W.cell? ⟨w.heap.size + 2, 0, none⟩ = some (.int .i64 0) ∧ W.cell? ⟨w.heap.size + 2, 1, none⟩ = some (.int .i64 0) ∧ (∀ o, W.frozen? ⟨w.heap.size + 2, o, none⟩ = false) ∧ w.heap.size + 2 < W.heap.size ∧ Below w.heap.size w W) ⟨by go_simp, by go_simp, by go_simp, by go_simp, by go_simp, by go_simp, by go_simp, by go_simp, by (have HBx := HB6.out; exact (by repeat (with_reducible (first | exact Below.refl _ _ | assumption | refine bl_alloc ?_ _ | refine bl_drewN ?_ _ | refine bl_drew ?_ | refine bl_call ?_ (by assumption) | (refine bl_setCell ?_ _ (Nat.le_refl _)) | (refine bl_setCell ?_ _ (by first | omega | (simp; done) | (simp; omega)))))))⟩ (by kernel_rfl) (by kernel_rfl) ?_
      intro W ⟨k0, k1, k2, k3, k4, k5, k6, k7, hbW⟩
      clear n6_0_0 n6_0_1 s6_0 n6_1_0 n6_1_1 s6_1 n6_2_0 n6_2_1 f6_2 s6_2 HB6
      have K := Lib.hid (And.intro k4 (And.intro k5 k6))
      clear k4 k5 k6
      replace k0 := rcell k0
      replace k1 := rcell k1
      replace k2 := rcell k2
      replace k3 := rcell k3
      repeat (first | go_big_quiet_step (first | with_reducible exact Calls.regrown_same (ML.out _)) | quiet_step (first | with_reducible exact Calls.regrown_same (ML.out _)))
      refine wpQuiet_nil ?_
      intro u hu
      obtain ⟨x1, x2, x3⟩ := own_stays hu k7
      obtain ⟨K4, K5, K6⟩ := K.out
      have j4 : u.cell? ⟨w.heap.size + 2, 0, none⟩ = some (.int .i64 0) := (x1 0).trans K4
      have j5 : u.cell? ⟨w.heap.size + 2, 1, none⟩ = some (.int .i64 0) := (x1 1).trans K5
      have j6 : ∀ o, u.frozen? ⟨w.heap.size + 2, o, none⟩ = false := fun o => (x2 o).trans (K6 o)
      have HU := Lib.hid (show Below w.heap.size w u from bl_call hbW hu)
      clear k0 k1 k2 k3 K K4 K5 K6 x1 x2 hu hbW
      rcases RR.out.1 i1 with ⟨i2, e1, e2, e3⟩ | ⟨i2, e1, e2, e3⟩
      · have c2 : capN p = p ∧ errN p = 0 := capN_of i2
        rw [c2.1, c2.2]
        have EE := Lib.hid (And.intro e1 (And.intro e2 e3))
        clear e1 e2 e3 c2 i1 i2
        go_wp2
        refine bodyPost_ret (v := .tuple #[ratA q p, .int .i64 0]) (by simp [results, Tryd.results26, go_sem, *]) rfl ⟨ret_re EE.out.1.symm EE.out.2.1.symm EE.out.2.2.symm, ?_⟩
        have := HU.out
        exact (by repeat (with_reducible (first | exact Below.refl _ _ | assumption | refine bl_alloc ?_ _ | refine bl_drewN ?_ _ | refine bl_drew ?_ | refine bl_call ?_ (by assumption) | (refine bl_setCell ?_ _ (Nat.le_refl _)) | (refine bl_setCell ?_ _ (by first | omega | (simp; done) | (simp; omega))))))
      · have c2 : capN p = 0 ∧ errN p = 2 := capN_not i2
        rw [c2.1, c2.2]
        have EE := Lib.hid (And.intro e1 (And.intro e2 e3))
        clear e1 e2 e3 c2 i1 i2
        go_wp2
        refine bodyPost_ret (v := .tuple #[ratA 0 0, .int .i64 2]) (by simp [results, Tryd.results26, go_sem, *]) rfl ⟨ret_re EE.out.1.symm EE.out.2.1.symm EE.out.2.2.symm, ?_⟩
        have := HU.out
        exact (by repeat (with_reducible (first | exact Below.refl _ _ | assumption | refine bl_alloc ?_ _ | refine bl_drewN ?_ _ | refine bl_drew ?_ | refine bl_call ?_ (by assumption) | (refine bl_setCell ?_ _ (Nat.le_refl _)) | (refine bl_setCell ?_ _ (by first | omega | (simp; done) | (simp; omega))))))
    · have c1 : capN q = 0 ∧ errN q = 2 := capN_not i1
      rw [c1.1, c1.2]
      have EE := Lib.hid (RR.out.2 i1)
      clear i1 c1
      go_wp2
      refine bodyPost_ret (v := .tuple #[ratA 0 0, .int .i64 2]) (by simp [results, Tryd.results26, go_sem, *]) rfl ⟨ret_re EE.out.1.symm EE.out.2.1.symm EE.out.2.2.symm, ?_⟩
      have := HB6.out
      exact (by repeat (with_reducible (first | exact Below.refl _ _ | assumption | refine bl_alloc ?_ _ | refine bl_drewN ?_ _ | refine bl_drew ?_ | refine bl_call ?_ (by assumption) | (refine bl_setCell ?_ _ (Nat.le_refl _)) | (refine bl_setCell ?_ _ (by first | omega | (simp; done) | (simp; omega))))))
end Go.Proofs.YtkejohmghacdhaaDoor
