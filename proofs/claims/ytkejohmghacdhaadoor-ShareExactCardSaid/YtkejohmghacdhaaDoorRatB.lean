/- Contracts of the package ratio: Check, Make. -/
import Derived.Test.YtkejohmghacdhaaDoorRatA
namespace Go.Proofs.YtkejohmghacdhaaDoor
set_option linter.unusedVariables false
set_option linter.unusedSimpArgs false
open Go.RowKit
set_option maxRecDepth 100000 in
set_option maxHeartbeats 2000000 in
theorem rat_check (n d : Int) (w : World) (hn : In n) (hd : In d) :
    Calls Tryd.prog 38 #[ratA n d] w fun e w' => e = .returned (.int .i64 (ckR n d)) ∧ Below w.heap.size w w' := by
  by_cases h1 : d < 1
  · have e : ckB n d = false := decide_eq_false (fun h => by omega)
    have E := Lib.hid (ck_false e).2
    clear e hn hd
    go_enter Tryd.func38, Tryd.ntmps38
    go_wp2_with fail
    refine region_qb (fun W => W.cell? ⟨w.heap.size, 0, none⟩ = some (.int .i64 n) ∧ W.cell? ⟨w.heap.size, 1, none⟩ = some (.int .i64 d) ∧ Below w.heap.size w W) ⟨by go_simp, by go_simp, (by repeat (with_reducible (first | exact Below.refl _ _ | assumption | refine bl_alloc ?_ _ | refine bl_drewN ?_ _ | refine bl_drew ?_ | refine bl_call ?_ (by assumption) | (refine bl_setCell ?_ _ (Nat.le_refl _)) | (refine bl_setCell ?_ _ (by first | omega | (simp; done) | (simp; omega))))))⟩ (by kernel_rfl) (by kernel_rfl) ?_
    intro W ⟨k0, k1, hbW⟩
    replace k0 := rcell k0
    replace k1 := rcell k1
    repeat (first | go_big_quiet_step (fail) | quiet_step (fail))
    refine wpQuiet_nil ?_
    intro w2 hb2
    go_wp2
    go_ret
    exact ⟨ret_i E.out.symm, bl_call hbW hb2⟩
  · have hd0 : 0 ≤ d := by omega
    obtain ⟨D, rfl⟩ := Int.eq_ofNat_of_zero_le hd0
    have hD : D ≤ 9223372036854775807 := by unfold In at hd; omega
    have hNn : n.natAbs < 18446744073709551616 := by unfold In at hn; omega
    have S := Lib.hid (fun w => rat_size n w hn)
    have C := Lib.hid (fun w => rat_common n.natAbs D w hNn (by omega))
    have E1 : Nat.gcd n.natAbs D = 1 → ckR n (D : Int) = 0 := fun h => by
      unfold ckR ckB gN
      rw [Int.natAbs_natCast, if_pos (decide_eq_true ⟨by omega, h⟩)]
    have E2 : Nat.gcd n.natAbs D ≠ 1 → ckR n (D : Int) = 1 := fun h => by
      unfold ckR ckB gN
      rw [Int.natAbs_natCast, if_neg (by simp; intro _; exact h)]
    have hD2 : (D : Int) ≤ 9223372036854775807 := by omega
    have wD : IntKind.u64.wrap (D : Int) = (D : Int) := by rw [IntKind.wrap_u64]; omega
    clear hn hd hNn hD
    generalize n.natAbs = N at *
    generalize Nat.gcd N D = g at *
    by_cases hg : g = 1
    · have E := Lib.hid (E1 hg)
      subst hg
      clear E1 E2
      go_enter Tryd.func38, Tryd.ntmps38
      go_wp2_with fail
      refine region_qb (fun W => W.cell? ⟨w.heap.size, 0, none⟩ = some (.int .i64 n) ∧ W.cell? ⟨w.heap.size, 1, none⟩ = some (.int .i64 (D : Int)) ∧ Below w.heap.size w W) ⟨by go_simp, by go_simp, (by repeat (with_reducible (first | exact Below.refl _ _ | assumption | refine bl_alloc ?_ _ | refine bl_drewN ?_ _ | refine bl_drew ?_ | refine bl_call ?_ (by assumption) | (refine bl_setCell ?_ _ (Nat.le_refl _)) | (refine bl_setCell ?_ _ (by first | omega | (simp; done) | (simp; omega))))))⟩ (by kernel_rfl) (by kernel_rfl) ?_
      intro W ⟨k0, k1, hbW⟩
      replace k0 := rcell k0
      replace k1 := rcell k1
      repeat (first | go_big_quiet_step (first | with_reducible exact Calls.regrown_same (S.out _) | with_reducible exact Calls.regrown_of (C.out _)) | quiet_step (first | with_reducible exact Calls.regrown_same (S.out _) | with_reducible exact Calls.regrown_of (C.out _)))
      refine wpQuiet_nil ?_
      intro w2 hb2
      go_wp2
      go_ret
      exact ⟨ret_i E.out.symm, bl_call hbW hb2⟩
    · have g1 : ((g : Int) != 1) = true := by simp; omega
      have g2 : ((g : Int) == 1) = false := by simp; omega
      have E := Lib.hid (E2 hg)
      clear hg E1 E2
      go_enter Tryd.func38, Tryd.ntmps38
      go_wp2_with fail
      refine region_qb (fun W => W.cell? ⟨w.heap.size, 0, none⟩ = some (.int .i64 n) ∧ W.cell? ⟨w.heap.size, 1, none⟩ = some (.int .i64 (D : Int)) ∧ Below w.heap.size w W) ⟨by go_simp, by go_simp, (by repeat (with_reducible (first | exact Below.refl _ _ | assumption | refine bl_alloc ?_ _ | refine bl_drewN ?_ _ | refine bl_drew ?_ | refine bl_call ?_ (by assumption) | (refine bl_setCell ?_ _ (Nat.le_refl _)) | (refine bl_setCell ?_ _ (by first | omega | (simp; done) | (simp; omega))))))⟩ (by kernel_rfl) (by kernel_rfl) ?_
      intro W ⟨k0, k1, hbW⟩
      replace k0 := rcell k0
      replace k1 := rcell k1
      repeat (first | go_big_quiet_step (first | with_reducible exact Calls.regrown_same (S.out _) | with_reducible exact Calls.regrown_of (C.out _)) | quiet_step (first | with_reducible exact Calls.regrown_same (S.out _) | with_reducible exact Calls.regrown_of (C.out _)))
      refine wpQuiet_nil ?_
      intro w2 hb2
      go_wp2
      go_ret
      exact ⟨ret_i E.out.symm, bl_call hbW hb2⟩
theorem made_mk (n d : Int) (hn : In n) (hd : In d) (h : d ≠ 0) (w : World) :
    Calls Tryd.prog 53 #[.bool (mkS n d), .int .u64 (mX n d : Nat), .int .u64 (mY n d : Nat), .int .u64 0] w fun e w' => e = .returned (.tuple #[ratA (mkN n d) (mkD n d), .int .i64 (mkE n d)]) ∧ Below w.heap.size w w' := by
  have bx := mX_bd h hn
  have by' := mY_bd (n := n) h hd
  rcases mk_cases n d with ⟨h0, _⟩ | ⟨_, ok, e1, e2, e3⟩ | ⟨_, ok, e1, e2, e3⟩
  · exact absurd h0 h
  · obtain ⟨_, k1, k2⟩ := of_decide_eq_true ok
    rw [e1, e2, e3]
    exact made_ok (mkS n d) (mX n d) (mY n d) w (by omega) (by omega) (by omega) (by rcases k2 with k2 | k2; exact .inl (by omega); exact .inr ⟨by omega, k2⟩)
  · have k := of_decide_eq_false ok
    rw [e1, e2, e3]
    refine made_over (mkS n d) (mX n d) (mY n d) 0 w (by omega) (by omega) (by decide) ?_
    by_cases c1 : mY n d ≤ 9223372036854775807
    · refine .inr (.inr (.inr ⟨?_, ?_⟩))
      · have : ¬ mX n d ≤ 9223372036854775807 := fun h' => k ⟨h, c1, .inl h'⟩
        omega
      · cases hs : mkS n d
        · rfl
        · exact absurd ⟨h, c1, .inr hs⟩ k
    · exact .inr (.inl (by omega))
set_option maxRecDepth 100000 in
set_option maxHeartbeats 4000000 in
theorem rat_make (n d : Int) (w : World) (hn : In n) (hd : In d) :
    Calls Tryd.prog 23 #[.int .i64 n, .int .i64 d] w fun e w' => e = .returned (.tuple #[ratA (mkN n d) (mkD n d), .int .i64 (mkE n d)]) ∧ Below w.heap.size w w' := by
  by_cases h : d = 0
  · subst h
    have E := Lib.hid (show mkN n 0 = 0 ∧ mkD n 0 = 0 ∧ mkE n 0 = 3 by rcases mk_cases n 0 with ⟨_, h⟩ | ⟨h, _⟩ | ⟨h, _⟩; exact h; exact absurd rfl h; exact absurd rfl h)
    go_enter Tryd.func23, Tryd.ntmps23
    go_wp2
    refine bodyPost_ret (v := .tuple #[ratA 0 0, .int .i64 3]) (by simp [results, Tryd.results23, go_sem]) rfl ⟨ret_re E.out.1.symm E.out.2.1.symm E.out.2.2.symm, ?_⟩
    exact (by repeat (with_reducible (first | exact Below.refl _ _ | assumption | refine bl_alloc ?_ _ | refine bl_drewN ?_ _ | refine bl_drew ?_ | refine bl_call ?_ (by assumption) | (refine bl_setCell ?_ _ (Nat.le_refl _)) | (refine bl_setCell ?_ _ (by first | omega | (simp; done) | (simp; omega))))))
  · have hz : (d == 0) = false := by simpa using h
    have SN := Lib.hid (fun w => rat_size n w hn)
    have SD := Lib.hid (fun w => rat_size d w hd)
    have CM := Lib.hid (fun w => rat_common n.natAbs d.natAbs w (by unfold In at hn; omega) (by unfold In at hd; omega))
    have MD := made_mk n d hn hd h
    have X := Lib.hid (mkS_xor hn hd h)
    have gp := gN_pos (n := n) h
    have q1 : ((n.natAbs : Nat) : Int) / ((Nat.gcd n.natAbs d.natAbs : Nat) : Int) = ((mX n d : Nat) : Int) := by unfold mX gN; rw [Int.natCast_ediv]
    have q2 : ((d.natAbs : Nat) : Int) / ((Nat.gcd n.natAbs d.natAbs : Nat) : Int) = ((mY n d : Nat) : Int) := by unfold mY gN; rw [Int.natCast_ediv]
    have q3 : ((n.natAbs : Nat) : Int).tdiv ((Nat.gcd n.natAbs d.natAbs : Nat) : Int) = ((mX n d : Nat) : Int) := by rw [Int.tdiv_eq_ediv_of_nonneg (by omega)]; exact q1
    have q4 : ((d.natAbs : Nat) : Int).tdiv ((Nat.gcd n.natAbs d.natAbs : Nat) : Int) = ((mY n d : Nat) : Int) := by rw [Int.tdiv_eq_ediv_of_nonneg (by omega)]; exact q2
    have bx := mX_bd h hn
    have by' := mY_bd (n := n) h hd
    have gp' : 0 < Nat.gcd n.natAbs d.natAbs := gp
    have C : (bits .xor .i64 n d < 0 ∧ (n == 0) = false ∧ mkS n d = true) ∨ (bits .xor .i64 n d < 0 ∧ (n == 0) = true ∧ mkS n d = false) ∨ (decide (bits .xor .i64 n d < 0) = false ∧ mkS n d = false) := by
      have x := X.out
      by_cases c1 : bits .xor .i64 n d < 0
      · by_cases c2 : n = 0
        · refine .inr (.inl ⟨c1, by simpa using c2, ?_⟩); rw [← x]; simp [c2]
        · refine .inl ⟨c1, by simpa using c2, ?_⟩; rw [← x]; simp [c1, c2]
      · refine .inr (.inr ⟨by simpa using c1, ?_⟩); rw [← x]; simp [c1]
    clear X hn hd h gp
    generalize Nat.gcd n.natAbs d.natAbs = g at *
    generalize n.natAbs = N at *
    generalize d.natAbs = D at *
    generalize mX n d = X at *
    generalize mY n d = Y at *
    generalize mkN n d = rN at *
    generalize mkD n d = rD at *
    generalize mkE n d = rE at *
    have g0 : ((g : Int) == 0) = false := by simp; omega
    have g1 : (0 : Int) < (g : Int) := by omega
    have gz : ¬ g = 0 := by omega
    have wX : IntKind.u64.wrap (X : Int) = (X : Int) := by rw [IntKind.wrap_u64]; omega
    have wY : IntKind.u64.wrap (Y : Int) = (Y : Int) := by rw [IntKind.wrap_u64]; omega
    have bx' : (X : Int) ≤ 9223372036854775808 := by omega
    have by2 : (Y : Int) ≤ 9223372036854775808 := by omega
    clear gp' bx by'
    have go : ∀ (hw : World) (hb : Below w.heap.size w hw), True := fun _ _ => trivial
    rcases C with ⟨c1, c2, c3⟩ | ⟨c1, c2, c3⟩ | ⟨c1, c3⟩
    all_goals
      rw [c3] at MD
      have MD := Lib.hid MD
      clear c3 go
      try (have c2' : (n != 0) = !(n == 0) := rfl
           rw [c2] at c2'
           have c2'' := c2'
           simp only [Bool.not_true, Bool.not_false] at c2''
           clear c2')
      go_enter Tryd.func23, Tryd.ntmps23
      go_wp2_with fail
      refine (SN.out _).mono ?_
      rintro e w1 ⟨rfl, rfl⟩
      go_wp2_with fail
      refine (SD.out _).mono ?_
      rintro e w1 ⟨rfl, rfl⟩
      go_wp2_with fail
      refine (CM.out _).mono ?_
      rintro e w1 ⟨rfl, hb1⟩
      have HX : w1.heap[w.heap.size]? = some (Obj.cells #[.int .i64 0, .int .i64 0] 23) := by
        rw [hb1.block w.heap.size (by simp)]; unfold World.alloc; simp
      have hz1 : w.heap.size < w1.heap.size := by have := hb1.size; simp at this; omega
      go_wp2_with fail
      refine region_t0 (fun _ => none) (st1 19 99) (fun _ => true) w (upd (fun _ => none) 99 w.heap.size (Obj.cells #[.int .i64 0, .int .i64 0] 23)) (fresh_one (bl_call (bl_alloc (Below.refl _ _) _) hb1) (Nat.le_refl _) hz1 HX) (by kernel_rfl) (by kernel_rfl) (kinds_old (by decide)) ?_
      clear HX hb1
      repeat ((first | refine wpT_op true rfl rfl rfl (fun K hK => ?_) | refine wpT_op false rfl rfl rfl (fun K hK => ?_)); go_simp; first | (refine hK _ ?_; clear hK K) | (apply Exists.intro; refine ⟨fun _ => ?_, hK _ ?_⟩; (first | with_reducible exact Calls.same (SN.out _) | with_reducible exact Calls.same (SD.out _) | with_reducible exact Calls.stay (MD.out _)); clear hK K))
      refine wpT_st 99 w.heap.size _ (Obj.cells #[.int .i64 rN, .int .i64 rD] 23) rfl rfl (upd_same _ _ _ _) (Nat.le_refl _) ⟨fun y => rfl, fun w1 hb1 hlt hx => ⟨_, ?_, touch_set2 hx (.int .i64 rN) (.int .i64 rD)⟩⟩ ?_
      · have k0 := laid_cell hx 0 _ rfl
        have k1 := laid_cell hx 1 _ rfl
        have f0 := laid_free hx 0
        have f1 := laid_free hx 1
        clear hx hb1
        go_simp
      repeat ((first | refine wpT_op true rfl rfl rfl (fun K hK => ?_) | refine wpT_op false rfl rfl rfl (fun K hK => ?_)); go_simp; first | (refine hK _ ?_; clear hK K) | (apply Exists.intro; refine ⟨fun _ => ?_, hK _ ?_⟩; (fail); clear hK K))
      refine wpT_nil ?_
      intro w2 hfr
      obtain ⟨l1, l2, l3⟩ := hfr.low 99 w.heap.size _ (upd_same _ _ _ _)
      have k0 := laid_cell l3 0 _ rfl
      have k1 := laid_cell l3 1 _ rfl
      have hb2 := hfr.below
      clear l3 hfr
      go_wp2
      exact bodyPost_ret (v := .tuple #[ratA rN rD, .int .i64 rE]) (by simp [results, Tryd.results23, go_sem, k0, k1]) rfl ⟨rfl, hb2⟩
end Go.Proofs.YtkejohmghacdhaaDoor
