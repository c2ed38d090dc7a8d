import Derived.Test.YtkejohmghacdhaaDoorLawRatio3
import Derived.Test.YtkejohmghacdhaaDoorRatH
import Derived.Test.YtkejohmghacdhaaDoorMathS
namespace Go.Proofs.YtkejohmghacdhaaDoor
set_option linter.unusedVariables false
set_option linter.unusedSimpArgs false
open Go.RowKit
theorem eq_stepR {P : Program} {d : Nat} {xs ys : Array Value} {f : Field} {fs : List Field} {w : World} {a b : Value} {r s : Bool} (hn : f.name ≠ "_") (ha : (part f.type xs f.offset).run P w = .ok a w) (hb : (part f.type ys f.offset).run P w = .ok b w)
    (hr : (Op.equalIn d f.type a b).run P w = .ok r w) (hs : (Op.eqFields d xs ys fs).run P w = .ok s w) : (Op.eqFields d xs ys (f :: fs)).run P w = .ok (r && s) w := by
  simp only [Op.eqFields, if_pos hn, Sem.run_bind, ha, hb, hr, Result.andThen_ok, Sem.run_ite, hs]
  cases r <;> simp
set_option maxRecDepth 100000 in
theorem ratio_fields : (Tryd.prog.fieldsOf 23).toList = (match Tryd.prog.underlying 23 with | some (.struct fs) => fs | _ => #[]).toList := rfl
theorem run_eqR (a b x y : Int) (w : World) : (Op.equalIn 10000 23 (ratA a b) (ratA x y)).run Tryd.prog w = .ok ((a == x) && ((b == y) && true)) w := by
  have hp : Tryd.prog.stoodInHeld 23 = false := by kernel_rfl
  have hu := Tryd.underlying23
  have hf : Tryd.prog.underlying 23 = some (.struct (Tryd.prog.fieldsOf 23)) := by unfold Program.fieldsOf; rw [hu]
  rw [show (10000 : Nat) = 9999 + 1 from rfl, run_equalIn_agg w 9999 _ _ _ hf hp, ratio_fields, hu]
  refine eq_stepR (by decide) (by kernel_rfl) (by kernel_rfl) (run_equalIn_int w 9998 _ .i64 .i64 _ _ Tryd.underlying2) ?_
  refine eq_stepR (by decide) (by kernel_rfl) (by kernel_rfl) (run_equalIn_int w 9998 _ .i64 .i64 _ _ Tryd.underlying2) ?_
  rfl
theorem less_facts {n d m c : Int} (hn : In n) (hd : In d) (hm : In m) (hc : In c) (h : cpB n d m c = true) : ∃ tN tD tE x y : Int,
    (∀ w, Tab w → Calls Tryd.prog 12 #[ratA n d, ratA m c] w fun e w' => e = .returned (.tuple #[ratA tN tD, .int .i64 tE]) ∧ Below w.heap.size w w') ∧
    (∀ w, Calls Tryd.prog 17 #[ratA n d, ratA m c] w fun e w' => e = .returned (.tuple #[.int .i64 x, .int .i64 0]) ∧ Below w.heap.size w w') ∧
    (∀ w, Calls Tryd.prog 17 #[ratA m c, ratA n d] w fun e w' => e = .returned (.tuple #[.int .i64 y, .int .i64 0]) ∧ Below w.heap.size w w') ∧
    (tE = 0 ∨ tE = 2) ∧ ((x = -1 ∧ y = 1 ∧ ¬ (n = m ∧ d = c) ∧ (tE = 0 → tN < 0)) ∨ (x = 0 ∧ y = 0 ∧ n = m ∧ d = c ∧ (tE = 0 → tN = 0)) ∨ (x = 1 ∧ y = -1 ∧ ¬ (n = m ∧ d = c) ∧ (tE = 0 → 0 < tN))) := by
  obtain ⟨k1, k2⟩ := cpB_true.1 h
  have d1 := (ck_true k1).1
  have c1 := (ck_true k2).1
  have S := fun w hT => rat_sub n d m c w hn hd hm hc hT
  rw [h, vN_yes, vN_yes, vE_yes] at S
  have C1 := fun w => rat_cmp n d m c w hn hd hm hc
  have C2 := fun w => rat_cmp m c n d w hm hc hn hd
  have h' : cpB m c n d = true := by rw [cpB_comm]; exact h
  rw [show cpV n d m c = cmpI (n * c) (m * d) by unfold cpV; rw [if_pos h], show cpE n d m c = 0 by unfold cpE; rw [if_pos h]] at C1
  rw [show cpV m c n d = cmpI (m * d) (n * c) by unfold cpV; rw [if_pos h'], show cpE m c n d = 0 by unfold cpE; rw [if_pos h']] at C2
  refine ⟨_, _, _, _, _, S, C1, C2, ?_, ?_⟩
  · unfold arE; split
    · exact .inl rfl
    · exact .inr rfl
  · have sg : arE (smP true n d m c) (d * c) = 0 → (n * c < m * d → arN (smP true n d m c) (d * c) < 0) ∧ (n * c = m * d → arN (smP true n d m c) (d * c) = 0) ∧ (m * d < n * c → 0 < arN (smP true n d m c) (d * c)) := fun h0 => by
      have hq := Int.mul_pos (show 0 < d by omega) (show 0 < c by omega)
      obtain ⟨_, _, e1, _, _⟩ := ar_yes hq h0
      exact sub_sign (gN_pos_q hq) e1
    have ne : n * c ≠ m * d → ¬ (n = m ∧ d = c) := fun h1 h2 => h1 (by rw [h2.1, h2.2])
    unfold cmpI
    by_cases l1 : n * c < m * d
    · rw [if_pos l1, if_neg (by omega), if_pos l1]
      exact .inl ⟨rfl, rfl, ne (by omega), fun h0 => (sg h0).1 l1⟩
    · by_cases l2 : m * d < n * c
      · rw [if_neg l1, if_pos l2, if_pos l2]
        exact .inr (.inr ⟨rfl, rfl, ne (by omega), fun h0 => (sg h0).2.2 l2⟩)
      · have e : n * c = m * d := by omega
        rw [if_neg l1, if_neg l2, if_neg l2, if_neg l1]
        obtain ⟨s1, s2⟩ := low_same k1 k2 e
        exact .inr (.inl ⟨rfl, rfl, s1, s2, fun h0 => (sg h0).2.1 e⟩)
set_option maxRecDepth 100000 in
set_option maxHeartbeats 16000000 in
theorem ratioLess_any (n d m c : Int) (w : World) (hn : In n) (hd : In d) (hm : In m) (hc : In c) (hT : Tab w) :
    Calls Tryd.prog 6 #[ratA n d, ratA m c] w fun e w' => e = .returned (.bool true) ∧ Below w.heap.size w w' := by
  cases h : cpB n d m c
  · have C1 := fun w => rat_cmp n d m c w hn hd hm hc
    have C2 := fun w => rat_cmp m c n d w hm hc hn hd
    have h' : cpB m c n d = false := by rw [cpB_comm]; exact h
    rw [show cpV n d m c = 0 by unfold cpV; rw [h]; rfl, show cpE n d m c = 1 by unfold cpE; rw [h]; rfl] at C1
    rw [show cpV m c n d = 0 by unfold cpV; rw [h']; rfl, show cpE m c n d = 1 by unfold cpE; rw [h']; rfl] at C2
    have C1 := Lib.hid C1
    have C2 := Lib.hid C2
    clear h h' hT hn hd hm hc
    go_enter Tryd.func6, Tryd.ntmps6
    go_wp2_with fail
    refine (live3 _).mono ?_
    rintro e v1 ⟨rfl, hb1⟩
    have o1_0 := own_stays hb1 (b := w.heap.size) (by first | assumption | (simp; done) | (simp; omega) | omega)
    have n1_0_0 : v1.cell? ⟨w.heap.size, 0, none⟩ = some (.int .i64 n) := (o1_0.1 0).trans (by go_simp)
    have n1_0_1 : v1.cell? ⟨w.heap.size, 1, none⟩ = some (.int .i64 d) := (o1_0.1 1).trans (by go_simp)
    have s1_0 : w.heap.size < v1.heap.size := o1_0.2.2
    have o1_1 := own_stays hb1 (b := w.heap.size + 1) (by first | assumption | (simp; done) | (simp; omega) | omega)
    have n1_1_0 : v1.cell? ⟨w.heap.size + 1, 0, none⟩ = some (.int .i64 m) := (o1_1.1 0).trans (by go_simp)
    have n1_1_1 : v1.cell? ⟨w.heap.size + 1, 1, none⟩ = some (.int .i64 c) := (o1_1.1 1).trans (by go_simp)
    have s1_1 : w.heap.size + 1 < v1.heap.size := o1_1.2.2
    have HB1 := Lib.hid (show Below w.heap.size w v1 from bl_call (by repeat (with_reducible (first | exact Below.refl _ _ | assumption | refine bl_alloc ?_ _ | refine bl_drewN ?_ _ | refine bl_drew ?_ | refine bl_call ?_ (by assumption) | (refine bl_setCell ?_ _ (Nat.le_refl _)) | (refine bl_setCell ?_ _ (by first | omega | (simp; done) | (simp; omega)))))) hb1)
    clear hb1 o1_0 o1_1 
    go_wp2_with fail
    refine (C1.out _).mono ?_
    rintro e v2 ⟨rfl, hb2⟩
    have o2_0 := own_stays hb2 (b := w.heap.size) (by first | assumption | (simp; done) | (simp; omega) | omega)
    have n2_0_0 : v2.cell? ⟨w.heap.size, 0, none⟩ = some (.int .i64 n) := (o2_0.1 0).trans (by go_simp)
    have n2_0_1 : v2.cell? ⟨w.heap.size, 1, none⟩ = some (.int .i64 d) := (o2_0.1 1).trans (by go_simp)
    have s2_0 : w.heap.size < v2.heap.size := o2_0.2.2
    have o2_1 := own_stays hb2 (b := w.heap.size + 1) (by first | assumption | (simp; done) | (simp; omega) | omega)
    have n2_1_0 : v2.cell? ⟨w.heap.size + 1, 0, none⟩ = some (.int .i64 m) := (o2_1.1 0).trans (by go_simp)
    have n2_1_1 : v2.cell? ⟨w.heap.size + 1, 1, none⟩ = some (.int .i64 c) := (o2_1.1 1).trans (by go_simp)
    have s2_1 : w.heap.size + 1 < v2.heap.size := o2_1.2.2
    have HBx := HB1.out
    have HB2 := Lib.hid (show Below w.heap.size w v2 from bl_call (by repeat (with_reducible (first | exact Below.refl _ _ | assumption | refine bl_alloc ?_ _ | refine bl_drewN ?_ _ | refine bl_drew ?_ | refine bl_call ?_ (by assumption) | (refine bl_setCell ?_ _ (Nat.le_refl _)) | (refine bl_setCell ?_ _ (by first | omega | (simp; done) | (simp; omega)))))) hb2)
    clear HBx
    clear hb2 o2_0 o2_1 n1_0_0 n1_0_1 s1_0 n1_1_0 n1_1_1 s1_1 HB1
    go_wp2_with fail
    refine (C2.out _).mono ?_
    rintro e v3 ⟨rfl, hb3⟩
    have o3_0 := own_stays hb3 (b := w.heap.size) (by first | assumption | (simp; done) | (simp; omega) | omega)
    have n3_0_0 : v3.cell? ⟨w.heap.size, 0, none⟩ = some (.int .i64 n) := (o3_0.1 0).trans (by go_simp)
    have n3_0_1 : v3.cell? ⟨w.heap.size, 1, none⟩ = some (.int .i64 d) := (o3_0.1 1).trans (by go_simp)
    have s3_0 : w.heap.size < v3.heap.size := o3_0.2.2
    have o3_1 := own_stays hb3 (b := w.heap.size + 1) (by first | assumption | (simp; done) | (simp; omega) | omega)
    have n3_1_0 : v3.cell? ⟨w.heap.size + 1, 0, none⟩ = some (.int .i64 m) := (o3_1.1 0).trans (by go_simp)
    have n3_1_1 : v3.cell? ⟨w.heap.size + 1, 1, none⟩ = some (.int .i64 c) := (o3_1.1 1).trans (by go_simp)
    have s3_1 : w.heap.size + 1 < v3.heap.size := o3_1.2.2
    have HBx := HB2.out
    have HB3 := Lib.hid (show Below w.heap.size w v3 from bl_call (by repeat (with_reducible (first | exact Below.refl _ _ | assumption | refine bl_alloc ?_ _ | refine bl_drewN ?_ _ | refine bl_drew ?_ | refine bl_call ?_ (by assumption) | (refine bl_setCell ?_ _ (Nat.le_refl _)) | (refine bl_setCell ?_ _ (by first | omega | (simp; done) | (simp; omega)))))) hb3)
    clear HBx
    clear hb3 o3_0 o3_1 n2_0_0 n2_0_1 s2_0 n2_1_0 n2_1_1 s2_1 HB2
    go_wp2
    go_ret
    have HBz := HB3.out
    exact ⟨ret_b (by first | rfl | (simp; done)), (by repeat (with_reducible (first | exact Below.refl _ _ | assumption | refine bl_alloc ?_ _ | refine bl_drewN ?_ _ | refine bl_drew ?_ | refine bl_call ?_ (by assumption) | (refine bl_setCell ?_ _ (Nat.le_refl _)) | (refine bl_setCell ?_ _ (by first | omega | (simp; done) | (simp; omega))))))⟩
  · obtain ⟨tN, tD, tE, x, y, S, C1, C2, ht, hx⟩ := less_facts hn hd hm hc h
    have TB := Lib.hid hT
    have S := Lib.hid S
    clear h hT hn hd hm hc
    rcases hx with ⟨rfl, rfl, hne, hs⟩ | ⟨rfl, rfl, rfl, rfl, hs⟩ | ⟨rfl, rfl, hne, hs⟩
    · have C1 := Lib.hid C1
      have C2 := Lib.hid C2
      rcases ht with rfl | rfl
      · have eqv : ((n == m) && ((d == c) && true)) = false := by
          cases e1 : (n == m)
          · rfl
          · cases e2 : (d == c)
            · rfl
            · exact absurd ⟨eq_of_beq e1, eq_of_beq e2⟩ hne
        have RE := fun w => run_eqR n d m c w
        rw [eqv] at RE
        clear hne eqv
        have sg := hs rfl
        clear hs
        have sg2 : decide (0 < tN) = false := by simp; omega
        go_enter Tryd.func6, Tryd.ntmps6
        go_wp2_with fail
        refine (live3 _).mono ?_
        rintro e v1 ⟨rfl, hb1⟩
        have o1_0 := own_stays hb1 (b := w.heap.size) (by first | assumption | (simp; done) | (simp; omega) | omega)
        have n1_0_0 : v1.cell? ⟨w.heap.size, 0, none⟩ = some (.int .i64 n) := (o1_0.1 0).trans (by go_simp)
        have n1_0_1 : v1.cell? ⟨w.heap.size, 1, none⟩ = some (.int .i64 d) := (o1_0.1 1).trans (by go_simp)
        have s1_0 : w.heap.size < v1.heap.size := o1_0.2.2
        have o1_1 := own_stays hb1 (b := w.heap.size + 1) (by first | assumption | (simp; done) | (simp; omega) | omega)
        have n1_1_0 : v1.cell? ⟨w.heap.size + 1, 0, none⟩ = some (.int .i64 m) := (o1_1.1 0).trans (by go_simp)
        have n1_1_1 : v1.cell? ⟨w.heap.size + 1, 1, none⟩ = some (.int .i64 c) := (o1_1.1 1).trans (by go_simp)
        have s1_1 : w.heap.size + 1 < v1.heap.size := o1_1.2.2
        have HB1 := Lib.hid (show Below w.heap.size w v1 from bl_call (by repeat (with_reducible (first | exact Below.refl _ _ | assumption | refine bl_alloc ?_ _ | refine bl_drewN ?_ _ | refine bl_drew ?_ | refine bl_call ?_ (by assumption) | (refine bl_setCell ?_ _ (Nat.le_refl _)) | (refine bl_setCell ?_ _ (by first | omega | (simp; done) | (simp; omega)))))) hb1)
        clear hb1 o1_0 o1_1 
        go_wp2_with fail
        refine (C1.out _).mono ?_
        rintro e v2 ⟨rfl, hb2⟩
        have o2_0 := own_stays hb2 (b := w.heap.size) (by first | assumption | (simp; done) | (simp; omega) | omega)
        have n2_0_0 : v2.cell? ⟨w.heap.size, 0, none⟩ = some (.int .i64 n) := (o2_0.1 0).trans (by go_simp)
        have n2_0_1 : v2.cell? ⟨w.heap.size, 1, none⟩ = some (.int .i64 d) := (o2_0.1 1).trans (by go_simp)
        have s2_0 : w.heap.size < v2.heap.size := o2_0.2.2
        have o2_1 := own_stays hb2 (b := w.heap.size + 1) (by first | assumption | (simp; done) | (simp; omega) | omega)
        have n2_1_0 : v2.cell? ⟨w.heap.size + 1, 0, none⟩ = some (.int .i64 m) := (o2_1.1 0).trans (by go_simp)
        have n2_1_1 : v2.cell? ⟨w.heap.size + 1, 1, none⟩ = some (.int .i64 c) := (o2_1.1 1).trans (by go_simp)
        have s2_1 : w.heap.size + 1 < v2.heap.size := o2_1.2.2
        have HBx := HB1.out
        have HB2 := Lib.hid (show Below w.heap.size w v2 from bl_call (by repeat (with_reducible (first | exact Below.refl _ _ | assumption | refine bl_alloc ?_ _ | refine bl_drewN ?_ _ | refine bl_drew ?_ | refine bl_call ?_ (by assumption) | (refine bl_setCell ?_ _ (Nat.le_refl _)) | (refine bl_setCell ?_ _ (by first | omega | (simp; done) | (simp; omega)))))) hb2)
        clear HBx
        clear hb2 o2_0 o2_1 n1_0_0 n1_0_1 s1_0 n1_1_0 n1_1_1 s1_1 HB1
        go_wp2_with fail
        refine (C2.out _).mono ?_
        rintro e v3 ⟨rfl, hb3⟩
        have o3_0 := own_stays hb3 (b := w.heap.size) (by first | assumption | (simp; done) | (simp; omega) | omega)
        have n3_0_0 : v3.cell? ⟨w.heap.size, 0, none⟩ = some (.int .i64 n) := (o3_0.1 0).trans (by go_simp)
        have n3_0_1 : v3.cell? ⟨w.heap.size, 1, none⟩ = some (.int .i64 d) := (o3_0.1 1).trans (by go_simp)
        have s3_0 : w.heap.size < v3.heap.size := o3_0.2.2
        have o3_1 := own_stays hb3 (b := w.heap.size + 1) (by first | assumption | (simp; done) | (simp; omega) | omega)
        have n3_1_0 : v3.cell? ⟨w.heap.size + 1, 0, none⟩ = some (.int .i64 m) := (o3_1.1 0).trans (by go_simp)
        have n3_1_1 : v3.cell? ⟨w.heap.size + 1, 1, none⟩ = some (.int .i64 c) := (o3_1.1 1).trans (by go_simp)
        have s3_1 : w.heap.size + 1 < v3.heap.size := o3_1.2.2
        have HBx := HB2.out
        have HB3 := Lib.hid (show Below w.heap.size w v3 from bl_call (by repeat (with_reducible (first | exact Below.refl _ _ | assumption | refine bl_alloc ?_ _ | refine bl_drewN ?_ _ | refine bl_drew ?_ | refine bl_call ?_ (by assumption) | (refine bl_setCell ?_ _ (Nat.le_refl _)) | (refine bl_setCell ?_ _ (by first | omega | (simp; done) | (simp; omega)))))) hb3)
        clear HBx
        clear hb3 o3_0 o3_1 n2_0_0 n2_0_1 s2_0 n2_1_0 n2_1_1 s2_1 HB2
        go_wp2_with fail
        refine (S.out _ ?_).mono ?_
        · have HBz := HB3.out
          exact TB.out.go (by repeat (with_reducible (first | exact Below.refl _ _ | assumption | refine bl_alloc ?_ _ | refine bl_drewN ?_ _ | refine bl_drew ?_ | refine bl_call ?_ (by assumption) | (refine bl_setCell ?_ _ (Nat.le_refl _)) | (refine bl_setCell ?_ _ (by first | omega | (simp; done) | (simp; omega))))))
        rintro e v4 ⟨rfl, hb4⟩
        have o4_0 := own_stays hb4 (b := w.heap.size) (by first | assumption | (simp; done) | (simp; omega) | omega)
        have n4_0_0 : v4.cell? ⟨w.heap.size, 0, none⟩ = some (.int .i64 n) := (o4_0.1 0).trans (by go_simp)
        have n4_0_1 : v4.cell? ⟨w.heap.size, 1, none⟩ = some (.int .i64 d) := (o4_0.1 1).trans (by go_simp)
        have s4_0 : w.heap.size < v4.heap.size := o4_0.2.2
        have o4_1 := own_stays hb4 (b := w.heap.size + 1) (by first | assumption | (simp; done) | (simp; omega) | omega)
        have n4_1_0 : v4.cell? ⟨w.heap.size + 1, 0, none⟩ = some (.int .i64 m) := (o4_1.1 0).trans (by go_simp)
        have n4_1_1 : v4.cell? ⟨w.heap.size + 1, 1, none⟩ = some (.int .i64 c) := (o4_1.1 1).trans (by go_simp)
        have s4_1 : w.heap.size + 1 < v4.heap.size := o4_1.2.2
        have HBx := HB3.out
        have HB4 := Lib.hid (show Below w.heap.size w v4 from bl_call (by repeat (with_reducible (first | exact Below.refl _ _ | assumption | refine bl_alloc ?_ _ | refine bl_drewN ?_ _ | refine bl_drew ?_ | refine bl_call ?_ (by assumption) | (refine bl_setCell ?_ _ (Nat.le_refl _)) | (refine bl_setCell ?_ _ (by first | omega | (simp; done) | (simp; omega)))))) hb4)
        clear HBx
        clear hb4 o4_0 o4_1 n3_0_0 n3_0_1 s3_0 n3_1_0 n3_1_1 s3_1 HB3
        have le_0 : w.heap.size ≤ v4.heap.size := by omega
        have ne_0_0_0 : ¬ w.heap.size = v4.heap.size := by omega
        have nf_0_0_0 : ¬ v4.heap.size = w.heap.size := by omega
        have ne_0_1_0 : ¬ w.heap.size + 1 = v4.heap.size := by omega
        have nf_0_1_0 : ¬ v4.heap.size = w.heap.size + 1 := by omega
        go_wp2
        go_ret
        have HBz := HB4.out
        exact ⟨ret_b (by first | rfl | (simp; done)), (by repeat (with_reducible (first | exact Below.refl _ _ | assumption | refine bl_alloc ?_ _ | refine bl_drewN ?_ _ | refine bl_drew ?_ | refine bl_call ?_ (by assumption) | (refine bl_setCell ?_ _ (Nat.le_refl _)) | (refine bl_setCell ?_ _ (by first | omega | (simp; done) | (simp; omega))))))⟩
      · have eqv : ((n == m) && ((d == c) && true)) = false := by
          cases e1 : (n == m)
          · rfl
          · cases e2 : (d == c)
            · rfl
            · exact absurd ⟨eq_of_beq e1, eq_of_beq e2⟩ hne
        have RE := fun w => run_eqR n d m c w
        rw [eqv] at RE
        clear hne eqv
        clear hs
        go_enter Tryd.func6, Tryd.ntmps6
        go_wp2_with fail
        refine (live3 _).mono ?_
        rintro e v1 ⟨rfl, hb1⟩
        have o1_0 := own_stays hb1 (b := w.heap.size) (by first | assumption | (simp; done) | (simp; omega) | omega)
        have n1_0_0 : v1.cell? ⟨w.heap.size, 0, none⟩ = some (.int .i64 n) := (o1_0.1 0).trans (by go_simp)
        have n1_0_1 : v1.cell? ⟨w.heap.size, 1, none⟩ = some (.int .i64 d) := (o1_0.1 1).trans (by go_simp)
        have s1_0 : w.heap.size < v1.heap.size := o1_0.2.2
        have o1_1 := own_stays hb1 (b := w.heap.size + 1) (by first | assumption | (simp; done) | (simp; omega) | omega)
        have n1_1_0 : v1.cell? ⟨w.heap.size + 1, 0, none⟩ = some (.int .i64 m) := (o1_1.1 0).trans (by go_simp)
        have n1_1_1 : v1.cell? ⟨w.heap.size + 1, 1, none⟩ = some (.int .i64 c) := (o1_1.1 1).trans (by go_simp)
        have s1_1 : w.heap.size + 1 < v1.heap.size := o1_1.2.2
        have HB1 := Lib.hid (show Below w.heap.size w v1 from bl_call (by repeat (with_reducible (first | exact Below.refl _ _ | assumption | refine bl_alloc ?_ _ | refine bl_drewN ?_ _ | refine bl_drew ?_ | refine bl_call ?_ (by assumption) | (refine bl_setCell ?_ _ (Nat.le_refl _)) | (refine bl_setCell ?_ _ (by first | omega | (simp; done) | (simp; omega)))))) hb1)
        clear hb1 o1_0 o1_1 
        go_wp2_with fail
        refine (C1.out _).mono ?_
        rintro e v2 ⟨rfl, hb2⟩
        have o2_0 := own_stays hb2 (b := w.heap.size) (by first | assumption | (simp; done) | (simp; omega) | omega)
        have n2_0_0 : v2.cell? ⟨w.heap.size, 0, none⟩ = some (.int .i64 n) := (o2_0.1 0).trans (by go_simp)
        have n2_0_1 : v2.cell? ⟨w.heap.size, 1, none⟩ = some (.int .i64 d) := (o2_0.1 1).trans (by go_simp)
        have s2_0 : w.heap.size < v2.heap.size := o2_0.2.2
        have o2_1 := own_stays hb2 (b := w.heap.size + 1) (by first | assumption | (simp; done) | (simp; omega) | omega)
        have n2_1_0 : v2.cell? ⟨w.heap.size + 1, 0, none⟩ = some (.int .i64 m) := (o2_1.1 0).trans (by go_simp)
        have n2_1_1 : v2.cell? ⟨w.heap.size + 1, 1, none⟩ = some (.int .i64 c) := (o2_1.1 1).trans (by go_simp)
        have s2_1 : w.heap.size + 1 < v2.heap.size := o2_1.2.2
        have HBx := HB1.out
        have HB2 := Lib.hid (show Below w.heap.size w v2 from bl_call (by repeat (with_reducible (first | exact Below.refl _ _ | assumption | refine bl_alloc ?_ _ | refine bl_drewN ?_ _ | refine bl_drew ?_ | refine bl_call ?_ (by assumption) | (refine bl_setCell ?_ _ (Nat.le_refl _)) | (refine bl_setCell ?_ _ (by first | omega | (simp; done) | (simp; omega)))))) hb2)
        clear HBx
        clear hb2 o2_0 o2_1 n1_0_0 n1_0_1 s1_0 n1_1_0 n1_1_1 s1_1 HB1
        go_wp2_with fail
        refine (C2.out _).mono ?_
        rintro e v3 ⟨rfl, hb3⟩
        have o3_0 := own_stays hb3 (b := w.heap.size) (by first | assumption | (simp; done) | (simp; omega) | omega)
        have n3_0_0 : v3.cell? ⟨w.heap.size, 0, none⟩ = some (.int .i64 n) := (o3_0.1 0).trans (by go_simp)
        have n3_0_1 : v3.cell? ⟨w.heap.size, 1, none⟩ = some (.int .i64 d) := (o3_0.1 1).trans (by go_simp)
        have s3_0 : w.heap.size < v3.heap.size := o3_0.2.2
        have o3_1 := own_stays hb3 (b := w.heap.size + 1) (by first | assumption | (simp; done) | (simp; omega) | omega)
        have n3_1_0 : v3.cell? ⟨w.heap.size + 1, 0, none⟩ = some (.int .i64 m) := (o3_1.1 0).trans (by go_simp)
        have n3_1_1 : v3.cell? ⟨w.heap.size + 1, 1, none⟩ = some (.int .i64 c) := (o3_1.1 1).trans (by go_simp)
        have s3_1 : w.heap.size + 1 < v3.heap.size := o3_1.2.2
        have HBx := HB2.out
        have HB3 := Lib.hid (show Below w.heap.size w v3 from bl_call (by repeat (with_reducible (first | exact Below.refl _ _ | assumption | refine bl_alloc ?_ _ | refine bl_drewN ?_ _ | refine bl_drew ?_ | refine bl_call ?_ (by assumption) | (refine bl_setCell ?_ _ (Nat.le_refl _)) | (refine bl_setCell ?_ _ (by first | omega | (simp; done) | (simp; omega)))))) hb3)
        clear HBx
        clear hb3 o3_0 o3_1 n2_0_0 n2_0_1 s2_0 n2_1_0 n2_1_1 s2_1 HB2
        go_wp2_with fail
        refine (S.out _ ?_).mono ?_
        · have HBz := HB3.out
          exact TB.out.go (by repeat (with_reducible (first | exact Below.refl _ _ | assumption | refine bl_alloc ?_ _ | refine bl_drewN ?_ _ | refine bl_drew ?_ | refine bl_call ?_ (by assumption) | (refine bl_setCell ?_ _ (Nat.le_refl _)) | (refine bl_setCell ?_ _ (by first | omega | (simp; done) | (simp; omega))))))
        rintro e v4 ⟨rfl, hb4⟩
        have o4_0 := own_stays hb4 (b := w.heap.size) (by first | assumption | (simp; done) | (simp; omega) | omega)
        have n4_0_0 : v4.cell? ⟨w.heap.size, 0, none⟩ = some (.int .i64 n) := (o4_0.1 0).trans (by go_simp)
        have n4_0_1 : v4.cell? ⟨w.heap.size, 1, none⟩ = some (.int .i64 d) := (o4_0.1 1).trans (by go_simp)
        have s4_0 : w.heap.size < v4.heap.size := o4_0.2.2
        have o4_1 := own_stays hb4 (b := w.heap.size + 1) (by first | assumption | (simp; done) | (simp; omega) | omega)
        have n4_1_0 : v4.cell? ⟨w.heap.size + 1, 0, none⟩ = some (.int .i64 m) := (o4_1.1 0).trans (by go_simp)
        have n4_1_1 : v4.cell? ⟨w.heap.size + 1, 1, none⟩ = some (.int .i64 c) := (o4_1.1 1).trans (by go_simp)
        have s4_1 : w.heap.size + 1 < v4.heap.size := o4_1.2.2
        have HBx := HB3.out
        have HB4 := Lib.hid (show Below w.heap.size w v4 from bl_call (by repeat (with_reducible (first | exact Below.refl _ _ | assumption | refine bl_alloc ?_ _ | refine bl_drewN ?_ _ | refine bl_drew ?_ | refine bl_call ?_ (by assumption) | (refine bl_setCell ?_ _ (Nat.le_refl _)) | (refine bl_setCell ?_ _ (by first | omega | (simp; done) | (simp; omega)))))) hb4)
        clear HBx
        clear hb4 o4_0 o4_1 n3_0_0 n3_0_1 s3_0 n3_1_0 n3_1_1 s3_1 HB3
        have le_0 : w.heap.size ≤ v4.heap.size := by omega
        have ne_0_0_0 : ¬ w.heap.size = v4.heap.size := by omega
        have nf_0_0_0 : ¬ v4.heap.size = w.heap.size := by omega
        have ne_0_1_0 : ¬ w.heap.size + 1 = v4.heap.size := by omega
        have nf_0_1_0 : ¬ v4.heap.size = w.heap.size + 1 := by omega
        go_wp2
        go_ret
        have HBz := HB4.out
        exact ⟨ret_b (by first | rfl | (simp; done)), (by repeat (with_reducible (first | exact Below.refl _ _ | assumption | refine bl_alloc ?_ _ | refine bl_drewN ?_ _ | refine bl_drew ?_ | refine bl_call ?_ (by assumption) | (refine bl_setCell ?_ _ (Nat.le_refl _)) | (refine bl_setCell ?_ _ (by first | omega | (simp; done) | (simp; omega))))))⟩
    · have C1 := Lib.hid C1
      have C2 := Lib.hid C2
      rcases ht with rfl | rfl
      · have sg := hs rfl
        clear hs
        subst sg
        go_enter Tryd.func6, Tryd.ntmps6
        go_wp2_with fail
        refine (live3 _).mono ?_
        rintro e v1 ⟨rfl, hb1⟩
        have o1_0 := own_stays hb1 (b := w.heap.size) (by first | assumption | (simp; done) | (simp; omega) | omega)
        have n1_0_0 : v1.cell? ⟨w.heap.size, 0, none⟩ = some (.int .i64 n) := (o1_0.1 0).trans (by go_simp)
        have n1_0_1 : v1.cell? ⟨w.heap.size, 1, none⟩ = some (.int .i64 d) := (o1_0.1 1).trans (by go_simp)
        have s1_0 : w.heap.size < v1.heap.size := o1_0.2.2
        have o1_1 := own_stays hb1 (b := w.heap.size + 1) (by first | assumption | (simp; done) | (simp; omega) | omega)
        have n1_1_0 : v1.cell? ⟨w.heap.size + 1, 0, none⟩ = some (.int .i64 n) := (o1_1.1 0).trans (by go_simp)
        have n1_1_1 : v1.cell? ⟨w.heap.size + 1, 1, none⟩ = some (.int .i64 d) := (o1_1.1 1).trans (by go_simp)
        have s1_1 : w.heap.size + 1 < v1.heap.size := o1_1.2.2
        have HB1 := Lib.hid (show Below w.heap.size w v1 from bl_call (by repeat (with_reducible (first | exact Below.refl _ _ | assumption | refine bl_alloc ?_ _ | refine bl_drewN ?_ _ | refine bl_drew ?_ | refine bl_call ?_ (by assumption) | (refine bl_setCell ?_ _ (Nat.le_refl _)) | (refine bl_setCell ?_ _ (by first | omega | (simp; done) | (simp; omega)))))) hb1)
        clear hb1 o1_0 o1_1 
        go_wp2_with fail
        refine (C1.out _).mono ?_
        rintro e v2 ⟨rfl, hb2⟩
        have o2_0 := own_stays hb2 (b := w.heap.size) (by first | assumption | (simp; done) | (simp; omega) | omega)
        have n2_0_0 : v2.cell? ⟨w.heap.size, 0, none⟩ = some (.int .i64 n) := (o2_0.1 0).trans (by go_simp)
        have n2_0_1 : v2.cell? ⟨w.heap.size, 1, none⟩ = some (.int .i64 d) := (o2_0.1 1).trans (by go_simp)
        have s2_0 : w.heap.size < v2.heap.size := o2_0.2.2
        have o2_1 := own_stays hb2 (b := w.heap.size + 1) (by first | assumption | (simp; done) | (simp; omega) | omega)
        have n2_1_0 : v2.cell? ⟨w.heap.size + 1, 0, none⟩ = some (.int .i64 n) := (o2_1.1 0).trans (by go_simp)
        have n2_1_1 : v2.cell? ⟨w.heap.size + 1, 1, none⟩ = some (.int .i64 d) := (o2_1.1 1).trans (by go_simp)
        have s2_1 : w.heap.size + 1 < v2.heap.size := o2_1.2.2
        have HBx := HB1.out
        have HB2 := Lib.hid (show Below w.heap.size w v2 from bl_call (by repeat (with_reducible (first | exact Below.refl _ _ | assumption | refine bl_alloc ?_ _ | refine bl_drewN ?_ _ | refine bl_drew ?_ | refine bl_call ?_ (by assumption) | (refine bl_setCell ?_ _ (Nat.le_refl _)) | (refine bl_setCell ?_ _ (by first | omega | (simp; done) | (simp; omega)))))) hb2)
        clear HBx
        clear hb2 o2_0 o2_1 n1_0_0 n1_0_1 s1_0 n1_1_0 n1_1_1 s1_1 HB1
        go_wp2_with fail
        refine (C2.out _).mono ?_
        rintro e v3 ⟨rfl, hb3⟩
        have o3_0 := own_stays hb3 (b := w.heap.size) (by first | assumption | (simp; done) | (simp; omega) | omega)
        have n3_0_0 : v3.cell? ⟨w.heap.size, 0, none⟩ = some (.int .i64 n) := (o3_0.1 0).trans (by go_simp)
        have n3_0_1 : v3.cell? ⟨w.heap.size, 1, none⟩ = some (.int .i64 d) := (o3_0.1 1).trans (by go_simp)
        have s3_0 : w.heap.size < v3.heap.size := o3_0.2.2
        have o3_1 := own_stays hb3 (b := w.heap.size + 1) (by first | assumption | (simp; done) | (simp; omega) | omega)
        have n3_1_0 : v3.cell? ⟨w.heap.size + 1, 0, none⟩ = some (.int .i64 n) := (o3_1.1 0).trans (by go_simp)
        have n3_1_1 : v3.cell? ⟨w.heap.size + 1, 1, none⟩ = some (.int .i64 d) := (o3_1.1 1).trans (by go_simp)
        have s3_1 : w.heap.size + 1 < v3.heap.size := o3_1.2.2
        have HBx := HB2.out
        have HB3 := Lib.hid (show Below w.heap.size w v3 from bl_call (by repeat (with_reducible (first | exact Below.refl _ _ | assumption | refine bl_alloc ?_ _ | refine bl_drewN ?_ _ | refine bl_drew ?_ | refine bl_call ?_ (by assumption) | (refine bl_setCell ?_ _ (Nat.le_refl _)) | (refine bl_setCell ?_ _ (by first | omega | (simp; done) | (simp; omega)))))) hb3)
        clear HBx
        clear hb3 o3_0 o3_1 n2_0_0 n2_0_1 s2_0 n2_1_0 n2_1_1 s2_1 HB2
        go_wp2_with fail
        refine (S.out _ ?_).mono ?_
        · have HBz := HB3.out
          exact TB.out.go (by repeat (with_reducible (first | exact Below.refl _ _ | assumption | refine bl_alloc ?_ _ | refine bl_drewN ?_ _ | refine bl_drew ?_ | refine bl_call ?_ (by assumption) | (refine bl_setCell ?_ _ (Nat.le_refl _)) | (refine bl_setCell ?_ _ (by first | omega | (simp; done) | (simp; omega))))))
        rintro e v4 ⟨rfl, hb4⟩
        have o4_0 := own_stays hb4 (b := w.heap.size) (by first | assumption | (simp; done) | (simp; omega) | omega)
        have n4_0_0 : v4.cell? ⟨w.heap.size, 0, none⟩ = some (.int .i64 n) := (o4_0.1 0).trans (by go_simp)
        have n4_0_1 : v4.cell? ⟨w.heap.size, 1, none⟩ = some (.int .i64 d) := (o4_0.1 1).trans (by go_simp)
        have s4_0 : w.heap.size < v4.heap.size := o4_0.2.2
        have o4_1 := own_stays hb4 (b := w.heap.size + 1) (by first | assumption | (simp; done) | (simp; omega) | omega)
        have n4_1_0 : v4.cell? ⟨w.heap.size + 1, 0, none⟩ = some (.int .i64 n) := (o4_1.1 0).trans (by go_simp)
        have n4_1_1 : v4.cell? ⟨w.heap.size + 1, 1, none⟩ = some (.int .i64 d) := (o4_1.1 1).trans (by go_simp)
        have s4_1 : w.heap.size + 1 < v4.heap.size := o4_1.2.2
        have HBx := HB3.out
        have HB4 := Lib.hid (show Below w.heap.size w v4 from bl_call (by repeat (with_reducible (first | exact Below.refl _ _ | assumption | refine bl_alloc ?_ _ | refine bl_drewN ?_ _ | refine bl_drew ?_ | refine bl_call ?_ (by assumption) | (refine bl_setCell ?_ _ (Nat.le_refl _)) | (refine bl_setCell ?_ _ (by first | omega | (simp; done) | (simp; omega)))))) hb4)
        clear HBx
        clear hb4 o4_0 o4_1 n3_0_0 n3_0_1 s3_0 n3_1_0 n3_1_1 s3_1 HB3
        have le_0 : w.heap.size ≤ v4.heap.size := by omega
        have ne_0_0_0 : ¬ w.heap.size = v4.heap.size := by omega
        have nf_0_0_0 : ¬ v4.heap.size = w.heap.size := by omega
        have ne_0_1_0 : ¬ w.heap.size + 1 = v4.heap.size := by omega
        have nf_0_1_0 : ¬ v4.heap.size = w.heap.size + 1 := by omega
        go_wp2
        go_ret
        have HBz := HB4.out
        exact ⟨ret_b (by first | rfl | (simp; done)), (by repeat (with_reducible (first | exact Below.refl _ _ | assumption | refine bl_alloc ?_ _ | refine bl_drewN ?_ _ | refine bl_drew ?_ | refine bl_call ?_ (by assumption) | (refine bl_setCell ?_ _ (Nat.le_refl _)) | (refine bl_setCell ?_ _ (by first | omega | (simp; done) | (simp; omega))))))⟩
      · clear hs
        go_enter Tryd.func6, Tryd.ntmps6
        go_wp2_with fail
        refine (live3 _).mono ?_
        rintro e v1 ⟨rfl, hb1⟩
        have o1_0 := own_stays hb1 (b := w.heap.size) (by first | assumption | (simp; done) | (simp; omega) | omega)
        have n1_0_0 : v1.cell? ⟨w.heap.size, 0, none⟩ = some (.int .i64 n) := (o1_0.1 0).trans (by go_simp)
        have n1_0_1 : v1.cell? ⟨w.heap.size, 1, none⟩ = some (.int .i64 d) := (o1_0.1 1).trans (by go_simp)
        have s1_0 : w.heap.size < v1.heap.size := o1_0.2.2
        have o1_1 := own_stays hb1 (b := w.heap.size + 1) (by first | assumption | (simp; done) | (simp; omega) | omega)
        have n1_1_0 : v1.cell? ⟨w.heap.size + 1, 0, none⟩ = some (.int .i64 n) := (o1_1.1 0).trans (by go_simp)
        have n1_1_1 : v1.cell? ⟨w.heap.size + 1, 1, none⟩ = some (.int .i64 d) := (o1_1.1 1).trans (by go_simp)
        have s1_1 : w.heap.size + 1 < v1.heap.size := o1_1.2.2
        have HB1 := Lib.hid (show Below w.heap.size w v1 from bl_call (by repeat (with_reducible (first | exact Below.refl _ _ | assumption | refine bl_alloc ?_ _ | refine bl_drewN ?_ _ | refine bl_drew ?_ | refine bl_call ?_ (by assumption) | (refine bl_setCell ?_ _ (Nat.le_refl _)) | (refine bl_setCell ?_ _ (by first | omega | (simp; done) | (simp; omega)))))) hb1)
        clear hb1 o1_0 o1_1 
        go_wp2_with fail
        refine (C1.out _).mono ?_
        rintro e v2 ⟨rfl, hb2⟩
        have o2_0 := own_stays hb2 (b := w.heap.size) (by first | assumption | (simp; done) | (simp; omega) | omega)
        have n2_0_0 : v2.cell? ⟨w.heap.size, 0, none⟩ = some (.int .i64 n) := (o2_0.1 0).trans (by go_simp)
        have n2_0_1 : v2.cell? ⟨w.heap.size, 1, none⟩ = some (.int .i64 d) := (o2_0.1 1).trans (by go_simp)
        have s2_0 : w.heap.size < v2.heap.size := o2_0.2.2
        have o2_1 := own_stays hb2 (b := w.heap.size + 1) (by first | assumption | (simp; done) | (simp; omega) | omega)
        have n2_1_0 : v2.cell? ⟨w.heap.size + 1, 0, none⟩ = some (.int .i64 n) := (o2_1.1 0).trans (by go_simp)
        have n2_1_1 : v2.cell? ⟨w.heap.size + 1, 1, none⟩ = some (.int .i64 d) := (o2_1.1 1).trans (by go_simp)
        have s2_1 : w.heap.size + 1 < v2.heap.size := o2_1.2.2
        have HBx := HB1.out
        have HB2 := Lib.hid (show Below w.heap.size w v2 from bl_call (by repeat (with_reducible (first | exact Below.refl _ _ | assumption | refine bl_alloc ?_ _ | refine bl_drewN ?_ _ | refine bl_drew ?_ | refine bl_call ?_ (by assumption) | (refine bl_setCell ?_ _ (Nat.le_refl _)) | (refine bl_setCell ?_ _ (by first | omega | (simp; done) | (simp; omega)))))) hb2)
        clear HBx
        clear hb2 o2_0 o2_1 n1_0_0 n1_0_1 s1_0 n1_1_0 n1_1_1 s1_1 HB1
        go_wp2_with fail
        refine (C2.out _).mono ?_
        rintro e v3 ⟨rfl, hb3⟩
        have o3_0 := own_stays hb3 (b := w.heap.size) (by first | assumption | (simp; done) | (simp; omega) | omega)
        have n3_0_0 : v3.cell? ⟨w.heap.size, 0, none⟩ = some (.int .i64 n) := (o3_0.1 0).trans (by go_simp)
        have n3_0_1 : v3.cell? ⟨w.heap.size, 1, none⟩ = some (.int .i64 d) := (o3_0.1 1).trans (by go_simp)
        have s3_0 : w.heap.size < v3.heap.size := o3_0.2.2
        have o3_1 := own_stays hb3 (b := w.heap.size + 1) (by first | assumption | (simp; done) | (simp; omega) | omega)
        have n3_1_0 : v3.cell? ⟨w.heap.size + 1, 0, none⟩ = some (.int .i64 n) := (o3_1.1 0).trans (by go_simp)
        have n3_1_1 : v3.cell? ⟨w.heap.size + 1, 1, none⟩ = some (.int .i64 d) := (o3_1.1 1).trans (by go_simp)
        have s3_1 : w.heap.size + 1 < v3.heap.size := o3_1.2.2
        have HBx := HB2.out
        have HB3 := Lib.hid (show Below w.heap.size w v3 from bl_call (by repeat (with_reducible (first | exact Below.refl _ _ | assumption | refine bl_alloc ?_ _ | refine bl_drewN ?_ _ | refine bl_drew ?_ | refine bl_call ?_ (by assumption) | (refine bl_setCell ?_ _ (Nat.le_refl _)) | (refine bl_setCell ?_ _ (by first | omega | (simp; done) | (simp; omega)))))) hb3)
        clear HBx
        clear hb3 o3_0 o3_1 n2_0_0 n2_0_1 s2_0 n2_1_0 n2_1_1 s2_1 HB2
        go_wp2_with fail
        refine (S.out _ ?_).mono ?_
        · have HBz := HB3.out
          exact TB.out.go (by repeat (with_reducible (first | exact Below.refl _ _ | assumption | refine bl_alloc ?_ _ | refine bl_drewN ?_ _ | refine bl_drew ?_ | refine bl_call ?_ (by assumption) | (refine bl_setCell ?_ _ (Nat.le_refl _)) | (refine bl_setCell ?_ _ (by first | omega | (simp; done) | (simp; omega))))))
        rintro e v4 ⟨rfl, hb4⟩
        have o4_0 := own_stays hb4 (b := w.heap.size) (by first | assumption | (simp; done) | (simp; omega) | omega)
        have n4_0_0 : v4.cell? ⟨w.heap.size, 0, none⟩ = some (.int .i64 n) := (o4_0.1 0).trans (by go_simp)
        have n4_0_1 : v4.cell? ⟨w.heap.size, 1, none⟩ = some (.int .i64 d) := (o4_0.1 1).trans (by go_simp)
        have s4_0 : w.heap.size < v4.heap.size := o4_0.2.2
        have o4_1 := own_stays hb4 (b := w.heap.size + 1) (by first | assumption | (simp; done) | (simp; omega) | omega)
        have n4_1_0 : v4.cell? ⟨w.heap.size + 1, 0, none⟩ = some (.int .i64 n) := (o4_1.1 0).trans (by go_simp)
        have n4_1_1 : v4.cell? ⟨w.heap.size + 1, 1, none⟩ = some (.int .i64 d) := (o4_1.1 1).trans (by go_simp)
        have s4_1 : w.heap.size + 1 < v4.heap.size := o4_1.2.2
        have HBx := HB3.out
        have HB4 := Lib.hid (show Below w.heap.size w v4 from bl_call (by repeat (with_reducible (first | exact Below.refl _ _ | assumption | refine bl_alloc ?_ _ | refine bl_drewN ?_ _ | refine bl_drew ?_ | refine bl_call ?_ (by assumption) | (refine bl_setCell ?_ _ (Nat.le_refl _)) | (refine bl_setCell ?_ _ (by first | omega | (simp; done) | (simp; omega)))))) hb4)
        clear HBx
        clear hb4 o4_0 o4_1 n3_0_0 n3_0_1 s3_0 n3_1_0 n3_1_1 s3_1 HB3
        have le_0 : w.heap.size ≤ v4.heap.size := by omega
        have ne_0_0_0 : ¬ w.heap.size = v4.heap.size := by omega
        have nf_0_0_0 : ¬ v4.heap.size = w.heap.size := by omega
        have ne_0_1_0 : ¬ w.heap.size + 1 = v4.heap.size := by omega
        have nf_0_1_0 : ¬ v4.heap.size = w.heap.size + 1 := by omega
        go_wp2
        go_ret
        have HBz := HB4.out
        exact ⟨ret_b (by first | rfl | (simp; done)), (by repeat (with_reducible (first | exact Below.refl _ _ | assumption | refine bl_alloc ?_ _ | refine bl_drewN ?_ _ | refine bl_drew ?_ | refine bl_call ?_ (by assumption) | (refine bl_setCell ?_ _ (Nat.le_refl _)) | (refine bl_setCell ?_ _ (by first | omega | (simp; done) | (simp; omega))))))⟩
    · have C1 := Lib.hid C1
      have C2 := Lib.hid C2
      rcases ht with rfl | rfl
      · have eqv : ((n == m) && ((d == c) && true)) = false := by
          cases e1 : (n == m)
          · rfl
          · cases e2 : (d == c)
            · rfl
            · exact absurd ⟨eq_of_beq e1, eq_of_beq e2⟩ hne
        have RE := fun w => run_eqR n d m c w
        rw [eqv] at RE
        clear hne eqv
        have sg := hs rfl
        clear hs
        have sg2 : decide (tN < 0) = false := by simp; omega
        go_enter Tryd.func6, Tryd.ntmps6
        go_wp2_with fail
        refine (live3 _).mono ?_
        rintro e v1 ⟨rfl, hb1⟩
        have o1_0 := own_stays hb1 (b := w.heap.size) (by first | assumption | (simp; done) | (simp; omega) | omega)
        have n1_0_0 : v1.cell? ⟨w.heap.size, 0, none⟩ = some (.int .i64 n) := (o1_0.1 0).trans (by go_simp)
        have n1_0_1 : v1.cell? ⟨w.heap.size, 1, none⟩ = some (.int .i64 d) := (o1_0.1 1).trans (by go_simp)
        have s1_0 : w.heap.size < v1.heap.size := o1_0.2.2
        have o1_1 := own_stays hb1 (b := w.heap.size + 1) (by first | assumption | (simp; done) | (simp; omega) | omega)
        have n1_1_0 : v1.cell? ⟨w.heap.size + 1, 0, none⟩ = some (.int .i64 m) := (o1_1.1 0).trans (by go_simp)
        have n1_1_1 : v1.cell? ⟨w.heap.size + 1, 1, none⟩ = some (.int .i64 c) := (o1_1.1 1).trans (by go_simp)
        have s1_1 : w.heap.size + 1 < v1.heap.size := o1_1.2.2
        have HB1 := Lib.hid (show Below w.heap.size w v1 from bl_call (by repeat (with_reducible (first | exact Below.refl _ _ | assumption | refine bl_alloc ?_ _ | refine bl_drewN ?_ _ | refine bl_drew ?_ | refine bl_call ?_ (by assumption) | (refine bl_setCell ?_ _ (Nat.le_refl _)) | (refine bl_setCell ?_ _ (by first | omega | (simp; done) | (simp; omega)))))) hb1)
        clear hb1 o1_0 o1_1 
        go_wp2_with fail
        refine (C1.out _).mono ?_
        rintro e v2 ⟨rfl, hb2⟩
        have o2_0 := own_stays hb2 (b := w.heap.size) (by first | assumption | (simp; done) | (simp; omega) | omega)
        have n2_0_0 : v2.cell? ⟨w.heap.size, 0, none⟩ = some (.int .i64 n) := (o2_0.1 0).trans (by go_simp)
        have n2_0_1 : v2.cell? ⟨w.heap.size, 1, none⟩ = some (.int .i64 d) := (o2_0.1 1).trans (by go_simp)
        have s2_0 : w.heap.size < v2.heap.size := o2_0.2.2
        have o2_1 := own_stays hb2 (b := w.heap.size + 1) (by first | assumption | (simp; done) | (simp; omega) | omega)
        have n2_1_0 : v2.cell? ⟨w.heap.size + 1, 0, none⟩ = some (.int .i64 m) := (o2_1.1 0).trans (by go_simp)
        have n2_1_1 : v2.cell? ⟨w.heap.size + 1, 1, none⟩ = some (.int .i64 c) := (o2_1.1 1).trans (by go_simp)
        have s2_1 : w.heap.size + 1 < v2.heap.size := o2_1.2.2
        have HBx := HB1.out
        have HB2 := Lib.hid (show Below w.heap.size w v2 from bl_call (by repeat (with_reducible (first | exact Below.refl _ _ | assumption | refine bl_alloc ?_ _ | refine bl_drewN ?_ _ | refine bl_drew ?_ | refine bl_call ?_ (by assumption) | (refine bl_setCell ?_ _ (Nat.le_refl _)) | (refine bl_setCell ?_ _ (by first | omega | (simp; done) | (simp; omega)))))) hb2)
        clear HBx
        clear hb2 o2_0 o2_1 n1_0_0 n1_0_1 s1_0 n1_1_0 n1_1_1 s1_1 HB1
        go_wp2_with fail
        refine (C2.out _).mono ?_
        rintro e v3 ⟨rfl, hb3⟩
        have o3_0 := own_stays hb3 (b := w.heap.size) (by first | assumption | (simp; done) | (simp; omega) | omega)
        have n3_0_0 : v3.cell? ⟨w.heap.size, 0, none⟩ = some (.int .i64 n) := (o3_0.1 0).trans (by go_simp)
        have n3_0_1 : v3.cell? ⟨w.heap.size, 1, none⟩ = some (.int .i64 d) := (o3_0.1 1).trans (by go_simp)
        have s3_0 : w.heap.size < v3.heap.size := o3_0.2.2
        have o3_1 := own_stays hb3 (b := w.heap.size + 1) (by first | assumption | (simp; done) | (simp; omega) | omega)
        have n3_1_0 : v3.cell? ⟨w.heap.size + 1, 0, none⟩ = some (.int .i64 m) := (o3_1.1 0).trans (by go_simp)
        have n3_1_1 : v3.cell? ⟨w.heap.size + 1, 1, none⟩ = some (.int .i64 c) := (o3_1.1 1).trans (by go_simp)
        have s3_1 : w.heap.size + 1 < v3.heap.size := o3_1.2.2
        have HBx := HB2.out
        have HB3 := Lib.hid (show Below w.heap.size w v3 from bl_call (by repeat (with_reducible (first | exact Below.refl _ _ | assumption | refine bl_alloc ?_ _ | refine bl_drewN ?_ _ | refine bl_drew ?_ | refine bl_call ?_ (by assumption) | (refine bl_setCell ?_ _ (Nat.le_refl _)) | (refine bl_setCell ?_ _ (by first | omega | (simp; done) | (simp; omega)))))) hb3)
        clear HBx
        clear hb3 o3_0 o3_1 n2_0_0 n2_0_1 s2_0 n2_1_0 n2_1_1 s2_1 HB2
        go_wp2_with fail
        refine (S.out _ ?_).mono ?_
        · have HBz := HB3.out
          exact TB.out.go (by repeat (with_reducible (first | exact Below.refl _ _ | assumption | refine bl_alloc ?_ _ | refine bl_drewN ?_ _ | refine bl_drew ?_ | refine bl_call ?_ (by assumption) | (refine bl_setCell ?_ _ (Nat.le_refl _)) | (refine bl_setCell ?_ _ (by first | omega | (simp; done) | (simp; omega))))))
        rintro e v4 ⟨rfl, hb4⟩
        have o4_0 := own_stays hb4 (b := w.heap.size) (by first | assumption | (simp; done) | (simp; omega) | omega)
        have n4_0_0 : v4.cell? ⟨w.heap.size, 0, none⟩ = some (.int .i64 n) := (o4_0.1 0).trans (by go_simp)
        have n4_0_1 : v4.cell? ⟨w.heap.size, 1, none⟩ = some (.int .i64 d) := (o4_0.1 1).trans (by go_simp)
        have s4_0 : w.heap.size < v4.heap.size := o4_0.2.2
        have o4_1 := own_stays hb4 (b := w.heap.size + 1) (by first | assumption | (simp; done) | (simp; omega) | omega)
        have n4_1_0 : v4.cell? ⟨w.heap.size + 1, 0, none⟩ = some (.int .i64 m) := (o4_1.1 0).trans (by go_simp)
        have n4_1_1 : v4.cell? ⟨w.heap.size + 1, 1, none⟩ = some (.int .i64 c) := (o4_1.1 1).trans (by go_simp)
        have s4_1 : w.heap.size + 1 < v4.heap.size := o4_1.2.2
        have HBx := HB3.out
        have HB4 := Lib.hid (show Below w.heap.size w v4 from bl_call (by repeat (with_reducible (first | exact Below.refl _ _ | assumption | refine bl_alloc ?_ _ | refine bl_drewN ?_ _ | refine bl_drew ?_ | refine bl_call ?_ (by assumption) | (refine bl_setCell ?_ _ (Nat.le_refl _)) | (refine bl_setCell ?_ _ (by first | omega | (simp; done) | (simp; omega)))))) hb4)
        clear HBx
        clear hb4 o4_0 o4_1 n3_0_0 n3_0_1 s3_0 n3_1_0 n3_1_1 s3_1 HB3
        have le_0 : w.heap.size ≤ v4.heap.size := by omega
        have ne_0_0_0 : ¬ w.heap.size = v4.heap.size := by omega
        have nf_0_0_0 : ¬ v4.heap.size = w.heap.size := by omega
        have ne_0_1_0 : ¬ w.heap.size + 1 = v4.heap.size := by omega
        have nf_0_1_0 : ¬ v4.heap.size = w.heap.size + 1 := by omega
        go_wp2
        go_ret
        have HBz := HB4.out
        exact ⟨ret_b (by first | rfl | (simp; done)), (by repeat (with_reducible (first | exact Below.refl _ _ | assumption | refine bl_alloc ?_ _ | refine bl_drewN ?_ _ | refine bl_drew ?_ | refine bl_call ?_ (by assumption) | (refine bl_setCell ?_ _ (Nat.le_refl _)) | (refine bl_setCell ?_ _ (by first | omega | (simp; done) | (simp; omega))))))⟩
      · have eqv : ((n == m) && ((d == c) && true)) = false := by
          cases e1 : (n == m)
          · rfl
          · cases e2 : (d == c)
            · rfl
            · exact absurd ⟨eq_of_beq e1, eq_of_beq e2⟩ hne
        have RE := fun w => run_eqR n d m c w
        rw [eqv] at RE
        clear hne eqv
        clear hs
        go_enter Tryd.func6, Tryd.ntmps6
        go_wp2_with fail
        refine (live3 _).mono ?_
        rintro e v1 ⟨rfl, hb1⟩
        have o1_0 := own_stays hb1 (b := w.heap.size) (by first | assumption | (simp; done) | (simp; omega) | omega)
        have n1_0_0 : v1.cell? ⟨w.heap.size, 0, none⟩ = some (.int .i64 n) := (o1_0.1 0).trans (by go_simp)
        have n1_0_1 : v1.cell? ⟨w.heap.size, 1, none⟩ = some (.int .i64 d) := (o1_0.1 1).trans (by go_simp)
        have s1_0 : w.heap.size < v1.heap.size := o1_0.2.2
        have o1_1 := own_stays hb1 (b := w.heap.size + 1) (by first | assumption | (simp; done) | (simp; omega) | omega)
        have n1_1_0 : v1.cell? ⟨w.heap.size + 1, 0, none⟩ = some (.int .i64 m) := (o1_1.1 0).trans (by go_simp)
        have n1_1_1 : v1.cell? ⟨w.heap.size + 1, 1, none⟩ = some (.int .i64 c) := (o1_1.1 1).trans (by go_simp)
        have s1_1 : w.heap.size + 1 < v1.heap.size := o1_1.2.2
        have HB1 := Lib.hid (show Below w.heap.size w v1 from bl_call (by repeat (with_reducible (first | exact Below.refl _ _ | assumption | refine bl_alloc ?_ _ | refine bl_drewN ?_ _ | refine bl_drew ?_ | refine bl_call ?_ (by assumption) | (refine bl_setCell ?_ _ (Nat.le_refl _)) | (refine bl_setCell ?_ _ (by first | omega | (simp; done) | (simp; omega)))))) hb1)
        clear hb1 o1_0 o1_1 
        go_wp2_with fail
        refine (C1.out _).mono ?_
        rintro e v2 ⟨rfl, hb2⟩
        have o2_0 := own_stays hb2 (b := w.heap.size) (by first | assumption | (simp; done) | (simp; omega) | omega)
        have n2_0_0 : v2.cell? ⟨w.heap.size, 0, none⟩ = some (.int .i64 n) := (o2_0.1 0).trans (by go_simp)
        have n2_0_1 : v2.cell? ⟨w.heap.size, 1, none⟩ = some (.int .i64 d) := (o2_0.1 1).trans (by go_simp)
        have s2_0 : w.heap.size < v2.heap.size := o2_0.2.2
        have o2_1 := own_stays hb2 (b := w.heap.size + 1) (by first | assumption | (simp; done) | (simp; omega) | omega)
        have n2_1_0 : v2.cell? ⟨w.heap.size + 1, 0, none⟩ = some (.int .i64 m) := (o2_1.1 0).trans (by go_simp)
        have n2_1_1 : v2.cell? ⟨w.heap.size + 1, 1, none⟩ = some (.int .i64 c) := (o2_1.1 1).trans (by go_simp)
        have s2_1 : w.heap.size + 1 < v2.heap.size := o2_1.2.2
        have HBx := HB1.out
        have HB2 := Lib.hid (show Below w.heap.size w v2 from bl_call (by repeat (with_reducible (first | exact Below.refl _ _ | assumption | refine bl_alloc ?_ _ | refine bl_drewN ?_ _ | refine bl_drew ?_ | refine bl_call ?_ (by assumption) | (refine bl_setCell ?_ _ (Nat.le_refl _)) | (refine bl_setCell ?_ _ (by first | omega | (simp; done) | (simp; omega)))))) hb2)
        clear HBx
        clear hb2 o2_0 o2_1 n1_0_0 n1_0_1 s1_0 n1_1_0 n1_1_1 s1_1 HB1
        go_wp2_with fail
        refine (C2.out _).mono ?_
        rintro e v3 ⟨rfl, hb3⟩
        have o3_0 := own_stays hb3 (b := w.heap.size) (by first | assumption | (simp; done) | (simp; omega) | omega)
        have n3_0_0 : v3.cell? ⟨w.heap.size, 0, none⟩ = some (.int .i64 n) := (o3_0.1 0).trans (by go_simp)
        have n3_0_1 : v3.cell? ⟨w.heap.size, 1, none⟩ = some (.int .i64 d) := (o3_0.1 1).trans (by go_simp)
        have s3_0 : w.heap.size < v3.heap.size := o3_0.2.2
        have o3_1 := own_stays hb3 (b := w.heap.size + 1) (by first | assumption | (simp; done) | (simp; omega) | omega)
        have n3_1_0 : v3.cell? ⟨w.heap.size + 1, 0, none⟩ = some (.int .i64 m) := (o3_1.1 0).trans (by go_simp)
        have n3_1_1 : v3.cell? ⟨w.heap.size + 1, 1, none⟩ = some (.int .i64 c) := (o3_1.1 1).trans (by go_simp)
        have s3_1 : w.heap.size + 1 < v3.heap.size := o3_1.2.2
        have HBx := HB2.out
        have HB3 := Lib.hid (show Below w.heap.size w v3 from bl_call (by repeat (with_reducible (first | exact Below.refl _ _ | assumption | refine bl_alloc ?_ _ | refine bl_drewN ?_ _ | refine bl_drew ?_ | refine bl_call ?_ (by assumption) | (refine bl_setCell ?_ _ (Nat.le_refl _)) | (refine bl_setCell ?_ _ (by first | omega | (simp; done) | (simp; omega)))))) hb3)
        clear HBx
        clear hb3 o3_0 o3_1 n2_0_0 n2_0_1 s2_0 n2_1_0 n2_1_1 s2_1 HB2
        go_wp2_with fail
        refine (S.out _ ?_).mono ?_
        · have HBz := HB3.out
          exact TB.out.go (by repeat (with_reducible (first | exact Below.refl _ _ | assumption | refine bl_alloc ?_ _ | refine bl_drewN ?_ _ | refine bl_drew ?_ | refine bl_call ?_ (by assumption) | (refine bl_setCell ?_ _ (Nat.le_refl _)) | (refine bl_setCell ?_ _ (by first | omega | (simp; done) | (simp; omega))))))
        rintro e v4 ⟨rfl, hb4⟩
        have o4_0 := own_stays hb4 (b := w.heap.size) (by first | assumption | (simp; done) | (simp; omega) | omega)
        have n4_0_0 : v4.cell? ⟨w.heap.size, 0, none⟩ = some (.int .i64 n) := (o4_0.1 0).trans (by go_simp)
        have n4_0_1 : v4.cell? ⟨w.heap.size, 1, none⟩ = some (.int .i64 d) := (o4_0.1 1).trans (by go_simp)
        have s4_0 : w.heap.size < v4.heap.size := o4_0.2.2
        have o4_1 := own_stays hb4 (b := w.heap.size + 1) (by first | assumption | (simp; done) | (simp; omega) | omega)
        have n4_1_0 : v4.cell? ⟨w.heap.size + 1, 0, none⟩ = some (.int .i64 m) := (o4_1.1 0).trans (by go_simp)
        have n4_1_1 : v4.cell? ⟨w.heap.size + 1, 1, none⟩ = some (.int .i64 c) := (o4_1.1 1).trans (by go_simp)
        have s4_1 : w.heap.size + 1 < v4.heap.size := o4_1.2.2
        have HBx := HB3.out
        have HB4 := Lib.hid (show Below w.heap.size w v4 from bl_call (by repeat (with_reducible (first | exact Below.refl _ _ | assumption | refine bl_alloc ?_ _ | refine bl_drewN ?_ _ | refine bl_drew ?_ | refine bl_call ?_ (by assumption) | (refine bl_setCell ?_ _ (Nat.le_refl _)) | (refine bl_setCell ?_ _ (by first | omega | (simp; done) | (simp; omega)))))) hb4)
        clear HBx
        clear hb4 o4_0 o4_1 n3_0_0 n3_0_1 s3_0 n3_1_0 n3_1_1 s3_1 HB3
        have le_0 : w.heap.size ≤ v4.heap.size := by omega
        have ne_0_0_0 : ¬ w.heap.size = v4.heap.size := by omega
        have nf_0_0_0 : ¬ v4.heap.size = w.heap.size := by omega
        have ne_0_1_0 : ¬ w.heap.size + 1 = v4.heap.size := by omega
        have nf_0_1_0 : ¬ v4.heap.size = w.heap.size + 1 := by omega
        go_wp2
        go_ret
        have HBz := HB4.out
        exact ⟨ret_b (by first | rfl | (simp; done)), (by repeat (with_reducible (first | exact Below.refl _ _ | assumption | refine bl_alloc ?_ _ | refine bl_drewN ?_ _ | refine bl_drew ?_ | refine bl_call ?_ (by assumption) | (refine bl_setCell ?_ _ (Nat.le_refl _)) | (refine bl_setCell ?_ _ (by first | omega | (simp; done) | (simp; omega))))))⟩
end Go.Proofs.YtkejohmghacdhaaDoor
