/- Contracts of the package ratio: Add, Sub. Printed by mkratop.py. -/
import Derived.Test.YtkejohmghacdhaaDoorRatG
namespace Go.Proofs.YtkejohmghacdhaaDoor
set_option linter.unusedVariables false
set_option linter.unusedSimpArgs false
open Go.RowKit
set_option maxRecDepth 100000 in
set_option maxHeartbeats 4000000 in
theorem add_body (n d m c : Int) (A B : Nat) (W : World) (hn : In n) (hd : In d) (hm : In m) (hc : In c) (k1 : ckB n d = true) (k2 : ckB m c = true)
    (a0 : W.cell? ⟨A, 0, none⟩ = some (.int .i64 n)) (a1 : W.cell? ⟨A, 1, none⟩ = some (.int .i64 d)) (b0 : W.cell? ⟨B, 0, none⟩ = some (.int .i64 m)) (b1 : W.cell? ⟨B, 1, none⟩ = some (.int .i64 c)) (hT : Tab W) :
    Calls Tryd.prog 25 #[ptrV A, ptrV B] W fun e w' => e = .returned (.tuple #[ratA (arN (smP false n d m c) (d * c)) (arD (smP false n d m c) (d * c)), .int .i64 (arE (smP false n d m c) (d * c))]) ∧ Below W.heap.size W w' := by
  have S := Lib.hid (fun w hT => sum_any n d m c false w hn hd hm hc k1 k2 hT)
  have TB := Lib.hid hT
  have hA := World.block_lt_of_cell? W _ a0
  have hB := World.block_lt_of_cell? W _ b0
  have ka := (own_stays (bl_alloc (Below.refl _ W) (Obj.cells #[Value.int IntKind.i64 0, Value.int IntKind.i64 0] 23)) hA).1
  have kb := (own_stays (bl_alloc (Below.refl _ W) (Obj.cells #[Value.int IntKind.i64 0, Value.int IntKind.i64 0] 23)) hB).1
  clear k1 k2 hT hn hd hm hc
  generalize arN (smP false n d m c) (d * c) = rN at *
  generalize arD (smP false n d m c) (d * c) = rD at *
  generalize arE (smP false n d m c) (d * c) = rE at *
  go_enter Tryd.func25, Tryd.ntmps25
  go_wp2_with fail
  refine (S.out _ ?_).mono ?_
  · exact TB.out.go (by repeat (with_reducible (first | exact Below.refl _ _ | assumption | refine bl_alloc ?_ _ | refine bl_drewN ?_ _ | refine bl_drew ?_ | refine bl_call ?_ (by assumption) | (refine bl_setCell ?_ _ (Nat.le_refl _)) | (refine bl_setCell ?_ _ (by first | omega | (simp; done) | (simp; omega))))))
  rintro e w1 ⟨rfl, hb1⟩
  obtain ⟨hc1, hf1, hz1⟩ := own_stays hb1 (b := W.heap.size) (by go_simp)
  go_wp2
  refine bodyPost_ret (v := .tuple #[ratA rN rD, .int .i64 rE]) (by simp [results, Tryd.results25, go_sem, *]) rfl ⟨rfl, ?_⟩
  exact (by repeat (with_reducible (first | exact Below.refl _ _ | assumption | refine bl_alloc ?_ _ | refine bl_drewN ?_ _ | refine bl_drew ?_ | refine bl_call ?_ (by assumption) | (refine bl_setCell ?_ _ (Nat.le_refl _)) | (refine bl_setCell ?_ _ (by first | omega | (simp; done) | (simp; omega))))))
set_option maxRecDepth 100000 in
set_option maxHeartbeats 4000000 in
theorem rat_add (n d m c : Int) (w : World) (hn : In n) (hd : In d) (hm : In m) (hc : In c) (hT : Tab w) :
    Calls Tryd.prog 9 #[ratA n d, ratA m c] w fun e w' => e = .returned (.tuple #[ratA (vN (cpB n d m c) (arN (smP false n d m c) (d * c))) (vN (cpB n d m c) (arD (smP false n d m c) (d * c))), .int .i64 (vE (cpB n d m c) (arE (smP false n d m c) (d * c)))]) ∧ Below w.heap.size w w' := by
  have hmf : ∀ (fn : Fn) (first cap : Array Value) (w : World), (Instr.makeFunc fn first cap).run Tryd.prog w = .ok (.func fn first cap) w := fun _ _ _ _ => rfl
  have TB := Lib.hid hT
  clear hT
  cases hv : cpB n d m c
  · rw [vN_no, vN_no, vE_no]
    have C := Lib.hid (fun fv w => counted_no n d m c fv w hn hd hm hc hv)
    clear hv TB
    go_enter Tryd.func9, Tryd.ntmps9
    go_wp2_with fail
    refine (C.out _ _).mono ?_
    rintro e w1 ⟨rfl, hb1⟩
    obtain ⟨hc1_2, hf1_2, hz1_2⟩ := own_stays hb1 (b := w.heap.size + 2) (by go_simp)
    go_wp2
    refine bodyPost_ret (v := .tuple #[ratA 0 0, .int .i64 1]) (by simp [results, Tryd.results9, go_sem, *]) rfl ⟨rfl, ?_⟩
    exact (by repeat (with_reducible (first | exact Below.refl _ _ | assumption | refine bl_alloc ?_ _ | refine bl_drewN ?_ _ | refine bl_drew ?_ | refine bl_call ?_ (by assumption) | (refine bl_setCell ?_ _ (Nat.le_refl _)) | (refine bl_setCell ?_ _ (by first | omega | (simp; done) | (simp; omega))))))
  · rw [vN_yes, vN_yes, vE_yes]
    have k := hv
    unfold cpB at k
    rw [Bool.and_eq_true] at k
    have eg : ∀ (args : Array Value) (w : World), (callFunc 25 args).run Tryd.prog w = .ok (.enter 25 args) w := enters_of Tryd.func25 (by kernel_rfl) rfl
    have B := Lib.hid (fun A B W => add_body n d m c A B W hn hd hm hc k.1 k.2)
    have C := Lib.hid (fun cb X Y E w => counted_yes n d m c 25 cb X Y E w eg hn hd hm hc hv)
    have kk : w.heap.size < w.heap.size + 1 + 1 + 1 ∧ w.heap.size + 1 < w.heap.size + 1 + 1 + 1 := ⟨by omega, by omega⟩
    clear hv k eg
    generalize arN (smP false n d m c) (d * c) = rN at *
    generalize arD (smP false n d m c) (d * c) = rD at *
    generalize arE (smP false n d m c) (d * c) = rE at *
    go_enter Tryd.func9, Tryd.ntmps9
    go_wp2_with fail
    refine (C.out _ rN rD rE _ ?_).mono ?_
    · intro V hV
      obtain ⟨a0, _, _⟩ := own_stays hV (b := w.heap.size) (by go_simp)
      obtain ⟨b0, _, _⟩ := own_stays hV (b := w.heap.size + 1) (by go_simp)
      refine B.out w.heap.size (w.heap.size + 1) V ?_ ?_ ?_ ?_ ?_
      · rw [a0 0]; go_simp
      · rw [a0 1]; go_simp
      · rw [b0 0]; go_simp
      · rw [b0 1]; go_simp
      · exact TB.out.go (by repeat (with_reducible (first | exact Below.refl _ _ | assumption | refine bl_alloc ?_ _ | refine bl_drewN ?_ _ | refine bl_drew ?_ | refine bl_call ?_ (by assumption) | (refine bl_setCell ?_ _ (Nat.le_refl _)) | (refine bl_setCell ?_ _ (by first | omega | (simp; done) | (simp; omega))))))
    rintro e w1 ⟨rfl, hb1⟩
    obtain ⟨hc1_2, hf1_2, hz1_2⟩ := own_stays hb1 (b := w.heap.size + 2) (by go_simp)
    go_wp2
    refine bodyPost_ret (v := .tuple #[ratA rN rD, .int .i64 rE]) (by simp [results, Tryd.results9, go_sem, *]) rfl ⟨rfl, ?_⟩
    exact (by repeat (with_reducible (first | exact Below.refl _ _ | assumption | refine bl_alloc ?_ _ | refine bl_drewN ?_ _ | refine bl_drew ?_ | refine bl_call ?_ (by assumption) | (refine bl_setCell ?_ _ (Nat.le_refl _)) | (refine bl_setCell ?_ _ (by first | omega | (simp; done) | (simp; omega))))))
set_option maxRecDepth 100000 in
set_option maxHeartbeats 4000000 in
theorem sub_body (n d m c : Int) (A B : Nat) (W : World) (hn : In n) (hd : In d) (hm : In m) (hc : In c) (k1 : ckB n d = true) (k2 : ckB m c = true)
    (a0 : W.cell? ⟨A, 0, none⟩ = some (.int .i64 n)) (a1 : W.cell? ⟨A, 1, none⟩ = some (.int .i64 d)) (b0 : W.cell? ⟨B, 0, none⟩ = some (.int .i64 m)) (b1 : W.cell? ⟨B, 1, none⟩ = some (.int .i64 c)) (hT : Tab W) :
    Calls Tryd.prog 34 #[ptrV A, ptrV B] W fun e w' => e = .returned (.tuple #[ratA (arN (smP true n d m c) (d * c)) (arD (smP true n d m c) (d * c)), .int .i64 (arE (smP true n d m c) (d * c))]) ∧ Below W.heap.size W w' := by
  have S := Lib.hid (fun w hT => sum_any n d m c true w hn hd hm hc k1 k2 hT)
  have TB := Lib.hid hT
  have hA := World.block_lt_of_cell? W _ a0
  have hB := World.block_lt_of_cell? W _ b0
  have ka := (own_stays (bl_alloc (Below.refl _ W) (Obj.cells #[Value.int IntKind.i64 0, Value.int IntKind.i64 0] 23)) hA).1
  have kb := (own_stays (bl_alloc (Below.refl _ W) (Obj.cells #[Value.int IntKind.i64 0, Value.int IntKind.i64 0] 23)) hB).1
  clear k1 k2 hT hn hd hm hc
  generalize arN (smP true n d m c) (d * c) = rN at *
  generalize arD (smP true n d m c) (d * c) = rD at *
  generalize arE (smP true n d m c) (d * c) = rE at *
  go_enter Tryd.func34, Tryd.ntmps34
  go_wp2_with fail
  refine (S.out _ ?_).mono ?_
  · exact TB.out.go (by repeat (with_reducible (first | exact Below.refl _ _ | assumption | refine bl_alloc ?_ _ | refine bl_drewN ?_ _ | refine bl_drew ?_ | refine bl_call ?_ (by assumption) | (refine bl_setCell ?_ _ (Nat.le_refl _)) | (refine bl_setCell ?_ _ (by first | omega | (simp; done) | (simp; omega))))))
  rintro e w1 ⟨rfl, hb1⟩
  obtain ⟨hc1, hf1, hz1⟩ := own_stays hb1 (b := W.heap.size) (by go_simp)
  go_wp2
  refine bodyPost_ret (v := .tuple #[ratA rN rD, .int .i64 rE]) (by simp [results, Tryd.results34, go_sem, *]) rfl ⟨rfl, ?_⟩
  exact (by repeat (with_reducible (first | exact Below.refl _ _ | assumption | refine bl_alloc ?_ _ | refine bl_drewN ?_ _ | refine bl_drew ?_ | refine bl_call ?_ (by assumption) | (refine bl_setCell ?_ _ (Nat.le_refl _)) | (refine bl_setCell ?_ _ (by first | omega | (simp; done) | (simp; omega))))))
set_option maxRecDepth 100000 in
set_option maxHeartbeats 4000000 in
theorem rat_sub (n d m c : Int) (w : World) (hn : In n) (hd : In d) (hm : In m) (hc : In c) (hT : Tab w) :
    Calls Tryd.prog 12 #[ratA n d, ratA m c] w fun e w' => e = .returned (.tuple #[ratA (vN (cpB n d m c) (arN (smP true n d m c) (d * c))) (vN (cpB n d m c) (arD (smP true n d m c) (d * c))), .int .i64 (vE (cpB n d m c) (arE (smP true n d m c) (d * c)))]) ∧ Below w.heap.size w w' := by
  have hmf : ∀ (fn : Fn) (first cap : Array Value) (w : World), (Instr.makeFunc fn first cap).run Tryd.prog w = .ok (.func fn first cap) w := fun _ _ _ _ => rfl
  have TB := Lib.hid hT
  clear hT
  cases hv : cpB n d m c
  · rw [vN_no, vN_no, vE_no]
    have C := Lib.hid (fun fv w => counted_no n d m c fv w hn hd hm hc hv)
    clear hv TB
    go_enter Tryd.func12, Tryd.ntmps12
    go_wp2_with fail
    refine (C.out _ _).mono ?_
    rintro e w1 ⟨rfl, hb1⟩
    obtain ⟨hc1_2, hf1_2, hz1_2⟩ := own_stays hb1 (b := w.heap.size + 2) (by go_simp)
    go_wp2
    refine bodyPost_ret (v := .tuple #[ratA 0 0, .int .i64 1]) (by simp [results, Tryd.results12, go_sem, *]) rfl ⟨rfl, ?_⟩
    exact (by repeat (with_reducible (first | exact Below.refl _ _ | assumption | refine bl_alloc ?_ _ | refine bl_drewN ?_ _ | refine bl_drew ?_ | refine bl_call ?_ (by assumption) | (refine bl_setCell ?_ _ (Nat.le_refl _)) | (refine bl_setCell ?_ _ (by first | omega | (simp; done) | (simp; omega))))))
  · rw [vN_yes, vN_yes, vE_yes]
    have k := hv
    unfold cpB at k
    rw [Bool.and_eq_true] at k
    have eg : ∀ (args : Array Value) (w : World), (callFunc 34 args).run Tryd.prog w = .ok (.enter 34 args) w := enters_of Tryd.func34 (by kernel_rfl) rfl
    have B := Lib.hid (fun A B W => sub_body n d m c A B W hn hd hm hc k.1 k.2)
    have C := Lib.hid (fun cb X Y E w => counted_yes n d m c 34 cb X Y E w eg hn hd hm hc hv)
    have kk : w.heap.size < w.heap.size + 1 + 1 + 1 ∧ w.heap.size + 1 < w.heap.size + 1 + 1 + 1 := ⟨by omega, by omega⟩
    clear hv k eg
    generalize arN (smP true n d m c) (d * c) = rN at *
    generalize arD (smP true n d m c) (d * c) = rD at *
    generalize arE (smP true n d m c) (d * c) = rE at *
    go_enter Tryd.func12, Tryd.ntmps12
    go_wp2_with fail
    refine (C.out _ rN rD rE _ ?_).mono ?_
    · intro V hV
      obtain ⟨a0, _, _⟩ := own_stays hV (b := w.heap.size) (by go_simp)
      obtain ⟨b0, _, _⟩ := own_stays hV (b := w.heap.size + 1) (by go_simp)
      refine B.out w.heap.size (w.heap.size + 1) V ?_ ?_ ?_ ?_ ?_
      · rw [a0 0]; go_simp
      · rw [a0 1]; go_simp
      · rw [b0 0]; go_simp
      · rw [b0 1]; go_simp
      · exact TB.out.go (by repeat (with_reducible (first | exact Below.refl _ _ | assumption | refine bl_alloc ?_ _ | refine bl_drewN ?_ _ | refine bl_drew ?_ | refine bl_call ?_ (by assumption) | (refine bl_setCell ?_ _ (Nat.le_refl _)) | (refine bl_setCell ?_ _ (by first | omega | (simp; done) | (simp; omega))))))
    rintro e w1 ⟨rfl, hb1⟩
    obtain ⟨hc1_2, hf1_2, hz1_2⟩ := own_stays hb1 (b := w.heap.size + 2) (by go_simp)
    go_wp2
    refine bodyPost_ret (v := .tuple #[ratA rN rD, .int .i64 rE]) (by simp [results, Tryd.results12, go_sem, *]) rfl ⟨rfl, ?_⟩
    exact (by repeat (with_reducible (first | exact Below.refl _ _ | assumption | refine bl_alloc ?_ _ | refine bl_drewN ?_ _ | refine bl_drew ?_ | refine bl_call ?_ (by assumption) | (refine bl_setCell ?_ _ (Nat.le_refl _)) | (refine bl_setCell ?_ _ (by first | omega | (simp; done) | (simp; omega))))))
end Go.Proofs.YtkejohmghacdhaaDoor
