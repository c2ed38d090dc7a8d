/- Contracts of the package anchor: on which day a year ends, and begins. -/
import Derived.Test.YteppoghpfcmhhaaAncA
namespace Go.Proofs.Yteppoghpfcmhhaa
set_option linter.unusedVariables false
set_option linter.unusedSimpArgs false
open Go.RowKit
/-- the day on which a year ends, or 0 -/
def endV (c : CalI) (y : Int) : Int := if tellE c y 1600 = 0 then endN c y else 0
def startV (c : CalI) (y : Int) : Int := if tellE c y 1601 = 0 then endN c (y - 1) + 1 else 0
def daysV (c : CalI) (y : Int) : Int := if tellE c y 1601 = 0 then endN c y - endN c (y - 1) else 0
def weeksE (c : CalI) (y : Int) : Int := if calB c = true ∧ c.kind ≠ 6 then tellE c y 1601 else 1
def weeksV (c : CalI) (y : Int) : Int := if calB c = true ∧ c.kind ≠ 6 then daysV c y / 7 else 0
theorem tell_yes {c : CalI} {y f : Int} (h : calB c = true) (h1 : f ≤ y) (h2 : y ≤ 9997) : tellE c y f = 0 := by unfold tellE; rw [if_pos h, if_pos ⟨h1, h2⟩]
theorem tell_zero {c : CalI} {y f : Int} (h : tellE c y f = 0) : calB c = true ∧ f ≤ y ∧ y ≤ 9997 := by
  rcases tell_ways c y f with ⟨a, b, d, _⟩ | ⟨_, _, e⟩ | ⟨_, _, _, e⟩ | ⟨_, e⟩
  · exact ⟨a, b, d⟩
  · omega
  · omega
  · omega
theorem tell_not {c : CalI} {y f : Int} (h : tellE c y f ≠ 0) : (tellE c y f == 0) = false ∧ (tellE c y f = 1 ∨ tellE c y f = 11) := by
  refine ⟨by simpa using h, ?_⟩
  rcases tell_ways c y f with ⟨_, _, _, e⟩ | ⟨_, _, e⟩ | ⟨_, _, _, e⟩ | ⟨_, e⟩
  · exact absurd e h
  · exact .inr e
  · exact .inr e
  · exact .inl e
/-- The three rules, and what each answers for a told year. -/
theorem rule_end (c : CalI) (y : Int) (h : calB c = true) (h1 : 1600 ≤ y) (h2 : y ≤ 9997) :
    (ruleV c = .iface 66 (.agg #[.int .i64 c.month, .int .i64 c.day]) ∧ ∀ w, Calls Try.prog 101 #[.agg #[.int .i64 c.month, .int .i64 c.day], .int .i64 (y + c.shift)] w fun e w' => e = .returned (.tuple #[.int .i64 (endN c y), .int .i64 0]) ∧ Below w.heap.size w w') ∨
    (ruleV c = .iface 67 (.int .i64 c.month) ∧ ∀ w, Calls Try.prog 103 #[.int .i64 c.month, .int .i64 (y + c.shift)] w fun e w' => e = .returned (.tuple #[.int .i64 (endN c y), .int .i64 0]) ∧ Below w.heap.size w w') ∨
    (ruleV c = .iface 68 (.agg #[.int .i64 c.month, .int .i64 c.day]) ∧ ∀ w, Calls Try.prog 104 #[.agg #[.int .i64 c.month, .int .i64 c.day], .int .i64 (y + c.shift)] w fun e w' => e = .returned (.tuple #[.int .i64 (endN c y), .int .i64 0]) ∧ Below w.heap.size w w') := by
  obtain ⟨r1, r2, r3, r4, r5, r6, r7, _⟩ := cal_rule c h
  obtain ⟨e1, _, e2, e3, e4, _⟩ := end_facts c h y h1 h2
  have kk : (c.kind = 1 ∨ c.kind = 4) ∨ c.kind = 6 ∨ (c.kind = 2 ∨ c.kind = 3 ∨ c.kind = 5) := by omega
  rcases kk with k | k | k
  · refine .inl ⟨by unfold ruleV; rw [if_pos k], ?_⟩
    have E := lastend_any c.month c.day (y + c.shift)
    rw [(e2 k).1, (e2 k).2] at E
    exact E
  · refine .inr (.inl ⟨by unfold ruleV; rw [if_neg (by omega), if_pos k], ?_⟩)
    obtain ⟨a1, a2, a3, a4⟩ := e3 k
    intro w
    have E := monthend_any c.month (y + c.shift) _ w a1 a2
    rw [a3, a4] at E
    exact E
  · refine .inr (.inr ⟨by unfold ruleV; rw [if_neg (by omega), if_neg (by omega)], ?_⟩)
    have E := nearend_any c.month c.day (y + c.shift)
    rw [(e4 k).1, (e4 k).2] at E
    exact E
theorem end_bd {c : CalI} (h : calB c = true) {y : Int} (h1 : 1600 ≤ y) (h2 : y ≤ 9997) : 0 ≤ endN c y ∧ endN c y < 3068037 := by
  obtain ⟨e1, _⟩ := end_facts c h y h1 h2
  exact (isB_iff _).1 e1
theorem shift_bd {c : CalI} (h : calB c = true) : 0 ≤ c.shift ∧ c.shift ≤ 1 := by
  obtain ⟨r1, r2, r3, r4, r5, r6, _⟩ := cal_rule c h
  exact ⟨r5, r6⟩
set_option maxHeartbeats 2000000 in
theorem aend_told (c : CalI) (y : Int) (w : World) (hs : c.name.size ≤ maxLen) (h : calB c = true) (h1 : 1600 ≤ y) (h2 : y ≤ 9997) :
    Calls Try.prog 16 #[calA c, .int .i64 y] w fun e w' => e = .returned (.tuple #[.int .i64 (endN c y), .int .i64 0]) ∧ Below w.heap.size w w' := by
  have AK := asked_any c y 1600
  rw [tell_yes h h1 h2] at AK
  have AK := Lib.hid (fun w => AK w hs)
  have RU := aruled_any c
  have HE := rule_end c (y) h (by omega) (by omega)
  obtain ⟨sh0, sh1⟩ := shift_bd h
  have WS := Lib.hid (show IntKind.i64.wrap (y + c.shift) = y + c.shift from IntWalk.i64_in _ (by omega))
  rcases HE with ⟨RV, E⟩ | ⟨RV, E⟩ | ⟨RV, E⟩
  · have hm : ∀ w, (method 199 66 (.agg #[.int .i64 c.month, .int .i64 c.day]) "quarterday/anchor.end").run Try.prog w = .ok (101, .agg #[.int .i64 c.month, .int .i64 c.day]) w := fun _ => by kernel_rfl
    rw [RV] at RU
    have E := Lib.hid E
    have RU := Lib.hid RU
    clear RV
    go_enter Try.func16, Try.ntmps16
    go_wp2_with fail
    refine (AK.out _).mono ?_
    rintro e w1 ⟨rfl, hb1⟩
    obtain ⟨hc1_0, hf1_0, hz1_0⟩ := own_stays hb1 (b := w.heap.size) (by simp)
    go_wp2_with fail
    refine region_qb (fun W => W.cell? ⟨w.heap.size, 0, none⟩ = some (.string c.name) ∧ W.cell? ⟨w.heap.size, 1, none⟩ = some (.int .i64 c.kind) ∧ W.cell? ⟨w.heap.size, 2, none⟩ = some (.int .i64 c.day) ∧ W.cell? ⟨w.heap.size, 3, none⟩ = some (.int .i64 c.month) ∧ W.cell? ⟨w.heap.size, 4, none⟩ = some (.int .i64 c.shift) ∧ W.cell? ⟨w.heap.size, 5, none⟩ = some (.int .i64 c.shape) ∧ W.cell? ⟨w.heap.size, 6, none⟩ = some (.int .i64 c.p0) ∧ W.cell? ⟨w.heap.size, 7, none⟩ = some (.int .i64 c.p1) ∧ W.cell? ⟨w.heap.size, 8, none⟩ = some (.int .i64 c.p2) ∧ W.cell? ⟨w.heap.size, 9, none⟩ = some (.int .i64 c.cycle) ∧ W.cell? ⟨w.heap.size, 10, none⟩ = some (.int .i64 c.extra) ∧ W.cell? ⟨w.heap.size, 11, none⟩ = some (.int .i64 c.first) ∧ W.cell? ⟨w.heap.size, 12, none⟩ = some (.int .i64 c.last) ∧ W.cell? ⟨w.heap.size, 13, none⟩ = some (.int .i64 c.policy) ∧ Below w.heap.size w W) ⟨by go_simp, by go_simp, by go_simp, by go_simp, by go_simp, by go_simp, by go_simp, by go_simp, by go_simp, by go_simp, by go_simp, by go_simp, by go_simp, by go_simp, (by repeat (with_reducible (first | exact Below.refl _ _ | assumption | refine bl_alloc ?_ _ | refine bl_drewN ?_ _ | refine bl_drew ?_ | refine bl_call ?_ (by assumption) | (refine bl_setCell ?_ _ (Nat.le_refl _)) | (refine bl_setCell ?_ _ (by simp)))))⟩ (by kernel_rfl) (by kernel_rfl) ?_
    intro W ⟨k0, k1, k2, k3, k4, k5, k6, k7, k8, k9, k10, k11, k12, k13, hbW⟩
    replace k0 := rcell k0
    replace k1 := rcell k1
    replace k2 := rcell k2
    replace k3 := rcell k3
    replace k4 := rcell k4
    replace k5 := rcell k5
    replace k6 := rcell k6
    replace k7 := rcell k7
    replace k8 := rcell k8
    replace k9 := rcell k9
    replace k10 := rcell k10
    replace k11 := rcell k11
    replace k12 := rcell k12
    replace k13 := rcell k13
    have ws := WS.out
    repeat (first | go_big_quiet_step (first | exact Calls.regrown_of (RU.out _) | exact Calls.regrown_of (E.out _)) | quiet_step (first | exact Calls.regrown_of (RU.out _) | exact Calls.regrown_of (E.out _)))
    refine wpQuiet_nil ?_
    intro w9 hb9
    clear k0 k1 k2 k3 k4 k5 k6 k7 k8 k9 k10 k11 k12 k13
    go_wp2
    go_ret2
    exact ⟨rfl, bl_call hbW hb9⟩
  · have hm : ∀ w, (method 199 67 (.int .i64 c.month) "quarterday/anchor.end").run Try.prog w = .ok (103, .int .i64 c.month) w := fun _ => by kernel_rfl
    rw [RV] at RU
    have E := Lib.hid E
    have RU := Lib.hid RU
    clear RV
    go_enter Try.func16, Try.ntmps16
    go_wp2_with fail
    refine (AK.out _).mono ?_
    rintro e w1 ⟨rfl, hb1⟩
    obtain ⟨hc1_0, hf1_0, hz1_0⟩ := own_stays hb1 (b := w.heap.size) (by simp)
    go_wp2_with fail
    refine region_qb (fun W => W.cell? ⟨w.heap.size, 0, none⟩ = some (.string c.name) ∧ W.cell? ⟨w.heap.size, 1, none⟩ = some (.int .i64 c.kind) ∧ W.cell? ⟨w.heap.size, 2, none⟩ = some (.int .i64 c.day) ∧ W.cell? ⟨w.heap.size, 3, none⟩ = some (.int .i64 c.month) ∧ W.cell? ⟨w.heap.size, 4, none⟩ = some (.int .i64 c.shift) ∧ W.cell? ⟨w.heap.size, 5, none⟩ = some (.int .i64 c.shape) ∧ W.cell? ⟨w.heap.size, 6, none⟩ = some (.int .i64 c.p0) ∧ W.cell? ⟨w.heap.size, 7, none⟩ = some (.int .i64 c.p1) ∧ W.cell? ⟨w.heap.size, 8, none⟩ = some (.int .i64 c.p2) ∧ W.cell? ⟨w.heap.size, 9, none⟩ = some (.int .i64 c.cycle) ∧ W.cell? ⟨w.heap.size, 10, none⟩ = some (.int .i64 c.extra) ∧ W.cell? ⟨w.heap.size, 11, none⟩ = some (.int .i64 c.first) ∧ W.cell? ⟨w.heap.size, 12, none⟩ = some (.int .i64 c.last) ∧ W.cell? ⟨w.heap.size, 13, none⟩ = some (.int .i64 c.policy) ∧ Below w.heap.size w W) ⟨by go_simp, by go_simp, by go_simp, by go_simp, by go_simp, by go_simp, by go_simp, by go_simp, by go_simp, by go_simp, by go_simp, by go_simp, by go_simp, by go_simp, (by repeat (with_reducible (first | exact Below.refl _ _ | assumption | refine bl_alloc ?_ _ | refine bl_drewN ?_ _ | refine bl_drew ?_ | refine bl_call ?_ (by assumption) | (refine bl_setCell ?_ _ (Nat.le_refl _)) | (refine bl_setCell ?_ _ (by simp)))))⟩ (by kernel_rfl) (by kernel_rfl) ?_
    intro W ⟨k0, k1, k2, k3, k4, k5, k6, k7, k8, k9, k10, k11, k12, k13, hbW⟩
    replace k0 := rcell k0
    replace k1 := rcell k1
    replace k2 := rcell k2
    replace k3 := rcell k3
    replace k4 := rcell k4
    replace k5 := rcell k5
    replace k6 := rcell k6
    replace k7 := rcell k7
    replace k8 := rcell k8
    replace k9 := rcell k9
    replace k10 := rcell k10
    replace k11 := rcell k11
    replace k12 := rcell k12
    replace k13 := rcell k13
    have ws := WS.out
    repeat (first | go_big_quiet_step (first | exact Calls.regrown_of (RU.out _) | exact Calls.regrown_of (E.out _)) | quiet_step (first | exact Calls.regrown_of (RU.out _) | exact Calls.regrown_of (E.out _)))
    refine wpQuiet_nil ?_
    intro w9 hb9
    clear k0 k1 k2 k3 k4 k5 k6 k7 k8 k9 k10 k11 k12 k13
    go_wp2
    go_ret2
    exact ⟨rfl, bl_call hbW hb9⟩
  · have hm : ∀ w, (method 199 68 (.agg #[.int .i64 c.month, .int .i64 c.day]) "quarterday/anchor.end").run Try.prog w = .ok (104, .agg #[.int .i64 c.month, .int .i64 c.day]) w := fun _ => by kernel_rfl
    rw [RV] at RU
    have E := Lib.hid E
    have RU := Lib.hid RU
    clear RV
    go_enter Try.func16, Try.ntmps16
    go_wp2_with fail
    refine (AK.out _).mono ?_
    rintro e w1 ⟨rfl, hb1⟩
    obtain ⟨hc1_0, hf1_0, hz1_0⟩ := own_stays hb1 (b := w.heap.size) (by simp)
    go_wp2_with fail
    refine region_qb (fun W => W.cell? ⟨w.heap.size, 0, none⟩ = some (.string c.name) ∧ W.cell? ⟨w.heap.size, 1, none⟩ = some (.int .i64 c.kind) ∧ W.cell? ⟨w.heap.size, 2, none⟩ = some (.int .i64 c.day) ∧ W.cell? ⟨w.heap.size, 3, none⟩ = some (.int .i64 c.month) ∧ W.cell? ⟨w.heap.size, 4, none⟩ = some (.int .i64 c.shift) ∧ W.cell? ⟨w.heap.size, 5, none⟩ = some (.int .i64 c.shape) ∧ W.cell? ⟨w.heap.size, 6, none⟩ = some (.int .i64 c.p0) ∧ W.cell? ⟨w.heap.size, 7, none⟩ = some (.int .i64 c.p1) ∧ W.cell? ⟨w.heap.size, 8, none⟩ = some (.int .i64 c.p2) ∧ W.cell? ⟨w.heap.size, 9, none⟩ = some (.int .i64 c.cycle) ∧ W.cell? ⟨w.heap.size, 10, none⟩ = some (.int .i64 c.extra) ∧ W.cell? ⟨w.heap.size, 11, none⟩ = some (.int .i64 c.first) ∧ W.cell? ⟨w.heap.size, 12, none⟩ = some (.int .i64 c.last) ∧ W.cell? ⟨w.heap.size, 13, none⟩ = some (.int .i64 c.policy) ∧ Below w.heap.size w W) ⟨by go_simp, by go_simp, by go_simp, by go_simp, by go_simp, by go_simp, by go_simp, by go_simp, by go_simp, by go_simp, by go_simp, by go_simp, by go_simp, by go_simp, (by repeat (with_reducible (first | exact Below.refl _ _ | assumption | refine bl_alloc ?_ _ | refine bl_drewN ?_ _ | refine bl_drew ?_ | refine bl_call ?_ (by assumption) | (refine bl_setCell ?_ _ (Nat.le_refl _)) | (refine bl_setCell ?_ _ (by simp)))))⟩ (by kernel_rfl) (by kernel_rfl) ?_
    intro W ⟨k0, k1, k2, k3, k4, k5, k6, k7, k8, k9, k10, k11, k12, k13, hbW⟩
    replace k0 := rcell k0
    replace k1 := rcell k1
    replace k2 := rcell k2
    replace k3 := rcell k3
    replace k4 := rcell k4
    replace k5 := rcell k5
    replace k6 := rcell k6
    replace k7 := rcell k7
    replace k8 := rcell k8
    replace k9 := rcell k9
    replace k10 := rcell k10
    replace k11 := rcell k11
    replace k12 := rcell k12
    replace k13 := rcell k13
    have ws := WS.out
    repeat (first | go_big_quiet_step (first | exact Calls.regrown_of (RU.out _) | exact Calls.regrown_of (E.out _)) | quiet_step (first | exact Calls.regrown_of (RU.out _) | exact Calls.regrown_of (E.out _)))
    refine wpQuiet_nil ?_
    intro w9 hb9
    clear k0 k1 k2 k3 k4 k5 k6 k7 k8 k9 k10 k11 k12 k13
    go_wp2
    go_ret2
    exact ⟨rfl, bl_call hbW hb9⟩
set_option maxHeartbeats 2000000 in
theorem astart_told (c : CalI) (y : Int) (w : World) (hs : c.name.size ≤ maxLen) (h : calB c = true) (h1 : 1601 ≤ y) (h2 : y ≤ 9997) :
    Calls Try.prog 18 #[calA c, .int .i64 y] w fun e w' => e = .returned (.tuple #[.int .i64 (endN c (y - 1) + 1), .int .i64 0]) ∧ Below w.heap.size w w' := by
  have AK := asked_any c y 1601
  rw [tell_yes h h1 h2] at AK
  have AK := Lib.hid (fun w => AK w hs)
  have RU := aruled_any c
  have eb := end_bd h (y := y - 1) (by omega) (by omega)
  obtain ⟨eb1, eb2⟩ := eb
  have HE := rule_end c (y - 1) h (by omega) (by omega)
  obtain ⟨sh0, sh1⟩ := shift_bd h
  have WS := Lib.hid (show IntKind.i64.wrap (y - 1 + c.shift) = y - 1 + c.shift from IntWalk.i64_in _ (by omega))
  have WS2 := Lib.hid (show IntKind.i64.wrap (y - 1) = y - 1 from IntWalk.i64_in _ (by omega))
  rcases HE with ⟨RV, E⟩ | ⟨RV, E⟩ | ⟨RV, E⟩
  · have hm : ∀ w, (method 199 66 (.agg #[.int .i64 c.month, .int .i64 c.day]) "quarterday/anchor.end").run Try.prog w = .ok (101, .agg #[.int .i64 c.month, .int .i64 c.day]) w := fun _ => by kernel_rfl
    rw [RV] at RU
    have E := Lib.hid E
    have RU := Lib.hid RU
    clear RV
    go_enter Try.func18, Try.ntmps18
    go_wp2_with fail
    refine (AK.out _).mono ?_
    rintro e w1 ⟨rfl, hb1⟩
    obtain ⟨hc1_0, hf1_0, hz1_0⟩ := own_stays hb1 (b := w.heap.size) (by simp)
    go_wp2_with fail
    refine region_qb (fun W => W.cell? ⟨w.heap.size, 0, none⟩ = some (.string c.name) ∧ W.cell? ⟨w.heap.size, 1, none⟩ = some (.int .i64 c.kind) ∧ W.cell? ⟨w.heap.size, 2, none⟩ = some (.int .i64 c.day) ∧ W.cell? ⟨w.heap.size, 3, none⟩ = some (.int .i64 c.month) ∧ W.cell? ⟨w.heap.size, 4, none⟩ = some (.int .i64 c.shift) ∧ W.cell? ⟨w.heap.size, 5, none⟩ = some (.int .i64 c.shape) ∧ W.cell? ⟨w.heap.size, 6, none⟩ = some (.int .i64 c.p0) ∧ W.cell? ⟨w.heap.size, 7, none⟩ = some (.int .i64 c.p1) ∧ W.cell? ⟨w.heap.size, 8, none⟩ = some (.int .i64 c.p2) ∧ W.cell? ⟨w.heap.size, 9, none⟩ = some (.int .i64 c.cycle) ∧ W.cell? ⟨w.heap.size, 10, none⟩ = some (.int .i64 c.extra) ∧ W.cell? ⟨w.heap.size, 11, none⟩ = some (.int .i64 c.first) ∧ W.cell? ⟨w.heap.size, 12, none⟩ = some (.int .i64 c.last) ∧ W.cell? ⟨w.heap.size, 13, none⟩ = some (.int .i64 c.policy) ∧ Below w.heap.size w W) ⟨by go_simp, by go_simp, by go_simp, by go_simp, by go_simp, by go_simp, by go_simp, by go_simp, by go_simp, by go_simp, by go_simp, by go_simp, by go_simp, by go_simp, (by repeat (with_reducible (first | exact Below.refl _ _ | assumption | refine bl_alloc ?_ _ | refine bl_drewN ?_ _ | refine bl_drew ?_ | refine bl_call ?_ (by assumption) | (refine bl_setCell ?_ _ (Nat.le_refl _)) | (refine bl_setCell ?_ _ (by simp)))))⟩ (by kernel_rfl) (by kernel_rfl) ?_
    intro W ⟨k0, k1, k2, k3, k4, k5, k6, k7, k8, k9, k10, k11, k12, k13, hbW⟩
    replace k0 := rcell k0
    replace k1 := rcell k1
    replace k2 := rcell k2
    replace k3 := rcell k3
    replace k4 := rcell k4
    replace k5 := rcell k5
    replace k6 := rcell k6
    replace k7 := rcell k7
    replace k8 := rcell k8
    replace k9 := rcell k9
    replace k10 := rcell k10
    replace k11 := rcell k11
    replace k12 := rcell k12
    replace k13 := rcell k13
    have ws := WS.out
    have ws2 := WS2.out
    repeat (first | go_big_quiet_step (first | exact Calls.regrown_of (RU.out _) | exact Calls.regrown_of (E.out _)) | quiet_step (first | exact Calls.regrown_of (RU.out _) | exact Calls.regrown_of (E.out _)))
    refine wpQuiet_nil ?_
    intro w9 hb9
    clear k0 k1 k2 k3 k4 k5 k6 k7 k8 k9 k10 k11 k12 k13
    go_wp2
    go_ret2
    exact ⟨rfl, bl_call hbW hb9⟩
  · have hm : ∀ w, (method 199 67 (.int .i64 c.month) "quarterday/anchor.end").run Try.prog w = .ok (103, .int .i64 c.month) w := fun _ => by kernel_rfl
    rw [RV] at RU
    have E := Lib.hid E
    have RU := Lib.hid RU
    clear RV
    go_enter Try.func18, Try.ntmps18
    go_wp2_with fail
    refine (AK.out _).mono ?_
    rintro e w1 ⟨rfl, hb1⟩
    obtain ⟨hc1_0, hf1_0, hz1_0⟩ := own_stays hb1 (b := w.heap.size) (by simp)
    go_wp2_with fail
    refine region_qb (fun W => W.cell? ⟨w.heap.size, 0, none⟩ = some (.string c.name) ∧ W.cell? ⟨w.heap.size, 1, none⟩ = some (.int .i64 c.kind) ∧ W.cell? ⟨w.heap.size, 2, none⟩ = some (.int .i64 c.day) ∧ W.cell? ⟨w.heap.size, 3, none⟩ = some (.int .i64 c.month) ∧ W.cell? ⟨w.heap.size, 4, none⟩ = some (.int .i64 c.shift) ∧ W.cell? ⟨w.heap.size, 5, none⟩ = some (.int .i64 c.shape) ∧ W.cell? ⟨w.heap.size, 6, none⟩ = some (.int .i64 c.p0) ∧ W.cell? ⟨w.heap.size, 7, none⟩ = some (.int .i64 c.p1) ∧ W.cell? ⟨w.heap.size, 8, none⟩ = some (.int .i64 c.p2) ∧ W.cell? ⟨w.heap.size, 9, none⟩ = some (.int .i64 c.cycle) ∧ W.cell? ⟨w.heap.size, 10, none⟩ = some (.int .i64 c.extra) ∧ W.cell? ⟨w.heap.size, 11, none⟩ = some (.int .i64 c.first) ∧ W.cell? ⟨w.heap.size, 12, none⟩ = some (.int .i64 c.last) ∧ W.cell? ⟨w.heap.size, 13, none⟩ = some (.int .i64 c.policy) ∧ Below w.heap.size w W) ⟨by go_simp, by go_simp, by go_simp, by go_simp, by go_simp, by go_simp, by go_simp, by go_simp, by go_simp, by go_simp, by go_simp, by go_simp, by go_simp, by go_simp, (by repeat (with_reducible (first | exact Below.refl _ _ | assumption | refine bl_alloc ?_ _ | refine bl_drewN ?_ _ | refine bl_drew ?_ | refine bl_call ?_ (by assumption) | (refine bl_setCell ?_ _ (Nat.le_refl _)) | (refine bl_setCell ?_ _ (by simp)))))⟩ (by kernel_rfl) (by kernel_rfl) ?_
    intro W ⟨k0, k1, k2, k3, k4, k5, k6, k7, k8, k9, k10, k11, k12, k13, hbW⟩
    replace k0 := rcell k0
    replace k1 := rcell k1
    replace k2 := rcell k2
    replace k3 := rcell k3
    replace k4 := rcell k4
    replace k5 := rcell k5
    replace k6 := rcell k6
    replace k7 := rcell k7
    replace k8 := rcell k8
    replace k9 := rcell k9
    replace k10 := rcell k10
    replace k11 := rcell k11
    replace k12 := rcell k12
    replace k13 := rcell k13
    have ws := WS.out
    have ws2 := WS2.out
    repeat (first | go_big_quiet_step (first | exact Calls.regrown_of (RU.out _) | exact Calls.regrown_of (E.out _)) | quiet_step (first | exact Calls.regrown_of (RU.out _) | exact Calls.regrown_of (E.out _)))
    refine wpQuiet_nil ?_
    intro w9 hb9
    clear k0 k1 k2 k3 k4 k5 k6 k7 k8 k9 k10 k11 k12 k13
    go_wp2
    go_ret2
    exact ⟨rfl, bl_call hbW hb9⟩
  · have hm : ∀ w, (method 199 68 (.agg #[.int .i64 c.month, .int .i64 c.day]) "quarterday/anchor.end").run Try.prog w = .ok (104, .agg #[.int .i64 c.month, .int .i64 c.day]) w := fun _ => by kernel_rfl
    rw [RV] at RU
    have E := Lib.hid E
    have RU := Lib.hid RU
    clear RV
    go_enter Try.func18, Try.ntmps18
    go_wp2_with fail
    refine (AK.out _).mono ?_
    rintro e w1 ⟨rfl, hb1⟩
    obtain ⟨hc1_0, hf1_0, hz1_0⟩ := own_stays hb1 (b := w.heap.size) (by simp)
    go_wp2_with fail
    refine region_qb (fun W => W.cell? ⟨w.heap.size, 0, none⟩ = some (.string c.name) ∧ W.cell? ⟨w.heap.size, 1, none⟩ = some (.int .i64 c.kind) ∧ W.cell? ⟨w.heap.size, 2, none⟩ = some (.int .i64 c.day) ∧ W.cell? ⟨w.heap.size, 3, none⟩ = some (.int .i64 c.month) ∧ W.cell? ⟨w.heap.size, 4, none⟩ = some (.int .i64 c.shift) ∧ W.cell? ⟨w.heap.size, 5, none⟩ = some (.int .i64 c.shape) ∧ W.cell? ⟨w.heap.size, 6, none⟩ = some (.int .i64 c.p0) ∧ W.cell? ⟨w.heap.size, 7, none⟩ = some (.int .i64 c.p1) ∧ W.cell? ⟨w.heap.size, 8, none⟩ = some (.int .i64 c.p2) ∧ W.cell? ⟨w.heap.size, 9, none⟩ = some (.int .i64 c.cycle) ∧ W.cell? ⟨w.heap.size, 10, none⟩ = some (.int .i64 c.extra) ∧ W.cell? ⟨w.heap.size, 11, none⟩ = some (.int .i64 c.first) ∧ W.cell? ⟨w.heap.size, 12, none⟩ = some (.int .i64 c.last) ∧ W.cell? ⟨w.heap.size, 13, none⟩ = some (.int .i64 c.policy) ∧ Below w.heap.size w W) ⟨by go_simp, by go_simp, by go_simp, by go_simp, by go_simp, by go_simp, by go_simp, by go_simp, by go_simp, by go_simp, by go_simp, by go_simp, by go_simp, by go_simp, (by repeat (with_reducible (first | exact Below.refl _ _ | assumption | refine bl_alloc ?_ _ | refine bl_drewN ?_ _ | refine bl_drew ?_ | refine bl_call ?_ (by assumption) | (refine bl_setCell ?_ _ (Nat.le_refl _)) | (refine bl_setCell ?_ _ (by simp)))))⟩ (by kernel_rfl) (by kernel_rfl) ?_
    intro W ⟨k0, k1, k2, k3, k4, k5, k6, k7, k8, k9, k10, k11, k12, k13, hbW⟩
    replace k0 := rcell k0
    replace k1 := rcell k1
    replace k2 := rcell k2
    replace k3 := rcell k3
    replace k4 := rcell k4
    replace k5 := rcell k5
    replace k6 := rcell k6
    replace k7 := rcell k7
    replace k8 := rcell k8
    replace k9 := rcell k9
    replace k10 := rcell k10
    replace k11 := rcell k11
    replace k12 := rcell k12
    replace k13 := rcell k13
    have ws := WS.out
    have ws2 := WS2.out
    repeat (first | go_big_quiet_step (first | exact Calls.regrown_of (RU.out _) | exact Calls.regrown_of (E.out _)) | quiet_step (first | exact Calls.regrown_of (RU.out _) | exact Calls.regrown_of (E.out _)))
    refine wpQuiet_nil ?_
    intro w9 hb9
    clear k0 k1 k2 k3 k4 k5 k6 k7 k8 k9 k10 k11 k12 k13
    go_wp2
    go_ret2
    exact ⟨rfl, bl_call hbW hb9⟩
set_option maxHeartbeats 1000000 in
theorem aend_any (c : CalI) (y : Int) (w : World) (hs : c.name.size ≤ maxLen) :
    Calls Try.prog 16 #[calA c, .int .i64 y] w fun e w' => e = .returned (.tuple #[.int .i64 (endV c y), .int .i64 (tellE c y 1600)]) ∧ Below w.heap.size w w' := by
  by_cases hE : tellE c y 1600 = 0
  · obtain ⟨a, b, d⟩ := tell_zero hE
    have T := aend_told c y w hs a b d
    rw [show endV c y = _ from if_pos hE, hE]
    exact T
  · obtain ⟨t1, t2⟩ := tell_not hE
    have V := Lib.hid (show endV c y = 0 from if_neg hE)
    have AK := Lib.hid (fun w => asked_any c y 1600 w hs)
    rcases t2 with t2 | t2
    all_goals
      have T2 := Lib.hid t2
      rw [t2] at AK
      clear t2 t1 hE
      go_enter Try.func16, Try.ntmps16
      go_wp2_with fail
      refine (AK.out _).mono ?_
      rintro e w1 ⟨rfl, hb1⟩
      go_wp2
      go_ret2
      exact ⟨ret_ii V.out.symm T2.out.symm, (by repeat (with_reducible (first | exact Below.refl _ _ | assumption | refine bl_alloc ?_ _ | refine bl_drewN ?_ _ | refine bl_drew ?_ | refine bl_call ?_ (by assumption) | (refine bl_setCell ?_ _ (Nat.le_refl _)) | (refine bl_setCell ?_ _ (by simp)))))⟩
set_option maxHeartbeats 1000000 in
theorem astart_any (c : CalI) (y : Int) (w : World) (hs : c.name.size ≤ maxLen) :
    Calls Try.prog 18 #[calA c, .int .i64 y] w fun e w' => e = .returned (.tuple #[.int .i64 (startV c y), .int .i64 (tellE c y 1601)]) ∧ Below w.heap.size w w' := by
  by_cases hE : tellE c y 1601 = 0
  · obtain ⟨a, b, d⟩ := tell_zero hE
    have T := astart_told c y w hs a b d
    rw [show startV c y = _ from if_pos hE, hE]
    exact T
  · obtain ⟨t1, t2⟩ := tell_not hE
    have V := Lib.hid (show startV c y = 0 from if_neg hE)
    have AK := Lib.hid (fun w => asked_any c y 1601 w hs)
    rcases t2 with t2 | t2
    all_goals
      have T2 := Lib.hid t2
      rw [t2] at AK
      clear t2 t1 hE
      go_enter Try.func18, Try.ntmps18
      go_wp2_with fail
      refine (AK.out _).mono ?_
      rintro e w1 ⟨rfl, hb1⟩
      go_wp2
      go_ret2
      exact ⟨ret_ii V.out.symm T2.out.symm, (by repeat (with_reducible (first | exact Below.refl _ _ | assumption | refine bl_alloc ?_ _ | refine bl_drewN ?_ _ | refine bl_drew ?_ | refine bl_call ?_ (by assumption) | (refine bl_setCell ?_ _ (Nat.le_refl _)) | (refine bl_setCell ?_ _ (by simp)))))⟩
theorem days_bd {c : CalI} (h : calB c = true) {y : Int} (h1 : 1601 ≤ y) (h2 : y ≤ 9997) : 364 ≤ endN c y - endN c (y - 1) ∧ endN c y - endN c (y - 1) ≤ 371 := by
  have s := end_step c h (y - 1) (by omega) (by omega)
  rw [show y - 1 + 1 = y by omega] at s
  omega
theorem daysV_bd (c : CalI) (y : Int) : 0 ≤ daysV c y ∧ daysV c y ≤ 371 := by
  unfold daysV
  by_cases hE : tellE c y 1601 = 0
  · obtain ⟨a, b, d⟩ := tell_zero hE
    have := days_bd a b d
    rw [if_pos hE]; omega
  · rw [if_neg hE]; omega
set_option maxHeartbeats 1000000 in
theorem adays_any (c : CalI) (y : Int) (w : World) (hs : c.name.size ≤ maxLen) :
    Calls Try.prog 20 #[calA c, .int .i64 y] w fun e w' => e = .returned (.tuple #[.int .i64 (daysV c y), .int .i64 (tellE c y 1601)]) ∧ Below w.heap.size w w' := by
  by_cases hE : tellE c y 1601 = 0
  · obtain ⟨a, b, d⟩ := tell_zero hE
    have S := Lib.hid (fun w => astart_told c y w hs a b d)
    have N := Lib.hid (fun w => aend_told c y w hs a (by omega) d)
    obtain ⟨e1, e2⟩ := end_bd a (y := y) (by omega) d
    obtain ⟨e3, e4⟩ := end_bd a (y := y - 1) (by omega) (by omega)
    have V := Lib.hid (show endN c y - (endN c (y - 1) + 1) + 1 = daysV c y by rw [show daysV c y = _ from if_pos hE]; omega)
    have T2 := Lib.hid hE
    clear hE
    generalize endN c y = P at *
    generalize endN c (y - 1) = R at *
    go_enter Try.func20, Try.ntmps20
    go_wp2_with fail
    refine (S.out _).mono ?_
    rintro e w1 ⟨rfl, hb1⟩
    obtain ⟨hc1_0, hf1_0, hz1_0⟩ := own_stays hb1 (b := w.heap.size) (by simp)
    go_wp2_with fail
    refine (N.out _).mono ?_
    rintro e w2 ⟨rfl, hb2⟩
    go_wp2
    go_ret2
    exact ⟨ret_ii V.out T2.out.symm, (by repeat (with_reducible (first | exact Below.refl _ _ | assumption | refine bl_alloc ?_ _ | refine bl_drewN ?_ _ | refine bl_drew ?_ | refine bl_call ?_ (by assumption) | (refine bl_setCell ?_ _ (Nat.le_refl _)) | (refine bl_setCell ?_ _ (by simp)))))⟩
  · obtain ⟨t1, t2⟩ := tell_not hE
    have V := Lib.hid (show daysV c y = 0 from if_neg hE)
    have V2 := show startV c y = 0 from if_neg hE
    have S := astart_any c y
    rw [V2] at S
    have S := Lib.hid (fun w => S w hs)
    have T := Lib.hid (show tellE c y 1601 = tellE c y 1601 from rfl)
    clear V2 t2 hE
    generalize tellE c y 1601 = t at *
    have t3 : (t != 0) = true := by simpa using t1
    go_enter Try.func20, Try.ntmps20
    go_wp2_with fail
    refine (S.out _).mono ?_
    rintro e w1 ⟨rfl, hb1⟩
    go_wp2
    go_ret2
    exact ⟨ret_ii V.out.symm rfl, (by repeat (with_reducible (first | exact Below.refl _ _ | assumption | refine bl_alloc ?_ _ | refine bl_drewN ?_ _ | refine bl_drew ?_ | refine bl_call ?_ (by assumption) | (refine bl_setCell ?_ _ (Nat.le_refl _)) | (refine bl_setCell ?_ _ (by simp)))))⟩
set_option maxHeartbeats 1000000 in
theorem aweeks_any (c : CalI) (y : Int) (w : World) (hs : c.name.size ≤ maxLen) :
    Calls Try.prog 22 #[calA c, .int .i64 y] w fun e w' => e = .returned (.tuple #[.int .i64 (weeksV c y), .int .i64 (weeksE c y)]) ∧ Below w.heap.size w w' := by
  have C := fcheck_any c
  rcases Bool.eq_false_or_eq_true (calB c) with h | h
  · rw [h] at C
    have C := Lib.hid (fun w => C w hs)
    by_cases k : c.kind = 6
    · have V := Lib.hid (show weeksV c y = 0 from if_neg (fun hh => hh.2 k))
      have V2 := Lib.hid (show weeksE c y = 1 from if_neg (fun hh => hh.2 k))
      have k6 : (c.kind == 6) = true := by simpa using k
      clear k h
      go_enter Try.func22, Try.ntmps22
      go_wp2_with fail
      refine (C.out _).mono ?_
      rintro e w1 ⟨rfl, hb1⟩
      obtain ⟨hc1_0, hf1_0, hz1_0⟩ := own_stays hb1 (b := w.heap.size) (by simp)
      go_wp2
      go_ret2
      exact ⟨ret_ii V.out.symm V2.out.symm, (by repeat (with_reducible (first | exact Below.refl _ _ | assumption | refine bl_alloc ?_ _ | refine bl_drewN ?_ _ | refine bl_drew ?_ | refine bl_call ?_ (by assumption) | (refine bl_setCell ?_ _ (Nat.le_refl _)) | (refine bl_setCell ?_ _ (by simp)))))⟩
    · have V := Lib.hid (show weeksV c y = daysV c y / 7 from if_pos ⟨h, k⟩)
      have V2 := Lib.hid (show weeksE c y = tellE c y 1601 from if_pos ⟨h, k⟩)
      have k6 : (c.kind == 6) = false := by simpa using k
      have D := Lib.hid (fun w => adays_any c y w hs)
      obtain ⟨b1, b2⟩ := daysV_bd c y
      clear k h
      generalize daysV c y = P at *
      generalize tellE c y 1601 = t at *
      go_enter Try.func22, Try.ntmps22
      go_wp2_with fail
      refine (C.out _).mono ?_
      rintro e w1 ⟨rfl, hb1⟩
      obtain ⟨hc1_0, hf1_0, hz1_0⟩ := own_stays hb1 (b := w.heap.size) (by simp)
      go_wp2_with fail
      refine (D.out _).mono ?_
      rintro e w2 ⟨rfl, hb2⟩
      go_wp2
      go_ret2
      exact ⟨ret_ii V.out.symm V2.out.symm, (by repeat (with_reducible (first | exact Below.refl _ _ | assumption | refine bl_alloc ?_ _ | refine bl_drewN ?_ _ | refine bl_drew ?_ | refine bl_call ?_ (by assumption) | (refine bl_setCell ?_ _ (Nat.le_refl _)) | (refine bl_setCell ?_ _ (by simp)))))⟩
  · rw [h] at C
    have C := Lib.hid (fun w => C w hs)
    have V := Lib.hid (show weeksV c y = 0 from if_neg (by simp [h]))
    have V2 := Lib.hid (show weeksE c y = 1 from if_neg (by simp [h]))
    clear h
    go_enter Try.func22, Try.ntmps22
    go_wp2_with fail
    refine (C.out _).mono ?_
    rintro e w1 ⟨rfl, hb1⟩
    go_wp2
    go_ret2
    exact ⟨ret_ii V.out.symm V2.out.symm, (by repeat (with_reducible (first | exact Below.refl _ _ | assumption | refine bl_alloc ?_ _ | refine bl_drewN ?_ _ | refine bl_drew ?_ | refine bl_call ?_ (by assumption) | (refine bl_setCell ?_ _ (Nat.le_refl _)) | (refine bl_setCell ?_ _ (by simp)))))⟩
end Go.Proofs.Yteppoghpfcmhhaa
