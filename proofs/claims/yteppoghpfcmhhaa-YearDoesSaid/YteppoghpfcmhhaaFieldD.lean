/- Contracts of the package field: where three numbers stand among the patterns. -/
import Derived.Test.YteppoghpfcmhhaaFieldC
import Derived.Deep.RegionWith
namespace Go.Proofs.Yteppoghpfcmhhaa
set_option linter.unusedVariables false
set_option linter.unusedSimpArgs false
open Go.RowKit
def patI (a b c : Int) : Int := if eq3B a b c 4 4 5 = true then 0 else if eq3B a b c 4 5 4 = true then 1 else if eq3B a b c 5 4 4 = true then 2 else -1
/-- three numbers thrice -/
def Pats (w : World) (b : Nat) : Prop := b < w.heap.size ∧ ∀ (j : Nat) (v : Int), (#[.int .i64 4, .int .i64 4, .int .i64 5, .int .i64 4, .int .i64 5, .int .i64 4, .int .i64 5, .int .i64 4, .int .i64 4] : Array Value)[j]? = some (.int .i64 v) → w.cell? ⟨b, j, none⟩ = some (.int .i64 v)
theorem Pats.go {w w' : World} {b : Nat} (h : Pats w b) (hb : Below w.heap.size w w') : Pats w' b :=
  ⟨Nat.lt_of_lt_of_le h.1 hb.size, fun j v hv => (hb.cell (p := ⟨b, j, none⟩) h.1).trans (h.2 j v hv)⟩
theorem pats_new (w : World) : Pats (w.alloc (.cells #[.int .i64 4, .int .i64 4, .int .i64 5, .int .i64 4, .int .i64 5, .int .i64 4, .int .i64 5, .int .i64 4, .int .i64 4] 22)) w.heap.size :=
  ⟨by simp, fun j v hv => by
    unfold World.cell? World.alloc
    simp only [Array.getElem?_push_size]
    exact hv⟩
theorem pats_at {w : World} {n : Nat} (h : n = w.heap.size) : Pats (w.alloc (.cells #[.int .i64 4, .int .i64 4, .int .i64 5, .int .i64 4, .int .i64 5, .int .i64 4, .int .i64 5, .int .i64 4, .int .i64 4] 22)) n := h ▸ pats_new w
set_option maxHeartbeats 400000 in
theorem patterns_any (w : World) :
    Calls Try.prog 82 #[] w fun e w' => e = .returned (.slice (some ⟨w.heap.size, 0, none⟩) 3 3) ∧ w' = w.alloc (.cells #[.int .i64 4, .int .i64 4, .int .i64 5, .int .i64 4, .int .i64 5, .int .i64 4, .int .i64 5, .int .i64 4, .int .i64 4] 22) := by
  go_enter Try.func82, Try.ntmps82
  go_wp2
  go_ret
  exact ⟨rfl, rfl⟩
set_option maxHeartbeats 2000000 in
theorem index_any (a b c : Int) (w : World) (n : Nat) (hp : Pats w n) :
    Calls Try.prog 85 #[.slice (some ⟨n, 0, none⟩) 3 3, .agg #[.int .i64 a, .int .i64 b, .int .i64 c]] w fun e w' => e = .returned (.int .i64 (patI a b c)) ∧ Below w.heap.size w w' := by
  have T := Lib.hid (show patI a b c = if eq3B a b c 4 4 5 = true then 0 else if eq3B a b c 4 5 4 = true then 1 else if eq3B a b c 5 4 4 = true then 2 else -1 from rfl)
  have hn : n < w.heap.size := hp.1
  have HP := Lib.hid hp
  clear hp
  go_enter Try.func85, Try.ntmps85
  go_wp2
  go_loopw [8] (fun i wr => ∃ k : Nat, k ≤ 3 ∧ i = .int .i64 k ∧ (k = 0 ∨ eq3B a b c 4 4 5 = false) ∧ (k ≤ 1 ∨ eq3B a b c 4 5 4 = false) ∧ (k ≤ 2 ∨ eq3B a b c 5 4 4 = false) ∧ Below w.heap.size w wr ∧ wr.cell? ⟨w.heap.size, 0, none⟩ = some (.int .i64 a) ∧ wr.cell? ⟨w.heap.size, 1, none⟩ = some (.int .i64 b) ∧ wr.cell? ⟨w.heap.size, 2, none⟩ = some (.int .i64 c)) (fun i _ => 3 - (intOf i).toNat)
  case atStart => exact ⟨0, by omega, rfl, by simp, by simp, by simp, (by repeat (with_reducible (first | exact Below.refl _ _ | assumption | refine bl_alloc ?_ _ | refine bl_drewN ?_ _ | refine bl_drew ?_ | refine bl_call ?_ (by assumption) | (refine bl_setCell ?_ _ (Nat.le_refl _)) | (refine bl_setCell ?_ _ (by simp))))), by simp, by simp, by simp⟩
  case round =>
    obtain ⟨k, hk, rfl, x0, x1, x2, hbr, q0, q1, q2⟩ := hrel
    have cs : ∀ (j : Nat) (v : Int), (#[.int .i64 4, .int .i64 4, .int .i64 5, .int .i64 4, .int .i64 5, .int .i64 4, .int .i64 5, .int .i64 4, .int .i64 4] : Array Value)[j]? = some (.int .i64 v) → wr.cell? ⟨n, j, none⟩ = some (.int .i64 v) := fun j v hv => by
      rw [hbr.cell (p := ⟨n, j, none⟩) hn]
      exact HP.out.2 j v hv
    have hk' : k = 0 ∨ k = 1 ∨ k = 2 ∨ k = 3 := by omega
    have HB := Lib.hid hbr
    rcases hk' with rfl | rfl | rfl | rfl
    · have X0 := Lib.hid x0
      have X1 := Lib.hid x1
      have X2 := Lib.hid x2
      have c0 := cs 0 4 rfl
      have c1 := cs 1 4 rfl
      have c2 := cs 2 5 rfl
      clear cs x0 x1 x2 hk hbr
      rcases Bool.eq_false_or_eq_true (eq3B a b c 4 4 5) with he | he
      · have HE := Lib.hid he
        go_wp2_with fail
        go_quiet (fail)
        go_wp2
        go_ret
        exact ⟨ret_i (by rw [T.out, if_pos HE.out]; try rfl), bl_drewN HB.out _⟩
      · have HE := Lib.hid he
        go_wp2_with fail
        go_quiet (fail)
        go_wp2
        go_roundw
        case rel => exact ⟨1, by omega, rfl, (by first | exact .inr HE.out | exact .inl (by decide) | exact (by simpa using X0.out)), (by first | exact .inr HE.out | exact .inl (by decide) | exact (by simpa using X1.out)), (by first | exact .inr HE.out | exact .inl (by decide) | exact (by simpa using X2.out)), bl_drewN HB.out _, by simpa using q0, by simpa using q1, by simpa using q2⟩
        case measure => simp [intOf]
    · have X0 := Lib.hid x0
      have X1 := Lib.hid x1
      have X2 := Lib.hid x2
      have c0 := cs 3 4 rfl
      have c1 := cs 4 5 rfl
      have c2 := cs 5 4 rfl
      clear cs x0 x1 x2 hk hbr
      rcases Bool.eq_false_or_eq_true (eq3B a b c 4 5 4) with he | he
      · have HE := Lib.hid he
        go_wp2_with fail
        go_quiet (fail)
        go_wp2
        go_ret
        exact ⟨ret_i (by rw [T.out, if_neg (by have := X0.out; simp_all), if_pos HE.out]; try rfl), bl_drewN HB.out _⟩
      · have HE := Lib.hid he
        go_wp2_with fail
        go_quiet (fail)
        go_wp2
        go_roundw
        case rel => exact ⟨2, by omega, rfl, (by first | exact .inr HE.out | exact .inl (by decide) | exact (by simpa using X0.out)), (by first | exact .inr HE.out | exact .inl (by decide) | exact (by simpa using X1.out)), (by first | exact .inr HE.out | exact .inl (by decide) | exact (by simpa using X2.out)), bl_drewN HB.out _, by simpa using q0, by simpa using q1, by simpa using q2⟩
        case measure => simp [intOf]
    · have X0 := Lib.hid x0
      have X1 := Lib.hid x1
      have X2 := Lib.hid x2
      have c0 := cs 6 5 rfl
      have c1 := cs 7 4 rfl
      have c2 := cs 8 4 rfl
      clear cs x0 x1 x2 hk hbr
      rcases Bool.eq_false_or_eq_true (eq3B a b c 5 4 4) with he | he
      · have HE := Lib.hid he
        go_wp2_with fail
        go_quiet (fail)
        go_wp2
        go_ret
        exact ⟨ret_i (by rw [T.out, if_neg (by have := X0.out; simp_all), if_neg (by have := X1.out; simp_all), if_pos HE.out]; try rfl), bl_drewN HB.out _⟩
      · have HE := Lib.hid he
        go_wp2_with fail
        go_quiet (fail)
        go_wp2
        go_roundw
        case rel => exact ⟨3, by omega, rfl, (by first | exact .inr HE.out | exact .inl (by decide) | exact (by simpa using X0.out)), (by first | exact .inr HE.out | exact .inl (by decide) | exact (by simpa using X1.out)), (by first | exact .inr HE.out | exact .inl (by decide) | exact (by simpa using X2.out)), bl_drewN HB.out _, by simpa using q0, by simpa using q1, by simpa using q2⟩
        case measure => simp [intOf]
    · have X0 := Lib.hid (show eq3B a b c 4 4 5 = false by simpa using x0)
      have X1 := Lib.hid (show eq3B a b c 4 5 4 = false by simpa using x1)
      have X2 := Lib.hid (show eq3B a b c 5 4 4 = false by simpa using x2)
      clear cs x0 x1 x2 hk hbr
      go_wp2
      go_ret
      exact ⟨ret_i (by rw [T.out, X0.out, X1.out, X2.out]; rfl), HB.out⟩
def patP (a b c : Int) : Int := patI a b c + 1
theorem patI_bd (a b c : Int) : -1 ≤ patI a b c ∧ patI a b c ≤ 2 := by unfold patI; split <;> (try split) <;> (try split) <;> omega
theorem eq3B_iff (a b c x y z : Int) : eq3B a b c x y z = true ↔ a = x ∧ b = y ∧ c = z := by unfold eq3B; simp
theorem patP_pos (a b c : Int) : 0 < patP a b c ↔ ((a = 4 ∧ b = 4 ∧ c = 5) ∨ (a = 4 ∧ b = 5 ∧ c = 4) ∨ (a = 5 ∧ b = 4 ∧ c = 4)) := by
  unfold patP patI
  rw [← eq3B_iff, ← eq3B_iff, ← eq3B_iff]
  by_cases h1 : eq3B a b c 4 4 5 = true <;> by_cases h2 : eq3B a b c 4 5 4 = true <;> by_cases h3 : eq3B a b c 5 4 4 = true <;> simp [h1, h2, h3]
set_option maxHeartbeats 400000 in
theorem place_any (a b c : Int) (w : World) (n : Nat) (hp : Pats w n) :
    Calls Try.prog 81 #[.slice (some ⟨n, 0, none⟩) 3 3, .agg #[.int .i64 a, .int .i64 b, .int .i64 c]] w fun e w' => e = .returned (.int .i64 (patP a b c)) ∧ Below w.heap.size w w' := by
  have hn : n < w.heap.size := hp.1
  have hb := patI_bd a b c
  have hp2 : ∀ o : Obj, Pats (w.alloc o) n := fun o => hp.go (bl_alloc (Below.refl w.heap.size w) o)
  have HP := Lib.hid hp2
  clear hp hp2
  go_enter Try.func81, Try.ntmps81
  go_wp2_with fail
  refine (index_any a b c _ n (HP.out _)).mono ?_
  rintro e w1 ⟨rfl, hb1⟩
  go_wp2
  go_ret
  exact ⟨rfl, (by repeat (with_reducible (first | exact Below.refl _ _ | assumption | refine bl_alloc ?_ _ | refine bl_drewN ?_ _ | refine bl_drew ?_ | refine bl_call ?_ (by assumption) | (refine bl_setCell ?_ _ (Nat.le_refl _)) | (refine bl_setCell ?_ _ (by simp)))))⟩
end Go.Proofs.Yteppoghpfcmhhaa
