/- ref.Same of two slices that hold the same numbers; the chapter's example. -/
import Derived.Test.YtkejohmghacdhaaShD
import Derived.Deep.QuietTactic
namespace Go.Proofs.Ytkejohmghacdhaa
set_option linter.unusedVariables false
set_option linter.unusedSimpArgs false
open Go Go.RowKit
theorem same_empty (a b : Option Addr) (ca cb : Nat) (w : World) :
    Calls Try.prog 29 #[.slice a 0 ca, .slice b 0 cb] w fun e w' => e = .returned (.bool true) ∧ Below w.heap.size w w' := by
  go_enter Try.func29, Try.ntmps29
  go_wp2
  refine wp_loop_rounds 1 ?_
  rw [rounds_succ]
  go_wp2
  go_ret
  exact ⟨rfl, Below.refl _ _⟩
set_option maxHeartbeats 1000000 in
theorem same_some (n : Nat) (f : Nat → Int) (b o c p ca cb : Nat) (w : World) (hn : n ≤ 9223372036854775807) (hb : b < w.heap.size) (hc : c < w.heap.size)
    (h1 : ∀ j, j < n → w.cell? ⟨b, o + j, none⟩ = some (.int .i64 (f j))) (h2 : ∀ j, j < n → w.cell? ⟨c, p + j, none⟩ = some (.int .i64 (f j))) :
    Calls Try.prog 29 #[.slice (some ⟨b, o, none⟩) n ca, .slice (some ⟨c, p, none⟩) n cb] w fun e w' => e = .returned (.bool true) ∧ Below w.heap.size w w' := by
  have H1 := Lib.hid h1
  have H2 := Lib.hid h2
  clear h1 h2
  go_enter Try.func29, Try.ntmps29
  go_wp2
  go_loopw [13] (fun i wr => ∃ k : Nat, k ≤ n ∧ i = .int .i64 k ∧ Aside (Below w.heap.size w wr)) (fun i _ => n - (intOf i).toNat)
  case atStart => exact ⟨0, by omega, rfl, Below.refl _ _⟩
  case round =>
    obtain ⟨k, hk, rfl, HB⟩ := hrel
    by_cases hlt : k < n
    · have hz : (k : Int) < (n : Int) := by omega
      have c1 : wr.cell? ⟨b, o + k, none⟩ = some (.int .i64 (f k)) := (HB.out.cell (p := ⟨b, o + k, none⟩) hb).trans (H1.out k hlt)
      have c2 : wr.cell? ⟨c, p + k, none⟩ = some (.int .i64 (f k)) := (HB.out.cell (p := ⟨c, p + k, none⟩) hc).trans (H2.out k hlt)
      generalize f k = x at c1 c2
      go_wp2
      go_quiet (fail)
      go_wp2
      go_roundw
      case rel => exact ⟨k + 1, by omega, by go_num, bl_drewN HB.out _⟩
      case measure => simp [intOf]; omega
    · have hz : ¬ (k : Int) < (n : Int) := by omega
      go_wp2
      go_ret
      exact ⟨rfl, HB.out⟩
theorem same_yes (xs : List Int) (a b : Option Addr) (ca cb : Nat) (w : World) (hn : xs.length ≤ 9223372036854775807) (h1 : SlI .i64 w a xs) (h2 : SlI .i64 w b xs) :
    Calls Try.prog 29 #[.slice a xs.length ca, .slice b xs.length cb] w fun e w' => e = .returned (.bool true) ∧ Below w.heap.size w w' := by
  by_cases h : xs = []
  · subst h; exact same_empty a b ca cb w
  · have hl : 0 < xs.length := by cases xs; exact absurd rfl h; simp
    obtain ⟨b1, o1, rfl, k1, c1⟩ := h1.at 0 hl
    obtain ⟨b2, o2, rfl, k2, c2⟩ := h2.at 0 hl
    exact same_some xs.length (fun j => xs.getD j 0) b1 o1 b2 o2 ca cb w hn k1 k2 c1 c2
theorem allE_111 : allE [1, 1, 1] = 0 := by decide
theorem shL_111 : shL 10 [1, 1, 1] = [4, 3, 3] := by decide
set_option maxHeartbeats 1000000 in
theorem live4 (w : World) : Calls Try.prog 25 #[] w fun e w' => e = .returned (.bool true) ∧ Below w.heap.size w w' := by
  have S := Lib.hid (fun (b : Nat) (w : World) (hs : SlI .i64 w (some ⟨b, 0, none⟩) [1, 1, 1]) => split_yes 10 [1, 1, 1] (some ⟨b, 0, none⟩) 3 w (by decide) (fun k hk => by
    have : k = 0 ∨ k = 1 ∨ k = 2 := by simp at hk; omega
    rcases this with rfl | rfl | rfl <;> exact ⟨by decide, by decide⟩) hs ⟨by decide, by decide⟩ allE_111)
  have T := Lib.hid (fun (a b : Option Addr) (w : World) h1 h2 => same_yes [4, 3, 3] a b 3 3 w (by decide) h1 h2)
  go_enter Try.func25, Try.ntmps25
  go_wp2_with fail
  refine (S.out w.heap.size _ (.inr ⟨_, 0, rfl, fun j hj => ?_⟩)).mono ?_
  · have : j = 0 ∨ j = 1 ∨ j = 2 := by simp at hj; omega
    rcases this with rfl | rfl | rfl <;> simp
  rintro e w1 ⟨b, hb, rfl, hr, hbl⟩
  rw [shL_111] at hr
  have R := Lib.hid hr
  have HB := Lib.hid hbl
  have hlt := hr.lt (by decide)
  clear hr hbl
  go_wp2_with fail
  refine (T.out (some ⟨b, 0, none⟩) (some ⟨w1.heap.size, 0, none⟩) _ (RowF.sl (R.out.go (bl_alloc (Below.refl _ _) _))) (.inr ⟨_, 0, rfl, fun j hj => ?_⟩)).mono ?_
  · have : j = 0 ∨ j = 1 ∨ j = 2 := by simp at hj; omega
    rcases this with rfl | rfl | rfl <;> simp
  rintro e w2 ⟨rfl, hb2⟩
  go_wp2
  go_ret
  exact ⟨rfl, bl_call (bl_alloc (bl_call (bl_alloc (Below.refl _ _) _) HB.out) _) hb2⟩
end Go.Proofs.Ytkejohmghacdhaa
