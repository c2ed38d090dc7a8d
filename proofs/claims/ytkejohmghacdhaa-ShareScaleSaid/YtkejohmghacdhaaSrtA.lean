/- slices' stable sort at the slice of parts: swapRange, rotate. -/
import Derived.Test.YtkejohmghacdhaaKit
import Derived.Shelf.SlSortCmp.KitK
import Derived.Sort.WalkB2
import Derived.Sort.WalkB12
import Derived.Sort.LotA
import Derived.Deep.LoopGhost
namespace Go.Proofs.Ytkejohmghacdhaa
set_option linter.unusedVariables false
set_option linter.unusedSimpArgs false
open Go Go.Shelf Go.RowKit Go.Lib Go.Sort
variable {α : Type} [Inhabited α]
/-- two runs of n places exchanged -/
def exR (a b n : Nat) (x : Nat) : Nat := if a ≤ x ∧ x < a + n then b + (x - a) else if b ≤ x ∧ x < b + n then a + (x - b) else x
theorem exR_zero (a b x : Nat) : exR a b 0 x = x := by unfold exR; split; omega; split; omega; rfl
theorem exR_step {a b i : Nat} (h : a + i < b) (x : Nat) : exR a b (i + 1) x = exR a b i (if x = a + i then b + i else if x = b + i then a + i else x) := by
  by_cases h1 : x = a + i
  · rw [if_pos h1]; unfold exR; repeat' split
    all_goals omega
  · by_cases h2 : x = b + i
    · rw [if_neg h1, if_pos h2]; unfold exR; repeat' split
      all_goals omega
    · rw [if_neg h1, if_neg h2]; unfold exR; repeat' split
      all_goals omega
set_option maxHeartbeats 4000000 in
set_option maxRecDepth 1000000 in
theorem swapRange_any (k : Nat) (aE : ∀ w, (isAgg 73).run Try.prog w = .ok true w) (zE : ∀ w, (Go.sizeOf 73).run Try.prog w = .ok k w) (enc : α → List Value) (fv : Value) (blk off cap a b n : Nat) (d0 d : Array α) (w0 w : World)
    (R : RowK enc k w0 blk off d0) (hs : d0.size = d.size) (S : SWK enc k w0 blk off d w) (hab : a + n ≤ b) (hb : b + n ≤ d.size) (hsz : d.size < 4611686018427387904) :
    Calls Try.prog 93 #[.slice (some ⟨blk, off, none⟩) d.size cap, .int .i64 a, .int .i64 b, .int .i64 n, fv] w fun e w' => e = .returned (.tuple #[]) ∧ ∃ d', d'.size = d.size ∧ SWK enc k w0 blk off d' w' ∧ (∀ x : Nat, d'[x]! = d[exR a b n x]!) ∧ (∀ lo hi : Nat, lo ≤ a → b + n ≤ hi → hi ≤ d.size → PermIn lo hi d d') := by
  have S0 : Aside (SWK enc k w0 blk off d w) := S
  clear S
  have mixed : Try.prog.follows .mixedOrders = true := by kernel_rfl
  go_enter Try.func93, Try.ntmps93
  go_wp2
  go_loopg [10] n (fun kx s10 wr => ∃ (i : Nat) (dk : Array α), s10 = .int .i64 i ∧ i ≤ n ∧ n - i ≤ kx ∧ dk.size = d.size ∧ Aside (SWK enc k w0 blk off dk wr) ∧ Aside (∀ x : Nat, dk[x]! = d[exR a b i x]!) ∧ Aside (∀ lo hi : Nat, lo ≤ a → b + n ≤ hi → hi ≤ d.size → PermIn lo hi d dk))
  case atStart => exact ⟨0, d, rfl, by omega, by omega, rfl, S0, fun x => by rw [exR_zero], fun _ _ _ _ _ => permIn_refl _ _ _⟩
  case round =>
    clear S0
    obtain ⟨i, dk, rfl, hin, hkx, hds, S1, HX, HP⟩ := hrel
    by_cases hlt : i < n
    · have hltz : (i : Int) < (n : Int) := by omega
      go_wp2_with fail
      have ea : ((a : Int) + (i : Int)).toNat = a + i := by omega
      have pa : (0 : Int) ≤ (a : Int) + (i : Int) := by omega
      have ba : (a : Int) + (i : Int) < (d.size : Int) := by omega
      have ra : IntKind.i64.wrap ((a : Int) + (i : Int)) = (a : Int) + (i : Int) := by rw [IntKind.wrap_i64]; omega
      have eb : ((b : Int) + (i : Int)).toNat = b + i := by omega
      have pb : (0 : Int) ≤ (b : Int) + (i : Int) := by omega
      have bb : (b : Int) + (i : Int) < (d.size : Int) := by omega
      have rb : IntKind.i64.wrap ((b : Int) + (i : Int)) = (b : Int) + (i : Int) := by rw [IntKind.wrap_i64]; omega
      have S2 : Aside (SWK enc k w0 blk off (swp dk (a + i) (b + i)) ((wr.drew.setCells blk (off + (a + i) * k) (enc dk[b + i]!)).setCells blk (off + (b + i) * k) (enc dk[a + i]!))) := S1.out.swapped R (a + i) (b + i) (by omega) (by omega)
      have la := S1.out.ld1 R (by omega) Try.prog (a + i) (by omega)
      have lb := S1.out.ld1 R (by omega) Try.prog (b + i) (by omega)
      have sa := S1.out.st1 R (by omega) Try.prog (a + i) (by omega) dk[b + i]!
      have sb := S1.out.st2 R (by omega) Try.prog (a + i) (b + i) (by omega) (by omega) dk[b + i]! dk[a + i]!
      have na : (enc dk[a + i]!).length = k := R.hk _
      have nb : (enc dk[b + i]!).length = k := R.hk _
      have HN : Aside (∀ x : Nat, (swp dk (a + i) (b + i))[x]! = d[exR a b (i + 1) x]!) := fun x => by
        rw [exR_step (by omega), ← HX.out]
        by_cases h1 : x = a + i
        · subst h1; rw [if_pos rfl]; exact swp_left dk _ _ (by omega) (by omega)
        · rw [if_neg h1]
          by_cases h2 : x = b + i
          · subst h2; rw [if_pos rfl]; exact swp_right dk _ _ (by omega)
          · rw [if_neg h2]; exact swp_other dk _ _ _ h1 h2
      have HQ : Aside (∀ lo hi : Nat, lo ≤ a → b + n ≤ hi → hi ≤ d.size → PermIn lo hi d (swp dk (a + i) (b + i))) := fun lo hi h1 h2 h3 => permIn_trans _ _ _ _ _ (HP.out lo hi h1 h2 h3) (swp_permIn dk lo hi _ _ (by omega) (by omega) (by omega) (by omega) (by omega))
      generalize enc dk[a + i]! = cI at S2 la sb na
      generalize enc dk[b + i]! = cJ at S2 lb sa sb nb
      clear S1 HX HP
      go_wp2_with fail
      go_big_region_o
      clear la lb sa sb
      generalize (wr.drew.setCells blk (off + (a + i) * k) cJ).setCells blk (off + (b + i) * k) cI = w2 at S2 ⊢
      go_wp2
      go_roundg (n - (i + 1))
      case measure => omega
      case rel => exact ⟨i + 1, swp dk (a + i) (b + i), by first | rfl | go_num | simp, by omega, Nat.le_refl _, by rw [size_swp]; exact hds, S2, HN, HQ⟩
    · have hnot : ¬ (i : Int) < (n : Int) := by omega
      obtain rfl : i = n := by omega
      go_wp2
      go_end0
      exact ⟨rfl, dk, hds, S1.out, HX.out, HP.out⟩
/-- [a, m) and [m, b) change places -/
def rot (a m b : Nat) (x : Nat) : Nat := if a ≤ x ∧ x < a + (b - m) then x + (m - a) else if a + (b - m) ≤ x ∧ x < b then x - (b - m) else x
theorem rot_same {m i : Nat} (h : i ≤ m) (x : Nat) : exR (m - i) m i x = rot (m - i) m (m + i) x := by
  unfold exR rot; repeat' split
  all_goals omega
theorem rot_left {m i j : Nat} (h : i ≤ m) (hj : 0 < j) (hij : j < i) (x : Nat) : exR (m - i) m j (rot (m - (i - j)) m (m + j) x) = rot (m - i) m (m + j) x := by
  unfold rot
  repeat' split
  all_goals (unfold exR; repeat' split)
  all_goals omega
theorem rot_right {m i j : Nat} (h : i ≤ m) (hi : 0 < i) (hij : i < j) (x : Nat) : exR (m - i) (m + j - i) i (rot (m - i) m (m + (j - i)) x) = rot (m - i) m (m + j) x := by
  unfold rot
  repeat' split
  all_goals (unfold exR; repeat' split)
  all_goals omega
set_option maxHeartbeats 4000000 in
set_option maxRecDepth 1000000 in
theorem rotate_any (k : Nat) (aE : ∀ w, (isAgg 73).run Try.prog w = .ok true w) (zE : ∀ w, (Go.sizeOf 73).run Try.prog w = .ok k w) (enc : α → List Value) (fv : Value) (blk off cap a m b : Nat) (d0 d : Array α) (w0 w : World)
    (R : RowK enc k w0 blk off d0) (hs : d0.size = d.size) (S : SWK enc k w0 blk off d w) (ham : a < m) (hmb : m < b) (hb : b ≤ d.size) (hsz : d.size < 4611686018427387904) :
    Calls Try.prog 90 #[.slice (some ⟨blk, off, none⟩) d.size cap, .int .i64 a, .int .i64 m, .int .i64 b, fv] w fun e w' => e = .returned (.tuple #[]) ∧ ∃ d', d'.size = d.size ∧ SWK enc k w0 blk off d' w' ∧ (∀ x : Nat, d'[x]! = d[rot a m b x]!) ∧ (∀ lo hi : Nat, lo ≤ a → b ≤ hi → hi ≤ d.size → PermIn lo hi d d') := by
  have S0 : Aside (SWK enc k w0 blk off d w) := S
  clear S
  have CS : Aside (∀ (a b n : Nat) (dk : Array α) (wr : World), dk.size = d.size → SWK enc k w0 blk off dk wr → a + n ≤ b → b + n ≤ d.size → Calls Try.prog 93 #[.slice (some ⟨blk, off, none⟩) d.size cap, .int .i64 a, .int .i64 b, .int .i64 n, fv] wr fun e w' => e = .returned (.tuple #[]) ∧ ∃ d', d'.size = d.size ∧ SWK enc k w0 blk off d' w' ∧ (∀ x : Nat, d'[x]! = dk[exR a b n x]!) ∧ (∀ lo hi : Nat, lo ≤ a → b + n ≤ hi → hi ≤ d.size → PermIn lo hi dk d')) := fun a b n dk wr hd S h1 h2 => by
    have := swapRange_any k aE zE enc fv blk off cap a b n d0 dk w0 wr R (by omega) S h1 (by omega) (by omega)
    rw [hd] at this
    exact this
  have w1 : IntKind.i64.wrap ((m : Int) - (a : Int)) = (m : Int) - (a : Int) := by rw [IntKind.wrap_i64]; omega
  have w2 : IntKind.i64.wrap ((b : Int) - (m : Int)) = (b : Int) - (m : Int) := by rw [IntKind.wrap_i64]; omega
  go_enter Try.func90, Try.ntmps90
  go_wp2
  go_loopg [10, 11] (b - a) (fun kx s10 s11 wr => ∃ (i j : Nat) (dk : Array α), s10 = .int .i64 i ∧ s11 = .int .i64 j ∧ 0 < i ∧ 0 < j ∧ a + i ≤ m ∧ m + j ≤ b ∧ i + j ≤ kx ∧ dk.size = d.size ∧ Aside (SWK enc k w0 blk off dk wr) ∧ Aside (∀ x : Nat, dk[rot (m - i) m (m + j) x]! = d[rot a m b x]!) ∧ Aside (∀ lo hi : Nat, lo ≤ a → b ≤ hi → hi ≤ d.size → PermIn lo hi d dk))
  case atStart => exact ⟨m - a, b - m, d, by congr 1; omega, by congr 1; omega, by omega, by omega, by omega, by omega, by omega, rfl, S0, fun x => by rw [show m - (m - a) = a by omega, show m + (b - m) = b by omega], fun _ _ _ _ _ => permIn_refl _ _ _⟩
  case round =>
    clear S0
    obtain ⟨i, j, dk, rfl, rfl, hi, hj, hai, hjb, hkx, hds, S1, HX, HP⟩ := hrel
    have e1 : IntKind.i64.wrap ((m : Int) - (i : Int)) = ((m - i : Nat) : Int) := by rw [IntKind.wrap_i64]; omega
    have e1' : (m : Int) - (i : Int) = ((m - i : Nat) : Int) := by omega
    rcases Nat.lt_trichotomy i j with hlt | heq | hgt
    · have t1 : ((i : Int) != (j : Int)) = true := by simp; omega
      have t2 : ((i : Int) == (j : Int)) = false := by simp; omega
      have t3 : ¬ (j : Int) < (i : Int) := by omega
      have e2 : IntKind.i64.wrap ((m : Int) + (j : Int)) = (m : Int) + (j : Int) := by rw [IntKind.wrap_i64]; omega
      have e3 : IntKind.i64.wrap ((m : Int) + (j : Int) - (i : Int)) = ((m + j - i : Nat) : Int) := by rw [IntKind.wrap_i64]; omega
      have e3' : (m : Int) + (j : Int) - (i : Int) = ((m + j - i : Nat) : Int) := by omega
      have e4 : IntKind.i64.wrap ((j : Int) - (i : Int)) = ((j - i : Nat) : Int) := by rw [IntKind.wrap_i64]; omega
      have e4' : (j : Int) - (i : Int) = ((j - i : Nat) : Int) := by omega
      have C := CS.out (m - i) (m + j - i) i dk wr hds S1.out (by omega) (by omega)
      go_wp2_with fail
      refine C.mono ?_
      rintro e w2 ⟨rfl, d2, hd2, S2, H2, P2⟩
      have S2 : Aside _ := S2
      have HN : Aside (∀ x : Nat, d2[rot (m - i) m (m + (j - i)) x]! = d[rot a m b x]!) := fun x => by rw [H2, rot_right (by omega) hi hlt, HX.out]
      have HQ : Aside (∀ lo hi : Nat, lo ≤ a → b ≤ hi → hi ≤ d.size → PermIn lo hi d d2) := fun lo hi h1 h2 h3 => permIn_trans _ _ _ _ _ (HP.out lo hi h1 h2 h3) (P2 lo hi (by omega) (by omega) h3)
      clear S1 HX H2 C P2 HP
      go_wp2
      go_roundg (i + (j - i))
      case measure => omega
      case rel => exact ⟨i, j - i, d2, rfl, by first | rfl | (congr 1; omega), hi, by omega, hai, by omega, Nat.le_refl _, hd2, S2, HN, HQ⟩
    · subst heq
      have t1 : ((i : Int) != (i : Int)) = false := by simp
      have C := CS.out (m - i) m i dk wr hds S1.out (by omega) (by omega)
      go_wp2_with fail
      refine C.mono ?_
      rintro e w2 ⟨rfl, d2, hd2, S2, H2, P2⟩
      have S2 : Aside _ := S2
      have HN : Aside (∀ x : Nat, d2[x]! = d[rot a m b x]!) := fun x => by rw [H2, rot_same (by omega), HX.out]
      have HQ : Aside (∀ lo hi : Nat, lo ≤ a → b ≤ hi → hi ≤ d.size → PermIn lo hi d d2) := fun lo hi h1 h2 h3 => permIn_trans _ _ _ _ _ (HP.out lo hi h1 h2 h3) (P2 lo hi (by omega) (by omega) h3)
      clear S1 HX H2 C P2 HP
      go_wp2
      go_end0
      exact ⟨rfl, d2, hd2, S2.out, HN.out, HQ.out⟩
    · have t1 : ((i : Int) != (j : Int)) = true := by simp; omega
      have t2 : ((i : Int) == (j : Int)) = false := by simp; omega
      have t3 : (j : Int) < (i : Int) := by omega
      have e4 : IntKind.i64.wrap ((i : Int) - (j : Int)) = ((i - j : Nat) : Int) := by rw [IntKind.wrap_i64]; omega
      have e4' : (i : Int) - (j : Int) = ((i - j : Nat) : Int) := by omega
      have C := CS.out (m - i) m j dk wr hds S1.out (by omega) (by omega)
      go_wp2_with fail
      refine C.mono ?_
      rintro e w2 ⟨rfl, d2, hd2, S2, H2, P2⟩
      have S2 : Aside _ := S2
      have HN : Aside (∀ x : Nat, d2[rot (m - (i - j)) m (m + j) x]! = d[rot a m b x]!) := fun x => by rw [H2, rot_left (by omega) hj hgt, HX.out]
      have HQ : Aside (∀ lo hi : Nat, lo ≤ a → b ≤ hi → hi ≤ d.size → PermIn lo hi d d2) := fun lo hi h1 h2 h3 => permIn_trans _ _ _ _ _ (HP.out lo hi h1 h2 h3) (P2 lo hi (by omega) (by omega) h3)
      clear S1 HX H2 C P2 HP
      go_wp2
      go_roundg (i - j + j)
      case measure => omega
      case rel => exact ⟨i - j, j, d2, by first | rfl | (congr 1; omega), rfl, by omega, hj, by omega, hjb, Nat.le_refl _, hd2, S2, HN, HQ⟩
end Go.Proofs.Ytkejohmghacdhaa
