/- Several texts in one (a claim has room for sixty files): SrtA SrtB SrtC SrtD SrtE. -/
import Derived.Test.YtkejohmghacdhaaDoorKit
import Derived.Shelf.SlSortCmp.KitK
import Derived.Sort.WalkB2
import Derived.Sort.WalkB12
import Derived.Sort.LotA
import Derived.Deep.LoopGhost
/- slices' stable sort at the slice of parts: swapRange, rotate. -/
namespace Go.Proofs.YtkejohmghacdhaaDoor
set_option linter.unusedVariables false
set_option linter.unusedSimpArgs false
open Go Go.Shelf Go.RowKit Go.Lib Go.Sort
variable {α : Type} [Inhabited α]
/-- two runs of n places exchanged -/
def exR (a b n : Nat) (x : Nat) : Nat := if a ≤ x ∧ x < a + n then b + (x - a) else if b ≤ x ∧ x < b + n then a + (x - b) else x
theorem exR_zero (a b x : Nat) : exR a b 0 x = x := by unfold exR; split; omega; split; omega; rfl
theorem exR_step {a b i : Nat} (h : a + i < b) (x : Nat) : exR a b (i + 1) x = exR a b i (if x = a + i then b + i else if x = b + i then a + i else x) := by
  by_cases h1 : x = a + i
  · rw [if_pos h1]; unfold exR; repeat' split
    all_goals omega
  · by_cases h2 : x = b + i
    · rw [if_neg h1, if_pos h2]; unfold exR; repeat' split
      all_goals omega
    · rw [if_neg h1, if_neg h2]; unfold exR; repeat' split
      all_goals omega
set_option maxHeartbeats 4000000 in
set_option maxRecDepth 1000000 in
theorem swapRange_any (k : Nat) (aE : ∀ w, (isAgg 67).run Tryd.prog w = .ok true w) (zE : ∀ w, (Go.sizeOf 67).run Tryd.prog w = .ok k w) (enc : α → List Value) (fv : Value) (blk off cap a b n : Nat) (d0 d : Array α) (w0 w : World)
    (R : RowK enc k w0 blk off d0) (hs : d0.size = d.size) (S : SWK enc k w0 blk off d w) (hab : a + n ≤ b) (hb : b + n ≤ d.size) (hsz : d.size < 4611686018427387904) :
    Calls Tryd.prog 91 #[.slice (some ⟨blk, off, none⟩) d.size cap, .int .i64 a, .int .i64 b, .int .i64 n, fv] w fun e w' => e = .returned (.tuple #[]) ∧ ∃ d', d'.size = d.size ∧ SWK enc k w0 blk off d' w' ∧ (∀ x : Nat, d'[x]! = d[exR a b n x]!) ∧ (∀ lo hi : Nat, lo ≤ a → b + n ≤ hi → hi ≤ d.size → PermIn lo hi d d') := by
  have S0 : Aside (SWK enc k w0 blk off d w) := S
  clear S
  have mixed : Tryd.prog.follows .mixedOrders = true := by kernel_rfl
  go_enter Tryd.func91, Tryd.ntmps91
  go_wp2
  go_loopg [10] n (fun kx s10 wr => ∃ (i : Nat) (dk : Array α), s10 = .int .i64 i ∧ i ≤ n ∧ n - i ≤ kx ∧ dk.size = d.size ∧ Aside (SWK enc k w0 blk off dk wr) ∧ Aside (∀ x : Nat, dk[x]! = d[exR a b i x]!) ∧ Aside (∀ lo hi : Nat, lo ≤ a → b + n ≤ hi → hi ≤ d.size → PermIn lo hi d dk))
  case atStart => exact ⟨0, d, rfl, by omega, by omega, rfl, S0, fun x => by rw [exR_zero], fun _ _ _ _ _ => permIn_refl _ _ _⟩
  case round =>
    clear S0
    obtain ⟨i, dk, rfl, hin, hkx, hds, S1, HX, HP⟩ := hrel
    by_cases hlt : i < n
    · have hltz : (i : Int) < (n : Int) := by omega
      go_wp2_with fail
      have ea : ((a : Int) + (i : Int)).toNat = a + i := by omega
      have pa : (0 : Int) ≤ (a : Int) + (i : Int) := by omega
      have ba : (a : Int) + (i : Int) < (d.size : Int) := by omega
      have ra : IntKind.i64.wrap ((a : Int) + (i : Int)) = (a : Int) + (i : Int) := by rw [IntKind.wrap_i64]; omega
      have eb : ((b : Int) + (i : Int)).toNat = b + i := by omega
      have pb : (0 : Int) ≤ (b : Int) + (i : Int) := by omega
      have bb : (b : Int) + (i : Int) < (d.size : Int) := by omega
      have rb : IntKind.i64.wrap ((b : Int) + (i : Int)) = (b : Int) + (i : Int) := by rw [IntKind.wrap_i64]; omega
      have S2 : Aside (SWK enc k w0 blk off (swp dk (a + i) (b + i)) ((wr.drew.setCells blk (off + (a + i) * k) (enc dk[b + i]!)).setCells blk (off + (b + i) * k) (enc dk[a + i]!))) := S1.out.swapped R (a + i) (b + i) (by omega) (by omega)
      have la := S1.out.ld1 R (by omega) Tryd.prog (a + i) (by omega)
      have lb := S1.out.ld1 R (by omega) Tryd.prog (b + i) (by omega)
      have sa := S1.out.st1 R (by omega) Tryd.prog (a + i) (by omega) dk[b + i]!
      have sb := S1.out.st2 R (by omega) Tryd.prog (a + i) (b + i) (by omega) (by omega) dk[b + i]! dk[a + i]!
      have na : (enc dk[a + i]!).length = k := R.hk _
      have nb : (enc dk[b + i]!).length = k := R.hk _
      have HN : Aside (∀ x : Nat, (swp dk (a + i) (b + i))[x]! = d[exR a b (i + 1) x]!) := fun x => by
        rw [exR_step (by omega), ← HX.out]
        by_cases h1 : x = a + i
        · subst h1; rw [if_pos rfl]; exact swp_left dk _ _ (by omega) (by omega)
        · rw [if_neg h1]
          by_cases h2 : x = b + i
          · subst h2; rw [if_pos rfl]; exact swp_right dk _ _ (by omega)
          · rw [if_neg h2]; exact swp_other dk _ _ _ h1 h2
      have HQ : Aside (∀ lo hi : Nat, lo ≤ a → b + n ≤ hi → hi ≤ d.size → PermIn lo hi d (swp dk (a + i) (b + i))) := fun lo hi h1 h2 h3 => permIn_trans _ _ _ _ _ (HP.out lo hi h1 h2 h3) (swp_permIn dk lo hi _ _ (by omega) (by omega) (by omega) (by omega) (by omega))
      generalize enc dk[a + i]! = cI at S2 la sb na
      generalize enc dk[b + i]! = cJ at S2 lb sa sb nb
      clear S1 HX HP
      go_wp2_with fail
      go_big_region_o
      clear la lb sa sb
      generalize (wr.drew.setCells blk (off + (a + i) * k) cJ).setCells blk (off + (b + i) * k) cI = w2 at S2 ⊢
      go_wp2
      go_roundg (n - (i + 1))
      case measure => omega
      case rel => exact ⟨i + 1, swp dk (a + i) (b + i), by first | rfl | go_num | simp, by omega, Nat.le_refl _, by rw [size_swp]; exact hds, S2, HN, HQ⟩
    · have hnot : ¬ (i : Int) < (n : Int) := by omega
      obtain rfl : i = n := by omega
      go_wp2
      go_end0
      exact ⟨rfl, dk, hds, S1.out, HX.out, HP.out⟩
/-- [a, m) and [m, b) change places -/
def rot (a m b : Nat) (x : Nat) : Nat := if a ≤ x ∧ x < a + (b - m) then x + (m - a) else if a + (b - m) ≤ x ∧ x < b then x - (b - m) else x
theorem rot_same {m i : Nat} (h : i ≤ m) (x : Nat) : exR (m - i) m i x = rot (m - i) m (m + i) x := by
  unfold exR rot; repeat' split
  all_goals omega
theorem rot_left {m i j : Nat} (h : i ≤ m) (hj : 0 < j) (hij : j < i) (x : Nat) : exR (m - i) m j (rot (m - (i - j)) m (m + j) x) = rot (m - i) m (m + j) x := by
  unfold rot
  repeat' split
  all_goals (unfold exR; repeat' split)
  all_goals omega
theorem rot_right {m i j : Nat} (h : i ≤ m) (hi : 0 < i) (hij : i < j) (x : Nat) : exR (m - i) (m + j - i) i (rot (m - i) m (m + (j - i)) x) = rot (m - i) m (m + j) x := by
  unfold rot
  repeat' split
  all_goals (unfold exR; repeat' split)
  all_goals omega
set_option maxHeartbeats 4000000 in
set_option maxRecDepth 1000000 in
theorem rotate_any (k : Nat) (aE : ∀ w, (isAgg 67).run Tryd.prog w = .ok true w) (zE : ∀ w, (Go.sizeOf 67).run Tryd.prog w = .ok k w) (enc : α → List Value) (fv : Value) (blk off cap a m b : Nat) (d0 d : Array α) (w0 w : World)
    (R : RowK enc k w0 blk off d0) (hs : d0.size = d.size) (S : SWK enc k w0 blk off d w) (ham : a < m) (hmb : m < b) (hb : b ≤ d.size) (hsz : d.size < 4611686018427387904) :
    Calls Tryd.prog 89 #[.slice (some ⟨blk, off, none⟩) d.size cap, .int .i64 a, .int .i64 m, .int .i64 b, fv] w fun e w' => e = .returned (.tuple #[]) ∧ ∃ d', d'.size = d.size ∧ SWK enc k w0 blk off d' w' ∧ (∀ x : Nat, d'[x]! = d[rot a m b x]!) ∧ (∀ lo hi : Nat, lo ≤ a → b ≤ hi → hi ≤ d.size → PermIn lo hi d d') := by
  have S0 : Aside (SWK enc k w0 blk off d w) := S
  clear S
  have CS : Aside (∀ (a b n : Nat) (dk : Array α) (wr : World), dk.size = d.size → SWK enc k w0 blk off dk wr → a + n ≤ b → b + n ≤ d.size → Calls Tryd.prog 91 #[.slice (some ⟨blk, off, none⟩) d.size cap, .int .i64 a, .int .i64 b, .int .i64 n, fv] wr fun e w' => e = .returned (.tuple #[]) ∧ ∃ d', d'.size = d.size ∧ SWK enc k w0 blk off d' w' ∧ (∀ x : Nat, d'[x]! = dk[exR a b n x]!) ∧ (∀ lo hi : Nat, lo ≤ a → b + n ≤ hi → hi ≤ d.size → PermIn lo hi dk d')) := fun a b n dk wr hd S h1 h2 => by
    have := swapRange_any k aE zE enc fv blk off cap a b n d0 dk w0 wr R (by omega) S h1 (by omega) (by omega)
    rw [hd] at this
    exact this
  have w1 : IntKind.i64.wrap ((m : Int) - (a : Int)) = (m : Int) - (a : Int) := by rw [IntKind.wrap_i64]; omega
  have w2 : IntKind.i64.wrap ((b : Int) - (m : Int)) = (b : Int) - (m : Int) := by rw [IntKind.wrap_i64]; omega
  go_enter Tryd.func89, Tryd.ntmps89
  go_wp2
  go_loopg [10, 11] (b - a) (fun kx s10 s11 wr => ∃ (i j : Nat) (dk : Array α), s10 = .int .i64 i ∧ s11 = .int .i64 j ∧ 0 < i ∧ 0 < j ∧ a + i ≤ m ∧ m + j ≤ b ∧ i + j ≤ kx ∧ dk.size = d.size ∧ Aside (SWK enc k w0 blk off dk wr) ∧ Aside (∀ x : Nat, dk[rot (m - i) m (m + j) x]! = d[rot a m b x]!) ∧ Aside (∀ lo hi : Nat, lo ≤ a → b ≤ hi → hi ≤ d.size → PermIn lo hi d dk))
  case atStart => exact ⟨m - a, b - m, d, by congr 1; omega, by congr 1; omega, by omega, by omega, by omega, by omega, by omega, rfl, S0, fun x => by rw [show m - (m - a) = a by omega, show m + (b - m) = b by omega], fun _ _ _ _ _ => permIn_refl _ _ _⟩
  case round =>
    clear S0
    obtain ⟨i, j, dk, rfl, rfl, hi, hj, hai, hjb, hkx, hds, S1, HX, HP⟩ := hrel
    have e1 : IntKind.i64.wrap ((m : Int) - (i : Int)) = ((m - i : Nat) : Int) := by rw [IntKind.wrap_i64]; omega
    have e1' : (m : Int) - (i : Int) = ((m - i : Nat) : Int) := by omega
    rcases Nat.lt_trichotomy i j with hlt | heq | hgt
    · have t1 : ((i : Int) != (j : Int)) = true := by simp; omega
      have t2 : ((i : Int) == (j : Int)) = false := by simp; omega
      have t3 : ¬ (j : Int) < (i : Int) := by omega
      have e2 : IntKind.i64.wrap ((m : Int) + (j : Int)) = (m : Int) + (j : Int) := by rw [IntKind.wrap_i64]; omega
      have e3 : IntKind.i64.wrap ((m : Int) + (j : Int) - (i : Int)) = ((m + j - i : Nat) : Int) := by rw [IntKind.wrap_i64]; omega
      have e3' : (m : Int) + (j : Int) - (i : Int) = ((m + j - i : Nat) : Int) := by omega
      have e4 : IntKind.i64.wrap ((j : Int) - (i : Int)) = ((j - i : Nat) : Int) := by rw [IntKind.wrap_i64]; omega
      have e4' : (j : Int) - (i : Int) = ((j - i : Nat) : Int) := by omega
      have C := CS.out (m - i) (m + j - i) i dk wr hds S1.out (by omega) (by omega)
      go_wp2_with fail
      refine C.mono ?_
      rintro e w2 ⟨rfl, d2, hd2, S2, H2, P2⟩
      have S2 : Aside _ := S2
      have HN : Aside (∀ x : Nat, d2[rot (m - i) m (m + (j - i)) x]! = d[rot a m b x]!) := fun x => by rw [H2, rot_right (by omega) hi hlt, HX.out]
      have HQ : Aside (∀ lo hi : Nat, lo ≤ a → b ≤ hi → hi ≤ d.size → PermIn lo hi d d2) := fun lo hi h1 h2 h3 => permIn_trans _ _ _ _ _ (HP.out lo hi h1 h2 h3) (P2 lo hi (by omega) (by omega) h3)
      clear S1 HX H2 C P2 HP
      go_wp2
      go_roundg (i + (j - i))
      case measure => omega
      case rel => exact ⟨i, j - i, d2, rfl, by first | rfl | (congr 1; omega), hi, by omega, hai, by omega, Nat.le_refl _, hd2, S2, HN, HQ⟩
    · subst heq
      have t1 : ((i : Int) != (i : Int)) = false := by simp
      have C := CS.out (m - i) m i dk wr hds S1.out (by omega) (by omega)
      go_wp2_with fail
      refine C.mono ?_
      rintro e w2 ⟨rfl, d2, hd2, S2, H2, P2⟩
      have S2 : Aside _ := S2
      have HN : Aside (∀ x : Nat, d2[x]! = d[rot a m b x]!) := fun x => by rw [H2, rot_same (by omega), HX.out]
      have HQ : Aside (∀ lo hi : Nat, lo ≤ a → b ≤ hi → hi ≤ d.size → PermIn lo hi d d2) := fun lo hi h1 h2 h3 => permIn_trans _ _ _ _ _ (HP.out lo hi h1 h2 h3) (P2 lo hi (by omega) (by omega) h3)
      clear S1 HX H2 C P2 HP
      go_wp2
      go_end0
      exact ⟨rfl, d2, hd2, S2.out, HN.out, HQ.out⟩
    · have t1 : ((i : Int) != (j : Int)) = true := by simp; omega
      have t2 : ((i : Int) == (j : Int)) = false := by simp; omega
      have t3 : (j : Int) < (i : Int) := by omega
      have e4 : IntKind.i64.wrap ((i : Int) - (j : Int)) = ((i - j : Nat) : Int) := by rw [IntKind.wrap_i64]; omega
      have e4' : (i : Int) - (j : Int) = ((i - j : Nat) : Int) := by omega
      have C := CS.out (m - i) m j dk wr hds S1.out (by omega) (by omega)
      go_wp2_with fail
      refine C.mono ?_
      rintro e w2 ⟨rfl, d2, hd2, S2, H2, P2⟩
      have S2 : Aside _ := S2
      have HN : Aside (∀ x : Nat, d2[rot (m - (i - j)) m (m + j) x]! = d[rot a m b x]!) := fun x => by rw [H2, rot_left (by omega) hj hgt, HX.out]
      have HQ : Aside (∀ lo hi : Nat, lo ≤ a → b ≤ hi → hi ≤ d.size → PermIn lo hi d d2) := fun lo hi h1 h2 h3 => permIn_trans _ _ _ _ _ (HP.out lo hi h1 h2 h3) (P2 lo hi (by omega) (by omega) h3)
      clear S1 HX H2 C P2 HP
      go_wp2
      go_roundg (i - j + j)
      case measure => omega
      case rel => exact ⟨i - j, j, d2, by first | rfl | (congr 1; omega), rfl, by omega, hj, by omega, hjb, Nat.le_refl _, hd2, S2, HN, HQ⟩
end Go.Proofs.YtkejohmghacdhaaDoor
/- slices' stable sort in plain terms: what a merge by rotation does. -/
namespace Go.Proofs.YtkejohmghacdhaaDoor
set_option linter.unusedVariables false
set_option linter.unusedSimpArgs false
open Go Go.Shelf Go.RowKit Go.Lib Go.Sort
variable {α : Type} [Inhabited α]
/-- strictly ascending by the key -/
def Inc (K : α → Int) (lo hi : Nat) (d : Array α) : Prop := ∀ i j, lo ≤ i → i < j → j < hi → K d[i]! < K d[j]!
/-- an element of the left run and one of the right run are told apart by 'cmp' as by the key -/
def Cr (cf : α → α → Int) (K : α → Int) (x y : α) : Prop := (cf y x < 0 ↔ K y < K x) ∧ K x ≠ K y
theorem Inc.le {K : α → Int} {lo hi i j : Nat} {d : Array α} (h : Inc K lo hi d) (h1 : lo ≤ i) (h2 : i ≤ j) (h3 : j < hi) : K d[i]! ≤ K d[j]! := by
  rcases Nat.lt_or_eq_of_le h2 with h4 | rfl
  · have := h i j h1 h4 h3; omega
  · omega
theorem Inc.congr {K : α → Int} {lo hi : Nat} {d d' : Array α} (h : Inc K lo hi d) (he : ∀ i, lo ≤ i → i < hi → d'[i]! = d[i]!) : Inc K lo hi d' := fun i j h1 h2 h3 => by
  rw [he i h1 (by omega), he j (by omega) h3]; exact h i j h1 h2 h3
theorem rot_lo {s m e x : Nat} (h : x < s) : rot s m e x = x := by
  unfold rot; repeat' split
  all_goals omega
theorem rot_r {s m e x : Nat} (h1 : s ≤ x) (h2 : x < s + (e - m)) : rot s m e x = x + (m - s) := by
  unfold rot; repeat' split
  all_goals omega
theorem rot_l {s m e x : Nat} (h1 : s + (e - m) ≤ x) (h2 : x < e) : rot s m e x = x - (e - m) := by
  unfold rot; repeat' split
  all_goals omega
theorem rot_hi {s m e x : Nat} (h : e ≤ x) (h1 : s ≤ m) (h2 : m ≤ e) : rot s m e x = x := by
  unfold rot; repeat' split
  all_goals omega
theorem rot_nil_l (m e x : Nat) : rot m m e x = x := by
  unfold rot; repeat' split
  all_goals omega
theorem rot_nil_r (s m x : Nat) (h : s ≤ m) : rot s m m x = x := by
  unfold rot; repeat' split
  all_goals omega
theorem rot_up {a k : Nat} (h : a ≤ k) (x : Nat) : rot a (a + 1) (k + 1 + 1) x = rot a (a + 1) (k + 1) (if x = k then k + 1 else if x = k + 1 then k else x) := by
  by_cases h1 : x = k
  · rw [if_pos h1]; unfold rot; repeat' split
    all_goals omega
  · by_cases h2 : x = k + 1
    · rw [if_neg h1, if_pos h2]; unfold rot; repeat' split
      all_goals omega
    · rw [if_neg h1, if_neg h2]; unfold rot; repeat' split
      all_goals omega
theorem rot_down {k m : Nat} (h : k + 1 ≤ m) (x : Nat) : rot k m (m + 1) x = rot (k + 1) m (m + 1) (if x = k + 1 then k else if x = k then k + 1 else x) := by
  by_cases h1 : x = k + 1
  · rw [if_pos h1]; unfold rot; repeat' split
    all_goals omega
  · by_cases h2 : x = k
    · rw [if_neg h1, if_pos h2]; unfold rot; repeat' split
      all_goals omega
    · rw [if_neg h1, if_neg h2]; unfold rot; repeat' split
      all_goals omega
theorem swp_at (d : Array α) {i j : Nat} (hi : i < d.size) (hj : j < d.size) (h : i ≠ j) (x : Nat) : (swp d i j)[x]! = d[if x = i then j else if x = j then i else x]! := by
  by_cases h1 : x = i
  · subst h1; rw [if_pos rfl]; exact swp_left d _ _ hi h
  · rw [if_neg h1]
    by_cases h2 : x = j
    · subst h2; rw [if_pos rfl]; exact swp_right d _ _ hj
    · rw [if_neg h2]; exact swp_other d _ _ _ h1 h2
/-- Where the two runs are parted. -/
structure Cut (K : α → Int) (a s m e b : Nat) (d : Array α) : Prop where
  o1 : a ≤ s
  o2 : s ≤ m
  o3 : m ≤ e
  o4 : e ≤ b
  low : s = a ∨ e = b ∨ K d[s - 1]! < K d[e]!
  high : e = m ∨ s = m ∨ K d[e - 1]! < K d[s]!
theorem sym_join {K : α → Int} {a s m e b mid : Nat} {d d1 d2 : Array α} (C : Cut K a s m e b d) (hmid : mid = s + (e - m)) (hL : Inc K a m d) (hR : Inc K m b d)
    (hrot : ∀ x, d1[x]! = d[rot s m e x]!) (pl : ∀ p : α → Prop, (∀ i, a ≤ i → i < mid → p d1[i]!) → ∀ i, a ≤ i → i < mid → p d2[i]!) (pr : ∀ p : α → Prop, (∀ i, mid ≤ i → i < b → p d1[i]!) → ∀ i, mid ≤ i → i < b → p d2[i]!)
    (il : Inc K a mid d2) (ir : Inc K mid b d2) : Inc K a b d2 := by
  obtain ⟨o1, o2, o3, o4, low, high⟩ := C
  have ql := pl (fun v => ∃ x, v = d[x]! ∧ ((a ≤ x ∧ x < s) ∨ (m ≤ x ∧ x < e))) (fun i h1 h2 => by
    rw [hrot]
    by_cases h3 : i < s
    · exact ⟨i, by rw [rot_lo h3], .inl ⟨h1, h3⟩⟩
    · exact ⟨i + (m - s), by rw [rot_r (by omega) (by omega)], .inr ⟨by omega, by omega⟩⟩)
  have qr := pr (fun v => ∃ x, v = d[x]! ∧ ((s ≤ x ∧ x < m) ∨ (e ≤ x ∧ x < b))) (fun i h1 h2 => by
    rw [hrot]
    by_cases h3 : i < e
    · exact ⟨i - (e - m), by rw [rot_l (by omega) h3], .inl ⟨by omega, by omega⟩⟩
    · exact ⟨i, by rw [rot_hi (by omega) o2 o3], .inr ⟨by omega, h2⟩⟩)
  intro i j h1 h2 h3
  by_cases h4 : j < mid
  · exact il i j h1 h2 h4
  by_cases h5 : mid ≤ i
  · exact ir i j h5 h2 h3
  obtain ⟨x, ex, hx⟩ := ql i h1 (by omega)
  obtain ⟨y, ey, hy⟩ := qr j (by omega) h3
  rw [ex, ey]
  rcases hx with ⟨x1, x2⟩ | ⟨x1, x2⟩ <;> rcases hy with ⟨y1, y2⟩ | ⟨y1, y2⟩
  · exact hL x y x1 (by omega) y2
  · rcases low with h | h | h
    · omega
    · omega
    · have k1 := hL.le (i := x) (j := s - 1) x1 (by omega) (by omega)
      have k2 := hR.le (i := e) (j := y) (by omega) y1 y2
      omega
  · rcases high with h | h | h
    · omega
    · omega
    · have k1 := hR.le (i := x) (j := e - 1) x1 (by omega) (by omega)
      have k2 := hL.le (i := s) (j := y) (by omega) y1 y2
      omega
  · exact hR x y x1 (by omega) y2
/-- a single one on the left -/
theorem ins_left {K : α → Int} {a i b : Nat} {d d1 : Array α} (h1 : a + 1 ≤ i) (h2 : i ≤ b) (hR : Inc K (a + 1) b d) (hrot : ∀ x, d1[x]! = d[rot a (a + 1) i x]!)
    (low : i = a + 1 ∨ K d[i - 1]! < K d[a]!) (high : i = b ∨ K d[a]! < K d[i]!) : Inc K a b d1 := by
  refine sym_join (s := a) (m := a + 1) (e := i) (mid := a + (i - (a + 1))) (d := d) (d1 := d1) ⟨Nat.le_refl _, by omega, h1, h2, .inl rfl, by rcases low with h | h; exact .inl h; exact .inr (.inr h)⟩ rfl (fun x y _ _ _ => by omega) hR hrot (fun p h => h) (fun p h => h) ?_ ?_
  · intro x y x1 x2 x3
    rw [hrot, hrot, rot_r x1 (by omega), rot_r (by omega) x3]
    exact hR _ _ (by omega) (by omega) (by omega)
  · intro x y x1 x2 x3
    have ry : rot a (a + 1) i y = y := rot_hi (by omega) (by omega) h1
    by_cases hx : x < i
    · have rx : rot a (a + 1) i x = a := by rw [rot_l x1 hx]; omega
      rw [hrot, hrot, rx, ry]
      rcases high with h | h
      · omega
      · have := hR.le (i := i) (j := y) h1 (by omega) x3; omega
    · have rx : rot a (a + 1) i x = x := rot_hi (by omega) (by omega) h1
      rw [hrot, hrot, rx, ry]
      exact hR _ _ (by omega) x2 x3
/-- a single one on the right -/
theorem ins_right {K : α → Int} {a i m : Nat} {d d1 : Array α} (h1 : a ≤ i) (h2 : i ≤ m) (hL : Inc K a m d) (hrot : ∀ x, d1[x]! = d[rot i m (m + 1) x]!)
    (low : i = a ∨ K d[i - 1]! < K d[m]!) (high : i = m ∨ K d[m]! < K d[i]!) : Inc K a (m + 1) d1 := by
  refine sym_join (s := i) (m := m) (e := m + 1) (mid := i + (m + 1 - m)) (d := d) (d1 := d1) ⟨h1, h2, by omega, Nat.le_refl _, .inr (.inl rfl), by rcases high with h | h; exact .inr (.inl h); exact .inr (.inr h)⟩ rfl hL (fun x y _ _ _ => by omega) hrot (fun p h => h) (fun p h => h) ?_ ?_
  · intro x y x1 x2 x3
    have rx : rot i m (m + 1) x = x := rot_lo (by omega)
    by_cases hy : y < i
    · rw [hrot, hrot, rx, rot_lo hy]; exact hL _ _ x1 x2 (by omega)
    · have ry : rot i m (m + 1) y = m := by rw [rot_r (by omega) (by omega)]; omega
      rw [hrot, hrot, rx, ry]
      rcases low with h | h
      · omega
      · have := hL.le (i := x) (j := i - 1) x1 (by omega) (by omega); omega
  · intro x y x1 x2 x3
    rw [hrot, hrot, rot_l x1 (by omega), rot_l (by omega) x3]
    exact hL _ _ (by omega) (by omega) (by omega)
/-- What lies in the two parts behind the rotation. -/
structure Parts (cf : α → α → Int) (K : α → Int) (a s m e b mid : Nat) (d d1 : Array α) : Prop where
  cut : Cut K a s m e b d
  hmid : mid = s + (e - m)
  hL : Inc K a m d
  hR : Inc K m b d
  hX : ∀ i j, a ≤ i → i < m → m ≤ j → j < b → Cr cf K d[i]! d[j]!
  hrot : ∀ x, d1[x]! = d[rot s m e x]!
  size : d1.size = d.size
  perm : PermIn a b d d1
  hb : b ≤ d.size
variable {cf : α → α → Int} {K : α → Int} {a s m e b mid : Nat} {d d1 d2 d3 : Array α}
theorem Parts.l1 (P : Parts cf K a s m e b mid d d1) : Inc K a s d1 := fun i j h1 h2 h3 => by
  rw [P.hrot, P.hrot, rot_lo (by omega), rot_lo h3]; exact P.hL i j h1 h2 (by have := P.cut.o2; omega)
theorem Parts.l2 (P : Parts cf K a s m e b mid d d1) : Inc K s mid d1 := fun i j h1 h2 h3 => by
  have := P.hmid; have := P.cut.o2; have := P.cut.o3; have := P.cut.o4
  rw [P.hrot, P.hrot, rot_r h1 (by omega), rot_r (by omega) (by omega)]; exact P.hR _ _ (by omega) (by omega) (by omega)
theorem Parts.r1 (P : Parts cf K a s m e b mid d d1) : Inc K mid e d1 := fun i j h1 h2 h3 => by
  have := P.hmid; have := P.cut.o1; have := P.cut.o2; have := P.cut.o3
  rw [P.hrot, P.hrot, rot_l (by omega) (by omega), rot_l (by omega) h3]; exact P.hL _ _ (by omega) (by omega) (by omega)
theorem Parts.r2 (P : Parts cf K a s m e b mid d d1) : Inc K e b d1 := fun i j h1 h2 h3 => by
  rw [P.hrot, P.hrot, rot_hi h1 P.cut.o2 P.cut.o3, rot_hi (by omega) P.cut.o2 P.cut.o3]; exact P.hR _ _ (by have := P.cut.o3; omega) h2 h3
theorem Parts.lx (P : Parts cf K a s m e b mid d d1) : ∀ i j, a ≤ i → i < s → s ≤ j → j < mid → Cr cf K d1[i]! d1[j]! := fun i j h1 h2 h3 h4 => by
  have := P.hmid; have := P.cut.o2; have := P.cut.o3; have := P.cut.o4
  rw [P.hrot, P.hrot, rot_lo h2, rot_r h3 (by omega)]; exact P.hX _ _ h1 (by omega) (by omega) (by omega)
theorem Parts.rx (P : Parts cf K a s m e b mid d d1) : ∀ i j, mid ≤ i → i < e → e ≤ j → j < b → Cr cf K d1[i]! d1[j]! := fun i j h1 h2 h3 h4 => by
  have := P.hmid; have := P.cut.o1; have := P.cut.o2; have := P.cut.o3
  rw [P.hrot, P.hrot, rot_l (by omega) h2, rot_hi h3 P.cut.o2 P.cut.o3]; exact P.hX _ _ (by omega) (by omega) (by omega) h4
theorem Parts.left_none (P : Parts cf K a s m e b mid d d1) (h : ¬ (a < s ∧ s < mid)) : Inc K a mid d1 := by
  by_cases h1 : a < s
  · have : s = mid := by have := P.hmid; omega
    exact this ▸ P.l1
  · have : s = a := by have := P.cut.o1; omega
    exact this ▸ P.l2
theorem Parts.right_none (P : Parts cf K a s m e b mid d d1) (h : ¬ (mid < e ∧ e < b)) : Inc K mid b d1 := by
  by_cases h1 : mid < e
  · have : e = b := by have := P.cut.o4; omega
    exact this ▸ P.r1
  · have : e = mid := by have := P.hmid; have := P.cut.o2; have := P.cut.o3; omega
    exact this ▸ P.r2
theorem Parts.mid_le (P : Parts cf K a s m e b mid d d1) : a ≤ mid ∧ mid ≤ b := by
  have := P.hmid; have := P.cut.o1; have := P.cut.o2; have := P.cut.o3; have := P.cut.o4; omega
theorem Parts.right_of (P : Parts cf K a s m e b mid d d1) (P1 : PermIn a mid d1 d2) : (∀ i, mid ≤ i → d2[i]! = d1[i]!) ∧ Inc K mid e d2 ∧ Inc K e b d2 ∧ (∀ i j, mid ≤ i → i < e → e ≤ j → j < b → Cr cf K d2[i]! d2[j]!) ∧ (¬ (mid < e ∧ e < b) → Inc K mid b d2) := by
  have E : ∀ i, mid ≤ i → d2[i]! = d1[i]! := fun i h => P1.2.1 i (.inr h)
  have em : mid ≤ e := by have := P.hmid; have := P.cut.o2; have := P.cut.o3; omega
  refine ⟨E, P.r1.congr fun i h _ => E i h, P.r2.congr fun i h _ => E i (by omega), fun i j h1 h2 h3 h4 => ?_, fun h => (P.right_none h).congr fun i h _ => E i h⟩
  rw [E i h1, E j (by omega)]; exact P.rx i j h1 h2 h3 h4
theorem Parts.done (P : Parts cf K a s m e b mid d d1) (P1 : PermIn a mid d1 d2) (P2 : PermIn mid b d2 d3) (il : Inc K a mid d2) (ir : Inc K mid b d3) : d3.size = d.size ∧ PermIn a b d d3 ∧ Inc K a b d3 := by
  have ml := P.mid_le
  have s1 := P.size
  have hb := P.hb
  have s2 : d2.size = d1.size := P1.1
  have s3 : d3.size = d2.size := P2.1
  refine ⟨by omega, permIn_trans _ _ _ _ _ P.perm (permIn_trans _ _ _ _ _ (permIn_mono _ _ _ _ _ _ (Nat.le_refl _) ml.2 (by omega) P1) (permIn_mono _ _ _ _ _ _ ml.1 (Nat.le_refl _) (by omega) P2)), ?_⟩
  refine sym_join P.cut P.hmid P.hL P.hR P.hrot (fun p h i h1 h2 => ?_) (fun p h i h1 h2 => ?_) (il.congr fun i _ h => P2.2.1 i (.inl h)) ir
  · rw [P2.2.1 i (.inl h2)]
    exact permIn_all d1 d2 a mid p (by omega) P1 h i h1 h2
  · refine permIn_all d2 d3 mid b p (by omega) P2 (fun j h3 h4 => ?_) i h1 h2
    rw [P1.2.1 j (.inr h3)]; exact h j h3 h4
end Go.Proofs.YtkejohmghacdhaaDoor
/- slices' stable sort at the slice of parts: symMerge. Printed by mksym.py. -/
namespace Go.Proofs.YtkejohmghacdhaaDoor
set_option linter.unusedVariables false
set_option linter.unusedSimpArgs false
open Go Go.Shelf Go.RowKit Go.Lib Go.Sort
variable {α : Type} [Inhabited α]
set_option maxHeartbeats 8000000 in
set_option maxRecDepth 1000000 in
theorem symMerge_any (k : Nat) (aE : ∀ w, (isAgg 67).run Tryd.prog w = .ok true w) (zE : ∀ w, (Go.sizeOf 67).run Tryd.prog w = .ok k w) (enc : α → List Value) (cf : α → α → Int) (K : α → Int) (g : Nat) (cb : Array Value) (blk off cap : Nat) (d0 : Array α) (w0 : World)
    (eg : ∀ args w, (callFunc g args).run Tryd.prog w = .ok (.enter g args) w) (hcmp : CmpLays Tryd.prog g cb enc k cf blk off d0.size w0) (R : RowK enc k w0 blk off d0) (hsz : d0.size < 4611686018427387904) :
    ∀ (n a m b : Nat) (d : Array α) (w : World), b - a ≤ n → d0.size = d.size → SWK enc k w0 blk off d w → a < m → m < b → b ≤ d.size → Inc K a m d → Inc K m b d → (∀ i j, a ≤ i → i < m → m ≤ j → j < b → Cr cf K d[i]! d[j]!) →
    Calls Tryd.prog 86 #[.slice (some ⟨blk, off, none⟩) d.size cap, .int .i64 a, .int .i64 m, .int .i64 b, .func (.func g) #[] cb] w fun e w' => e = .returned (.tuple #[]) ∧ ∃ d', d'.size = d.size ∧ SWK enc k w0 blk off d' w' ∧ PermIn a b d d' ∧ Inc K a b d' := by
  have mixed : Tryd.prog.follows .mixedOrders = true := by kernel_rfl
  have HC : Aside (CmpLays Tryd.prog g cb enc k cf blk off d0.size w0) := hcmp
  clear hcmp
  intro n
  induction n with
  | zero => intro a m b d w h1 _ _ h2 h3; omega
  | succ n ih =>
    intro a m b d w hn hs S ham hmb hb hL hR hC
    have S0 : Aside (SWK enc k w0 blk off d w) := S
    have HL : Aside (Inc K a m d) := hL
    have HR : Aside (Inc K m b d) := hR
    have HX : Aside (∀ i j, a ≤ i → i < m → m ≤ j → j < b → Cr cf K d[i]! d[j]!) := hC
    have IH := Lib.hid ih
    clear S hL hR hC ih
    have w1 : IntKind.i64.wrap ((m : Int) - (a : Int)) = (m : Int) - (a : Int) := by rw [IntKind.wrap_i64]; omega
    have w2 : IntKind.i64.wrap ((b : Int) - (m : Int)) = (b : Int) - (m : Int) := by rw [IntKind.wrap_i64]; omega
    by_cases c1 : m = a + 1
    · subst c1
      have t1 : ((a : Int) + 1 - (a : Int) == 1) = true := by simp; omega
      go_enter Tryd.func86, Tryd.ntmps86
      go_wp2
      go_loopg [10, 11] (b - a) (fun kx s10 s11 wr => ∃ (i j : Nat), s10 = .int .i64 i ∧ s11 = .int .i64 j ∧ a + 1 ≤ i ∧ i ≤ j ∧ j ≤ b ∧ j - i ≤ kx ∧ Aside (SWK enc k w0 blk off d wr) ∧ Hid (i = a + 1 ∨ K d[i - 1]! < K d[a]!) ∧ Hid (j = b ∨ K d[a]! < K d[j]!))
      case atStart => exact ⟨a + 1, b, by first | rfl | simp, rfl, by omega, by omega, by omega, by omega, S0, Lib.hid (.inl rfl), Lib.hid (.inl rfl)⟩
      case round =>
        clear S0
        obtain ⟨i, j, rfl, rfl, hai, hij, hjb, hkx, S1, LO, HI⟩ := hrel
        by_cases hlt : i < j
        · have hltz : (i : Int) < (j : Int) := by omega
          obtain ⟨h, eh⟩ : ∃ h, (i + j) / 2 = h := ⟨_, rfl⟩
          have h1 : i ≤ h := by omega
          have h2 : h < j := by omega
          have r1 : IntKind.i64.wrap ((i : Int) + (j : Int)) = (i : Int) + (j : Int) := by rw [IntKind.wrap_i64]; omega
          have r2 : IntKind.u64.wrap ((i : Int) + (j : Int)) = (i : Int) + (j : Int) := by rw [IntKind.wrap_u64]; omega
          have r3 : ((i : Int) + (j : Int)) / 2 = (h : Int) := by omega
          have r4 : IntKind.i64.wrap ((h : Int) + 1) = (h : Int) + 1 := by rw [IntKind.wrap_i64]; omega
          clear eh
          have CR := Lib.hid (HX.out a h (Nat.le_refl _) (by omega) (by omega) (by omega))
          by_cases hv : cf d[h]! d[a]! < 0
          · have LO2 : Hid (h + 1 = a + 1 ∨ K d[h + 1 - 1]! < K d[a]!) := Lib.hid (.inr (CR.out.1.1 hv))
            have HV := Lib.hid hv
            clear hv CR
            have eas : ((h : Int)).toNat = h := by omega
            have pas : (0 : Int) ≤ (h : Int) := by omega
            have bas : (h : Int) < (d.size : Int) := by omega
            have ecs : ((a : Int)).toNat = a := by omega
            have pcs : (0 : Int) ≤ (a : Int) := by omega
            have bcs : (a : Int) < (d.size : Int) := by omega
            obtain ⟨xs, hxs⟩ : ∃ x, x = d[h]! := ⟨_, rfl⟩
            obtain ⟨ys, hys⟩ : ∃ x, x = d[a]! := ⟨_, rfl⟩
            have las := S1.out.ld R (by omega) Tryd.prog (h) (by omega)
            have lbs := S1.out.ld R (by omega) Tryd.prog (a) (by omega)
            rw [← hxs] at las
            rw [← hys] at lbs
            have hcs := S1.out.cmp HC.out (by omega) xs ys
            have hvs : cf xs ys < 0 := by rw [hxs, hys]; exact HV.out
            have hds : decide (cf xs ys < 0) = true := decide_eq_true hvs
            clear hxs hys
            go_wp2_with fail
            go_quiet_grown (first | (go_at_fn g; refine Calls.grown_of (hcs _ _)))
            have S2 : Aside (SWK enc k w0 blk off d (grow (wr.drewN nq) osq)) := S1.out.grown nq osq
            clear las lbs hcs S1
            generalize grow (wr.drewN nq) osq = wq at S2 ⊢
            clear nq osq
            go_wp2
            go_roundg (j - (h + 1))
            case measure => omega
            case rel => exact ⟨h + 1, j, by first | rfl | go_num | simp, rfl, by omega, by omega, hjb, Nat.le_refl _, S2, LO2, HI⟩
          · have HI2 : Hid (h = b ∨ K d[a]! < K d[h]!) := Lib.hid (.inr (by have k1 := CR.out.2; have k2 : ¬ K d[h]! < K d[a]! := fun h => hv (CR.out.1.2 h); omega))
            have HV := Lib.hid hv
            clear hv CR
            have eas : ((h : Int)).toNat = h := by omega
            have pas : (0 : Int) ≤ (h : Int) := by omega
            have bas : (h : Int) < (d.size : Int) := by omega
            have ecs : ((a : Int)).toNat = a := by omega
            have pcs : (0 : Int) ≤ (a : Int) := by omega
            have bcs : (a : Int) < (d.size : Int) := by omega
            obtain ⟨xs, hxs⟩ : ∃ x, x = d[h]! := ⟨_, rfl⟩
            obtain ⟨ys, hys⟩ : ∃ x, x = d[a]! := ⟨_, rfl⟩
            have las := S1.out.ld R (by omega) Tryd.prog (h) (by omega)
            have lbs := S1.out.ld R (by omega) Tryd.prog (a) (by omega)
            rw [← hxs] at las
            rw [← hys] at lbs
            have hcs := S1.out.cmp HC.out (by omega) xs ys
            have hvs : ¬ cf xs ys < 0 := by rw [hxs, hys]; exact HV.out
            have hds : decide (cf xs ys < 0) = false := decide_eq_false hvs
            clear hxs hys
            go_wp2_with fail
            go_quiet_grown (first | (go_at_fn g; refine Calls.grown_of (hcs _ _)))
            have S2 : Aside (SWK enc k w0 blk off d (grow (wr.drewN nq) osq)) := S1.out.grown nq osq
            clear las lbs hcs S1
            generalize grow (wr.drewN nq) osq = wq at S2 ⊢
            clear nq osq
            go_wp2
            go_roundg (h - i)
            case measure => omega
            case rel => exact ⟨i, h, rfl, by first | rfl | go_num | simp, hai, by omega, by omega, Nat.le_refl _, S2, LO, HI2⟩
        · obtain rfl : i = j := by omega
          have hltz : ¬ (i : Int) < (i : Int) := by omega
          have q1 : IntKind.i64.wrap ((i : Int) - 1) = (i : Int) - 1 := by rw [IntKind.wrap_i64]; omega
          go_wp2
          go_loopg [13] (i - a) (fun ky s13 wr2 => ∃ (kk : Nat) (dk : Array α), s13 = .int .i64 kk ∧ a ≤ kk ∧ kk + 1 ≤ i ∧ i - kk ≤ ky ∧ dk.size = d.size ∧ Aside (SWK enc k w0 blk off dk wr2) ∧ Aside (∀ x : Nat, dk[x]! = d[rot a (a + 1) (kk + 1) x]!) ∧ Aside (PermIn a b d dk))
          case atStart => exact ⟨a, d, rfl, Nat.le_refl _, by omega, by omega, rfl, S1, fun x => by rw [rot_nil_r _ _ _ (by omega)], permIn_refl _ _ _⟩
          case round =>
            clear S1
            obtain ⟨kk, dk, rfl, hak, hki, hky, hds, S1, HD, HP⟩ := hrel
            by_cases hk2 : kk + 1 < i
            · have hkz : (kk : Int) < (i : Int) - 1 := by omega
              have HD2 : Aside (∀ x : Nat, (swp dk kk (kk + 1))[x]! = d[rot a (a + 1) (kk + 1 + 1) x]!) := fun x => by rw [swp_at dk (by omega) (by omega) (by omega), HD.out, rot_up hak]
              have HP2 : Aside (PermIn a b d (swp dk kk (kk + 1))) := permIn_trans _ _ _ _ _ HP.out (swp_permIn dk a b _ _ (by omega) (by omega) (by omega) (by omega) (by omega))
              clear HD HP
              have eau : ((kk : Int)).toNat = kk := by omega
              have pau : (0 : Int) ≤ (kk : Int) := by omega
              have bau : (kk : Int) < (d.size : Int) := by omega
              have rau : IntKind.i64.wrap ((kk : Int)) = (kk : Int) := by rw [IntKind.wrap_i64]; omega
              have ecu : ((kk : Int) + 1).toNat = kk + 1 := by omega
              have pcu : (0 : Int) ≤ (kk : Int) + 1 := by omega
              have bcu : (kk : Int) + 1 < (d.size : Int) := by omega
              have rcu : IntKind.i64.wrap ((kk : Int) + 1) = (kk : Int) + 1 := by rw [IntKind.wrap_i64]; omega
              have S2 : Aside (SWK enc k w0 blk off (swp dk (kk) (kk + 1)) ((wr.drew.setCells blk (off + (kk) * k) (enc dk[kk + 1]!)).setCells blk (off + (kk + 1) * k) (enc dk[kk]!))) := S1.out.swapped R (kk) (kk + 1) (by omega) (by omega)
              have lau := S1.out.ld1 R (by omega) Tryd.prog (kk) (by omega)
              have lbu := S1.out.ld1 R (by omega) Tryd.prog (kk + 1) (by omega)
              have sau := S1.out.st1 R (by omega) Tryd.prog (kk) (by omega) dk[kk + 1]!
              have sbu := S1.out.st2 R (by omega) Tryd.prog (kk) (kk + 1) (by omega) (by omega) dk[kk + 1]! dk[kk]!
              have nau : (enc dk[kk]!).length = k := R.hk _
              have nbu : (enc dk[kk + 1]!).length = k := R.hk _
              generalize enc dk[kk]! = cI at S2 lau sbu nau
              generalize enc dk[kk + 1]! = cJ at S2 lbu sau sbu nbu
              clear S1
              go_wp2_with fail
              go_big_region_o
              clear lau lbu sau sbu
              generalize (wr.drew.setCells blk (off + (kk) * k) cJ).setCells blk (off + (kk + 1) * k) cI = wq at S2 ⊢
              go_wp2
              go_roundg (i - (kk + 1))
              case measure => omega
              case rel => exact ⟨kk + 1, swp dk kk (kk + 1), by first | rfl | go_num | simp, by omega, by omega, Nat.le_refl _, by rw [size_swp]; exact hds, S2, HD2, HP2⟩
            · have hkz : ¬ (kk : Int) < (i : Int) - 1 := by omega
              go_wp2
              refine bodyPost_ret (results_none rfl _ _ _) rfl ?_
              obtain rfl : i = kk + 1 := by omega
              exact ⟨rfl, dk, hds, S1.out, HP.out, ins_left hai hjb HR.out HD.out LO.out HI.out⟩
    by_cases c2 : b = m + 1
    · subst c2
      have t1 : ((m : Int) - (a : Int) == 1) = false := by simp; omega
      have t2 : ((m : Int) + 1 - (m : Int) == 1) = true := by simp; omega
      go_enter Tryd.func86, Tryd.ntmps86
      go_wp2
      go_loopg [14, 15] (m - a) (fun kx s10 s11 wr => ∃ (i j : Nat), s10 = .int .i64 i ∧ s11 = .int .i64 j ∧ a ≤ i ∧ i ≤ j ∧ j ≤ m ∧ j - i ≤ kx ∧ Aside (SWK enc k w0 blk off d wr) ∧ Hid (i = a ∨ K d[i - 1]! < K d[m]!) ∧ Hid (j = m ∨ K d[m]! < K d[j]!))
      case atStart => exact ⟨a, m, rfl, rfl, by omega, by omega, by omega, by omega, S0, Lib.hid (.inl rfl), Lib.hid (.inl rfl)⟩
      case round =>
        clear S0
        obtain ⟨i, j, rfl, rfl, hai, hij, hjb, hkx, S1, LO, HI⟩ := hrel
        by_cases hlt : i < j
        · have hltz : (i : Int) < (j : Int) := by omega
          obtain ⟨h, eh⟩ : ∃ h, (i + j) / 2 = h := ⟨_, rfl⟩
          have h1 : i ≤ h := by omega
          have h2 : h < j := by omega
          have r1 : IntKind.i64.wrap ((i : Int) + (j : Int)) = (i : Int) + (j : Int) := by rw [IntKind.wrap_i64]; omega
          have r2 : IntKind.u64.wrap ((i : Int) + (j : Int)) = (i : Int) + (j : Int) := by rw [IntKind.wrap_u64]; omega
          have r3 : ((i : Int) + (j : Int)) / 2 = (h : Int) := by omega
          have r4 : IntKind.i64.wrap ((h : Int) + 1) = (h : Int) + 1 := by rw [IntKind.wrap_i64]; omega
          clear eh
          have CR := Lib.hid (HX.out h m (by omega) (by omega) (Nat.le_refl _) (by omega))
          by_cases hv : cf d[m]! d[h]! < 0
          · have HI2 : Hid (h = m ∨ K d[m]! < K d[h]!) := Lib.hid (.inr (CR.out.1.1 hv))
            have HV := Lib.hid hv
            clear hv CR
            have eas : ((m : Int)).toNat = m := by omega
            have pas : (0 : Int) ≤ (m : Int) := by omega
            have bas : (m : Int) < (d.size : Int) := by omega
            have ecs : ((h : Int)).toNat = h := by omega
            have pcs : (0 : Int) ≤ (h : Int) := by omega
            have bcs : (h : Int) < (d.size : Int) := by omega
            obtain ⟨xs, hxs⟩ : ∃ x, x = d[m]! := ⟨_, rfl⟩
            obtain ⟨ys, hys⟩ : ∃ x, x = d[h]! := ⟨_, rfl⟩
            have las := S1.out.ld R (by omega) Tryd.prog (m) (by omega)
            have lbs := S1.out.ld R (by omega) Tryd.prog (h) (by omega)
            rw [← hxs] at las
            rw [← hys] at lbs
            have hcs := S1.out.cmp HC.out (by omega) xs ys
            have hvs : cf xs ys < 0 := by rw [hxs, hys]; exact HV.out
            have hds : decide (cf xs ys < 0) = true := decide_eq_true hvs
            clear hxs hys
            go_wp2_with fail
            go_quiet_grown (first | (go_at_fn g; refine Calls.grown_of (hcs _ _)))
            have S2 : Aside (SWK enc k w0 blk off d (grow (wr.drewN nq) osq)) := S1.out.grown nq osq
            clear las lbs hcs S1
            generalize grow (wr.drewN nq) osq = wq at S2 ⊢
            clear nq osq
            go_wp2
            go_roundg (h - i)
            case measure => omega
            case rel => exact ⟨i, h, rfl, by first | rfl | go_num | simp, hai, by omega, by omega, Nat.le_refl _, S2, LO, HI2⟩
          · have LO2 : Hid (h + 1 = a ∨ K d[h + 1 - 1]! < K d[m]!) := Lib.hid (.inr (by have k1 := CR.out.2; have k2 : ¬ K d[m]! < K d[h]! := fun h => hv (CR.out.1.2 h); rw [Nat.add_sub_cancel]; omega))
            have HV := Lib.hid hv
            clear hv CR
            have eas : ((m : Int)).toNat = m := by omega
            have pas : (0 : Int) ≤ (m : Int) := by omega
            have bas : (m : Int) < (d.size : Int) := by omega
            have ecs : ((h : Int)).toNat = h := by omega
            have pcs : (0 : Int) ≤ (h : Int) := by omega
            have bcs : (h : Int) < (d.size : Int) := by omega
            obtain ⟨xs, hxs⟩ : ∃ x, x = d[m]! := ⟨_, rfl⟩
            obtain ⟨ys, hys⟩ : ∃ x, x = d[h]! := ⟨_, rfl⟩
            have las := S1.out.ld R (by omega) Tryd.prog (m) (by omega)
            have lbs := S1.out.ld R (by omega) Tryd.prog (h) (by omega)
            rw [← hxs] at las
            rw [← hys] at lbs
            have hcs := S1.out.cmp HC.out (by omega) xs ys
            have hvs : ¬ cf xs ys < 0 := by rw [hxs, hys]; exact HV.out
            have hds : decide (cf xs ys < 0) = false := decide_eq_false hvs
            clear hxs hys
            go_wp2_with fail
            go_quiet_grown (first | (go_at_fn g; refine Calls.grown_of (hcs _ _)))
            have S2 : Aside (SWK enc k w0 blk off d (grow (wr.drewN nq) osq)) := S1.out.grown nq osq
            clear las lbs hcs S1
            generalize grow (wr.drewN nq) osq = wq at S2 ⊢
            clear nq osq
            go_wp2
            go_roundg (j - (h + 1))
            case measure => omega
            case rel => exact ⟨h + 1, j, by first | rfl | go_num | simp, rfl, by omega, by omega, hjb, Nat.le_refl _, S2, LO2, HI⟩
        · obtain rfl : i = j := by omega
          have hltz : ¬ (i : Int) < (i : Int) := by omega
          go_wp2
          go_loopg [17] (m - i) (fun ky s13 wr2 => ∃ (kk : Nat) (dk : Array α), s13 = .int .i64 kk ∧ i ≤ kk ∧ kk ≤ m ∧ kk - i ≤ ky ∧ dk.size = d.size ∧ Aside (SWK enc k w0 blk off dk wr2) ∧ Aside (∀ x : Nat, dk[x]! = d[rot kk m (m + 1) x]!) ∧ Aside (PermIn a (m + 1) d dk))
          case atStart => exact ⟨m, d, rfl, by omega, by omega, by omega, rfl, S1, fun x => by rw [rot_nil_l], permIn_refl _ _ _⟩
          case round =>
            clear S1
            obtain ⟨kk, dk, rfl, hak, hki, hky, hds, S1, HD, HP⟩ := hrel
            by_cases hk2 : i < kk
            · obtain ⟨k1, rfl⟩ : ∃ k1, kk = k1 + 1 := ⟨kk - 1, by omega⟩
              have hkz : (i : Int) < (k1 : Int) + 1 := by omega
              have kw : IntKind.i64.wrap (k1 : Int) = (k1 : Int) := by rw [IntKind.wrap_i64]; omega
              have HD2 : Aside (∀ x : Nat, (swp dk (k1 + 1) k1)[x]! = d[rot k1 m (m + 1) x]!) := fun x => by rw [swp_at dk (by omega) (by omega) (by omega), HD.out, rot_down hki]
              have HP2 : Aside (PermIn a (m + 1) d (swp dk (k1 + 1) k1)) := permIn_trans _ _ _ _ _ HP.out (swp_permIn dk a (m + 1) _ _ (by omega) (by omega) (by omega) (by omega) (by omega))
              clear HD HP
              have eau : ((k1 : Int) + 1).toNat = k1 + 1 := by omega
              have pau : (0 : Int) ≤ (k1 : Int) + 1 := by omega
              have bau : (k1 : Int) + 1 < (d.size : Int) := by omega
              have rau : IntKind.i64.wrap ((k1 : Int) + 1) = (k1 : Int) + 1 := by rw [IntKind.wrap_i64]; omega
              have ecu : ((k1 : Int)).toNat = k1 := by omega
              have pcu : (0 : Int) ≤ (k1 : Int) := by omega
              have bcu : (k1 : Int) < (d.size : Int) := by omega
              have rcu : IntKind.i64.wrap ((k1 : Int)) = (k1 : Int) := by rw [IntKind.wrap_i64]; omega
              have S2 : Aside (SWK enc k w0 blk off (swp dk (k1 + 1) (k1)) ((wr.drew.setCells blk (off + (k1 + 1) * k) (enc dk[k1]!)).setCells blk (off + (k1) * k) (enc dk[k1 + 1]!))) := S1.out.swapped R (k1 + 1) (k1) (by omega) (by omega)
              have lau := S1.out.ld1 R (by omega) Tryd.prog (k1 + 1) (by omega)
              have lbu := S1.out.ld1 R (by omega) Tryd.prog (k1) (by omega)
              have sau := S1.out.st1 R (by omega) Tryd.prog (k1 + 1) (by omega) dk[k1]!
              have sbu := S1.out.st2 R (by omega) Tryd.prog (k1 + 1) (k1) (by omega) (by omega) dk[k1]! dk[k1 + 1]!
              have nau : (enc dk[k1 + 1]!).length = k := R.hk _
              have nbu : (enc dk[k1]!).length = k := R.hk _
              generalize enc dk[k1 + 1]! = cI at S2 lau sbu nau
              generalize enc dk[k1]! = cJ at S2 lbu sau sbu nbu
              clear S1
              go_wp2_with fail
              go_big_region_o
              clear lau lbu sau sbu
              generalize (wr.drew.setCells blk (off + (k1 + 1) * k) cJ).setCells blk (off + (k1) * k) cI = wq at S2 ⊢
              go_wp2
              go_roundg (k1 - i)
              case measure => omega
              case rel => exact ⟨k1, swp dk (k1 + 1) k1, by first | rfl | go_num | simp, by omega, by omega, Nat.le_refl _, by rw [size_swp]; exact hds, S2, HD2, HP2⟩
            · have hkz : ¬ (i : Int) < (kk : Int) := by omega
              go_wp2
              refine bodyPost_ret (results_none rfl _ _ _) rfl ?_
              obtain rfl : i = kk := by omega
              exact ⟨rfl, dk, hds, S1.out, HP.out, ins_right hai hjb HL.out HD.out LO.out HI.out⟩
    · have t1 : ((m : Int) - (a : Int) == 1) = false := by simp; omega
      have t2 : ((b : Int) - (m : Int) == 1) = false := by simp; omega
      obtain ⟨mid, emid⟩ : ∃ x, (a + b) / 2 = x := ⟨_, rfl⟩
      obtain ⟨pn, epn⟩ : ∃ x, x + 1 = mid + m := ⟨mid + m - 1, by omega⟩
      have hm1 : a < mid := by omega
      have hm2 : mid < b := by omega
      have wab : IntKind.i64.wrap ((a : Int) + (b : Int)) = (a : Int) + (b : Int) := by rw [IntKind.wrap_i64]; omega
      have uab : IntKind.u64.wrap ((a : Int) + (b : Int)) = (a : Int) + (b : Int) := by rw [IntKind.wrap_u64]; omega
      have dab : ((a : Int) + (b : Int)) / 2 = (mid : Int) := by omega
      have wn : IntKind.i64.wrap ((mid : Int) + (m : Int)) = (mid : Int) + (m : Int) := by rw [IntKind.wrap_i64]; omega
      have wp : IntKind.i64.wrap ((mid : Int) + (m : Int) - 1) = (pn : Int) := by rw [IntKind.wrap_i64]; omega
      have dp : (mid : Int) + (m : Int) - 1 = (pn : Int) := by omega
      by_cases cA : mid < m
      · have tA : (mid : Int) < (m : Int) := by omega
        obtain ⟨s0, es0⟩ : ∃ x, x + b = mid + m := ⟨mid + m - b, by omega⟩
        have ws : IntKind.i64.wrap ((mid : Int) + (m : Int) - (b : Int)) = (s0 : Int) := by rw [IntKind.wrap_i64]; omega
        have ds : (mid : Int) + (m : Int) - (b : Int) = (s0 : Int) := by omega
        have f1 : a ≤ s0 := by omega
        have f2 : s0 ≤ mid := by omega
        clear emid
        go_enter Tryd.func86, Tryd.ntmps86
        go_wp2
        go_loopg [20, 21] (b - a) (fun kx s10 s11 wr => ∃ (s r : Nat), s10 = .int .i64 s ∧ s11 = .int .i64 r ∧ s0 ≤ s ∧ s ≤ r ∧ r ≤ mid ∧ r - s ≤ kx ∧ Aside (SWK enc k w0 blk off d wr) ∧ Hid (s = s0 ∨ K d[s - 1]! < K d[pn + 1 - s]!) ∧ Hid (r = mid ∨ K d[pn - r]! < K d[r]!))
        case atStart => exact ⟨s0, mid, rfl, rfl, Nat.le_refl _, by omega, Nat.le_refl _, by omega, S0, Lib.hid (.inl rfl), Lib.hid (.inl rfl)⟩
        case round =>
          clear S0
          obtain ⟨s, r, rfl, rfl, hsl, hsr, hrl, hkx, S1, LO, HI⟩ := hrel
          by_cases hlt : s < r
          · have hltz : (s : Int) < (r : Int) := by omega
            obtain ⟨h, eh⟩ : ∃ h, (s + r) / 2 = h := ⟨_, rfl⟩
            have h1 : s ≤ h := by omega
            have h2 : h < r := by omega
            obtain ⟨qn, eq⟩ : ∃ q, q + h = pn := ⟨pn - h, by omega⟩
            have r1 : IntKind.i64.wrap ((s : Int) + (r : Int)) = (s : Int) + (r : Int) := by rw [IntKind.wrap_i64]; omega
            have r2 : IntKind.u64.wrap ((s : Int) + (r : Int)) = (s : Int) + (r : Int) := by rw [IntKind.wrap_u64]; omega
            have r3 : ((s : Int) + (r : Int)) / 2 = (h : Int) := by omega
            have r4 : IntKind.i64.wrap ((h : Int) + 1) = (h : Int) + 1 := by rw [IntKind.wrap_i64]; omega
            have r5 : IntKind.i64.wrap ((pn : Int) - (h : Int)) = (qn : Int) := by rw [IntKind.wrap_i64]; omega
            have r6 : (pn : Int) - (h : Int) = (qn : Int) := by omega
            have r7 : IntKind.i64.wrap (qn : Int) = (qn : Int) := by rw [IntKind.wrap_i64]; omega
            have x1 : a ≤ h := by omega
            have x2 : h < m := by omega
            have x3 : m ≤ qn := by omega
            have x4 : qn < b := by omega
            have CR := Lib.hid (HX.out h qn x1 x2 x3 x4)
            by_cases hv : cf d[qn]! d[h]! < 0
            · have HI2 : Hid (h = mid ∨ K d[pn - h]! < K d[h]!) := Lib.hid (.inr (by rw [show pn - h = qn by omega]; exact CR.out.1.1 hv))
              have HV := Lib.hid hv
              clear hv CR eh
              have eas : ((qn : Int)).toNat = qn := by omega
              have pas : (0 : Int) ≤ (qn : Int) := by omega
              have bas : (qn : Int) < (d.size : Int) := by omega
              have ecs : ((h : Int)).toNat = h := by omega
              have pcs : (0 : Int) ≤ (h : Int) := by omega
              have bcs : (h : Int) < (d.size : Int) := by omega
              obtain ⟨xs, hxs⟩ : ∃ x, x = d[qn]! := ⟨_, rfl⟩
              obtain ⟨ys, hys⟩ : ∃ x, x = d[h]! := ⟨_, rfl⟩
              have las := S1.out.ld R (by omega) Tryd.prog (qn) (by omega)
              have lbs := S1.out.ld R (by omega) Tryd.prog (h) (by omega)
              rw [← hxs] at las
              rw [← hys] at lbs
              have hcs := S1.out.cmp HC.out (by omega) xs ys
              have hvs : cf xs ys < 0 := by rw [hxs, hys]; exact HV.out
              have hds : decide (cf xs ys < 0) = true := decide_eq_true hvs
              clear hxs hys
              go_wp2_with fail
              go_quiet_grown (first | (go_at_fn g; refine Calls.grown_of (hcs _ _)))
              have S2 : Aside (SWK enc k w0 blk off d (grow (wr.drewN nq) osq)) := S1.out.grown nq osq
              clear las lbs hcs S1
              generalize grow (wr.drewN nq) osq = wq at S2 ⊢
              clear nq osq
              go_wp2
              go_roundg (h - s)
              case measure => omega
              case rel => exact ⟨s, h, rfl, by first | rfl | go_num | simp, by omega, by omega, by omega, Nat.le_refl _, S2, LO, HI2⟩
            · have LO2 : Hid (h + 1 = s0 ∨ K d[h + 1 - 1]! < K d[pn + 1 - (h + 1)]!) := Lib.hid (.inr (by rw [show pn + 1 - (h + 1) = qn by omega, Nat.add_sub_cancel]; have k1 := CR.out.2; have k2 : ¬ K d[qn]! < K d[h]! := fun h => hv (CR.out.1.2 h); omega))
              have HV := Lib.hid hv
              clear hv CR eh
              have eas : ((qn : Int)).toNat = qn := by omega
              have pas : (0 : Int) ≤ (qn : Int) := by omega
              have bas : (qn : Int) < (d.size : Int) := by omega
              have ecs : ((h : Int)).toNat = h := by omega
              have pcs : (0 : Int) ≤ (h : Int) := by omega
              have bcs : (h : Int) < (d.size : Int) := by omega
              obtain ⟨xs, hxs⟩ : ∃ x, x = d[qn]! := ⟨_, rfl⟩
              obtain ⟨ys, hys⟩ : ∃ x, x = d[h]! := ⟨_, rfl⟩
              have las := S1.out.ld R (by omega) Tryd.prog (qn) (by omega)
              have lbs := S1.out.ld R (by omega) Tryd.prog (h) (by omega)
              rw [← hxs] at las
              rw [← hys] at lbs
              have hcs := S1.out.cmp HC.out (by omega) xs ys
              have hvs : ¬ cf xs ys < 0 := by rw [hxs, hys]; exact HV.out
              have hds : decide (cf xs ys < 0) = false := decide_eq_false hvs
              clear hxs hys
              go_wp2_with fail
              go_quiet_grown (first | (go_at_fn g; refine Calls.grown_of (hcs _ _)))
              have S2 : Aside (SWK enc k w0 blk off d (grow (wr.drewN nq) osq)) := S1.out.grown nq osq
              clear las lbs hcs S1
              generalize grow (wr.drewN nq) osq = wq at S2 ⊢
              clear nq osq
              go_wp2
              go_roundg (r - (h + 1))
              case measure => omega
              case rel => exact ⟨h + 1, r, by first | rfl | go_num | simp, rfl, by omega, by omega, hrl, Nat.le_refl _, S2, LO2, HI⟩
          · obtain rfl : s = r := by omega
            have hltz : ¬ (s : Int) < (s : Int) := by omega
            obtain ⟨e, ee⟩ : ∃ e, e + s = mid + m := ⟨mid + m - s, by omega⟩
            have we : IntKind.i64.wrap ((mid : Int) + (m : Int) - (s : Int)) = (e : Int) := by rw [IntKind.wrap_i64]; omega
            have de : (mid : Int) + (m : Int) - (s : Int) = (e : Int) := by omega
            have CU : Aside (Cut K a s m e b d) := ⟨by omega, by omega, by omega, by omega, by
              rcases LO.out with h | h
              · exact .inr (.inl (by omega))
              · exact .inr (.inr (by rw [show e = pn + 1 - s by omega]; exact h)), by
              rcases HI.out with h | h
              · exact .inl (by omega)
              · exact .inr (.inr (by rw [show e - 1 = pn - s by omega]; exact h))⟩
            have ema : mid ≤ e := by omega
            have sma : s ≤ mid := by omega
            clear LO HI hltz
            by_cases c3 : s < m
            · by_cases c4 : m < e
              · have z3 : (s : Int) < (m : Int) := by omega
                have z4 : (m : Int) < (e : Int) := by omega
                have C := rotate_any k aE zE enc (.func (.func g) #[] cb) blk off cap s m e d0 d w0 _ R hs S1.out c3 c4 (by omega) (by omega)
                go_wp2_with fail
                refine C.mono ?_
                rintro ex w2 ⟨rfl, d1, hd1, S2, hr, hp⟩
                have PP : Aside (Parts cf K a s m e b mid d d1) := ⟨CU.out, by omega, HL.out, HR.out, HX.out, hr, hd1, hp a b (by omega) (by omega) (by omega), hb⟩
                have S2 : Aside (SWK enc k w0 blk off d1 w2) := S2
                clear hr hp C S1
                by_cases c5 : a < s
                · by_cases c6 : s < mid
                  · have z5 : (a : Int) < (s : Int) := by omega
                    have z6 : (s : Int) < (mid : Int) := by omega
                    have C := IH.out a s mid d1 _ (by omega) (by omega) S2.out c5 c6 (by omega) PP.out.l1 PP.out.l2 PP.out.lx
                    rw [hd1] at C
                    go_wp2_with fail
                    refine C.mono ?_
                    rintro ex w3 ⟨rfl, d2, hd2, S3, p1, il⟩
                    have P1 : Aside (PermIn a mid d1 d2) := p1
                    have IL : Aside (Inc K a mid d2) := il
                    have S3 : Aside (SWK enc k w0 blk off d2 w3) := S3
                    clear p1 il C S2
                    obtain ⟨QE, q1, q2, q3, q4⟩ := PP.out.right_of P1.out
                    have Q := Lib.hid (And.intro q1 (And.intro q2 (And.intro q3 q4)))
                    clear QE q1 q2 q3 q4
                    by_cases c7 : mid < e
                    · by_cases c8 : e < b
                      · have z7 : (mid : Int) < (e : Int) := by omega
                        have z8 : (e : Int) < (b : Int) := by omega
                        have C := IH.out mid e b d2 _ (by omega) (by omega) S3.out c7 c8 (by omega) Q.out.1 Q.out.2.1 Q.out.2.2.1
                        rw [hd2] at C
                        go_wp2_with fail
                        refine C.mono ?_
                        rintro ex w4 ⟨rfl, d3, hd3, S4, p2, ir⟩
                        have P2 : Aside (PermIn mid b d2 d3) := p2
                        have IR : Aside (Inc K mid b d3) := ir
                        have S4 : Aside (SWK enc k w0 blk off d3 w4) := S4
                        clear p2 ir C S3
                        go_wp2
                        first | go_end0 | refine bodyPost_ret (results_none rfl _ _ _) rfl ?_
                        have D := PP.out.done P1.out P2.out IL.out IR.out
                        exact ⟨rfl, d3, D.1, S4.out, D.2.1, D.2.2⟩
                      · have z7 : (mid : Int) < (e : Int) := by omega
                        have z8 : ¬ (e : Int) < (b : Int) := by omega
                        have y8 : decide ((e : Int) < (b : Int)) = false := decide_eq_false z8
                        have P2 : Aside (PermIn mid b d2 d2) := permIn_refl _ _ _
                        have IR : Aside (Inc K mid b d2) := Q.out.2.2.2 (by omega)
                        go_wp2
                        first | go_end0 | refine bodyPost_ret (results_none rfl _ _ _) rfl ?_
                        have D := PP.out.done P1.out P2.out IL.out IR.out
                        exact ⟨rfl, d2, D.1, S3.out, D.2.1, D.2.2⟩
                    · have z7 : ¬ (mid : Int) < (e : Int) := by omega
                      have y7 : decide ((mid : Int) < (e : Int)) = false := decide_eq_false z7
                      have P2 : Aside (PermIn mid b d2 d2) := permIn_refl _ _ _
                      have IR : Aside (Inc K mid b d2) := Q.out.2.2.2 (by omega)
                      go_wp2
                      first | go_end0 | refine bodyPost_ret (results_none rfl _ _ _) rfl ?_
                      have D := PP.out.done P1.out P2.out IL.out IR.out
                      exact ⟨rfl, d2, D.1, S3.out, D.2.1, D.2.2⟩
                  · have z5 : (a : Int) < (s : Int) := by omega
                    have z6 : ¬ (s : Int) < (mid : Int) := by omega
                    have y6 : decide ((s : Int) < (mid : Int)) = false := decide_eq_false z6
                    have P1 : Aside (PermIn a mid d1 d1) := permIn_refl _ _ _
                    have IL : Aside (Inc K a mid d1) := PP.out.left_none (by omega)
                    have hd2 := hd1
                    obtain ⟨QE, q1, q2, q3, q4⟩ := PP.out.right_of P1.out
                    have Q := Lib.hid (And.intro q1 (And.intro q2 (And.intro q3 q4)))
                    clear QE q1 q2 q3 q4
                    by_cases c7 : mid < e
                    · by_cases c8 : e < b
                      · have z7 : (mid : Int) < (e : Int) := by omega
                        have z8 : (e : Int) < (b : Int) := by omega
                        have C := IH.out mid e b d1 _ (by omega) (by omega) S2.out c7 c8 (by omega) Q.out.1 Q.out.2.1 Q.out.2.2.1
                        rw [hd2] at C
                        go_wp2_with fail
                        refine C.mono ?_
                        rintro ex w4 ⟨rfl, d3, hd3, S4, p2, ir⟩
                        have P2 : Aside (PermIn mid b d1 d3) := p2
                        have IR : Aside (Inc K mid b d3) := ir
                        have S4 : Aside (SWK enc k w0 blk off d3 w4) := S4
                        clear p2 ir C S2
                        go_wp2
                        first | go_end0 | refine bodyPost_ret (results_none rfl _ _ _) rfl ?_
                        have D := PP.out.done P1.out P2.out IL.out IR.out
                        exact ⟨rfl, d3, D.1, S4.out, D.2.1, D.2.2⟩
                      · have z7 : (mid : Int) < (e : Int) := by omega
                        have z8 : ¬ (e : Int) < (b : Int) := by omega
                        have y8 : decide ((e : Int) < (b : Int)) = false := decide_eq_false z8
                        have P2 : Aside (PermIn mid b d1 d1) := permIn_refl _ _ _
                        have IR : Aside (Inc K mid b d1) := Q.out.2.2.2 (by omega)
                        go_wp2
                        first | go_end0 | refine bodyPost_ret (results_none rfl _ _ _) rfl ?_
                        have D := PP.out.done P1.out P2.out IL.out IR.out
                        exact ⟨rfl, d1, D.1, S2.out, D.2.1, D.2.2⟩
                    · have z7 : ¬ (mid : Int) < (e : Int) := by omega
                      have y7 : decide ((mid : Int) < (e : Int)) = false := decide_eq_false z7
                      have P2 : Aside (PermIn mid b d1 d1) := permIn_refl _ _ _
                      have IR : Aside (Inc K mid b d1) := Q.out.2.2.2 (by omega)
                      go_wp2
                      first | go_end0 | refine bodyPost_ret (results_none rfl _ _ _) rfl ?_
                      have D := PP.out.done P1.out P2.out IL.out IR.out
                      exact ⟨rfl, d1, D.1, S2.out, D.2.1, D.2.2⟩
                · have z5 : ¬ (a : Int) < (s : Int) := by omega
                  have y5 : decide ((a : Int) < (s : Int)) = false := decide_eq_false z5
                  have P1 : Aside (PermIn a mid d1 d1) := permIn_refl _ _ _
                  have IL : Aside (Inc K a mid d1) := PP.out.left_none (by omega)
                  have hd2 := hd1
                  obtain ⟨QE, q1, q2, q3, q4⟩ := PP.out.right_of P1.out
                  have Q := Lib.hid (And.intro q1 (And.intro q2 (And.intro q3 q4)))
                  clear QE q1 q2 q3 q4
                  by_cases c7 : mid < e
                  · by_cases c8 : e < b
                    · have z7 : (mid : Int) < (e : Int) := by omega
                      have z8 : (e : Int) < (b : Int) := by omega
                      have C := IH.out mid e b d1 _ (by omega) (by omega) S2.out c7 c8 (by omega) Q.out.1 Q.out.2.1 Q.out.2.2.1
                      rw [hd2] at C
                      go_wp2_with fail
                      refine C.mono ?_
                      rintro ex w4 ⟨rfl, d3, hd3, S4, p2, ir⟩
                      have P2 : Aside (PermIn mid b d1 d3) := p2
                      have IR : Aside (Inc K mid b d3) := ir
                      have S4 : Aside (SWK enc k w0 blk off d3 w4) := S4
                      clear p2 ir C S2
                      go_wp2
                      first | go_end0 | refine bodyPost_ret (results_none rfl _ _ _) rfl ?_
                      have D := PP.out.done P1.out P2.out IL.out IR.out
                      exact ⟨rfl, d3, D.1, S4.out, D.2.1, D.2.2⟩
                    · have z7 : (mid : Int) < (e : Int) := by omega
                      have z8 : ¬ (e : Int) < (b : Int) := by omega
                      have y8 : decide ((e : Int) < (b : Int)) = false := decide_eq_false z8
                      have P2 : Aside (PermIn mid b d1 d1) := permIn_refl _ _ _
                      have IR : Aside (Inc K mid b d1) := Q.out.2.2.2 (by omega)
                      go_wp2
                      first | go_end0 | refine bodyPost_ret (results_none rfl _ _ _) rfl ?_
                      have D := PP.out.done P1.out P2.out IL.out IR.out
                      exact ⟨rfl, d1, D.1, S2.out, D.2.1, D.2.2⟩
                  · have z7 : ¬ (mid : Int) < (e : Int) := by omega
                    have y7 : decide ((mid : Int) < (e : Int)) = false := decide_eq_false z7
                    have P2 : Aside (PermIn mid b d1 d1) := permIn_refl _ _ _
                    have IR : Aside (Inc K mid b d1) := Q.out.2.2.2 (by omega)
                    go_wp2
                    first | go_end0 | refine bodyPost_ret (results_none rfl _ _ _) rfl ?_
                    have D := PP.out.done P1.out P2.out IL.out IR.out
                    exact ⟨rfl, d1, D.1, S2.out, D.2.1, D.2.2⟩
              · have z3 : (s : Int) < (m : Int) := by omega
                have z4 : ¬ (m : Int) < (e : Int) := by omega
                have y4 : decide ((m : Int) < (e : Int)) = false := decide_eq_false z4
                have PP : Aside (Parts cf K a s m e b mid d d) := ⟨CU.out, by omega, HL.out, HR.out, HX.out, fun x => by rw [show e = m by omega, rot_nil_r _ _ _ (by omega)], rfl, permIn_refl _ _ _, hb⟩
                by_cases c5 : a < s
                · by_cases c6 : s < mid
                  · have z5 : (a : Int) < (s : Int) := by omega
                    have z6 : (s : Int) < (mid : Int) := by omega
                    have C := IH.out a s mid d _ (by omega) (by omega) S1.out c5 c6 (by omega) PP.out.l1 PP.out.l2 PP.out.lx
                    go_wp2_with fail
                    refine C.mono ?_
                    rintro ex w3 ⟨rfl, d2, hd2, S3, p1, il⟩
                    have P1 : Aside (PermIn a mid d d2) := p1
                    have IL : Aside (Inc K a mid d2) := il
                    have S3 : Aside (SWK enc k w0 blk off d2 w3) := S3
                    clear p1 il C S1
                    obtain ⟨QE, q1, q2, q3, q4⟩ := PP.out.right_of P1.out
                    have Q := Lib.hid (And.intro q1 (And.intro q2 (And.intro q3 q4)))
                    clear QE q1 q2 q3 q4
                    by_cases c7 : mid < e
                    · by_cases c8 : e < b
                      · have z7 : (mid : Int) < (e : Int) := by omega
                        have z8 : (e : Int) < (b : Int) := by omega
                        have C := IH.out mid e b d2 _ (by omega) (by omega) S3.out c7 c8 (by omega) Q.out.1 Q.out.2.1 Q.out.2.2.1
                        rw [hd2] at C
                        go_wp2_with fail
                        refine C.mono ?_
                        rintro ex w4 ⟨rfl, d3, hd3, S4, p2, ir⟩
                        have P2 : Aside (PermIn mid b d2 d3) := p2
                        have IR : Aside (Inc K mid b d3) := ir
                        have S4 : Aside (SWK enc k w0 blk off d3 w4) := S4
                        clear p2 ir C S3
                        go_wp2
                        first | go_end0 | refine bodyPost_ret (results_none rfl _ _ _) rfl ?_
                        have D := PP.out.done P1.out P2.out IL.out IR.out
                        exact ⟨rfl, d3, D.1, S4.out, D.2.1, D.2.2⟩
                      · have z7 : (mid : Int) < (e : Int) := by omega
                        have z8 : ¬ (e : Int) < (b : Int) := by omega
                        have y8 : decide ((e : Int) < (b : Int)) = false := decide_eq_false z8
                        have P2 : Aside (PermIn mid b d2 d2) := permIn_refl _ _ _
                        have IR : Aside (Inc K mid b d2) := Q.out.2.2.2 (by omega)
                        go_wp2
                        first | go_end0 | refine bodyPost_ret (results_none rfl _ _ _) rfl ?_
                        have D := PP.out.done P1.out P2.out IL.out IR.out
                        exact ⟨rfl, d2, D.1, S3.out, D.2.1, D.2.2⟩
                    · have z7 : ¬ (mid : Int) < (e : Int) := by omega
                      have y7 : decide ((mid : Int) < (e : Int)) = false := decide_eq_false z7
                      have P2 : Aside (PermIn mid b d2 d2) := permIn_refl _ _ _
                      have IR : Aside (Inc K mid b d2) := Q.out.2.2.2 (by omega)
                      go_wp2
                      first | go_end0 | refine bodyPost_ret (results_none rfl _ _ _) rfl ?_
                      have D := PP.out.done P1.out P2.out IL.out IR.out
                      exact ⟨rfl, d2, D.1, S3.out, D.2.1, D.2.2⟩
                  · have z5 : (a : Int) < (s : Int) := by omega
                    have z6 : ¬ (s : Int) < (mid : Int) := by omega
                    have y6 : decide ((s : Int) < (mid : Int)) = false := decide_eq_false z6
                    have P1 : Aside (PermIn a mid d d) := permIn_refl _ _ _
                    have IL : Aside (Inc K a mid d) := PP.out.left_none (by omega)
                    obtain ⟨QE, q1, q2, q3, q4⟩ := PP.out.right_of P1.out
                    have Q := Lib.hid (And.intro q1 (And.intro q2 (And.intro q3 q4)))
                    clear QE q1 q2 q3 q4
                    by_cases c7 : mid < e
                    · by_cases c8 : e < b
                      · have z7 : (mid : Int) < (e : Int) := by omega
                        have z8 : (e : Int) < (b : Int) := by omega
                        have C := IH.out mid e b d _ (by omega) (by omega) S1.out c7 c8 (by omega) Q.out.1 Q.out.2.1 Q.out.2.2.1
                        go_wp2_with fail
                        refine C.mono ?_
                        rintro ex w4 ⟨rfl, d3, hd3, S4, p2, ir⟩
                        have P2 : Aside (PermIn mid b d d3) := p2
                        have IR : Aside (Inc K mid b d3) := ir
                        have S4 : Aside (SWK enc k w0 blk off d3 w4) := S4
                        clear p2 ir C S1
                        go_wp2
                        first | go_end0 | refine bodyPost_ret (results_none rfl _ _ _) rfl ?_
                        have D := PP.out.done P1.out P2.out IL.out IR.out
                        exact ⟨rfl, d3, D.1, S4.out, D.2.1, D.2.2⟩
                      · have z7 : (mid : Int) < (e : Int) := by omega
                        have z8 : ¬ (e : Int) < (b : Int) := by omega
                        have y8 : decide ((e : Int) < (b : Int)) = false := decide_eq_false z8
                        have P2 : Aside (PermIn mid b d d) := permIn_refl _ _ _
                        have IR : Aside (Inc K mid b d) := Q.out.2.2.2 (by omega)
                        go_wp2
                        first | go_end0 | refine bodyPost_ret (results_none rfl _ _ _) rfl ?_
                        have D := PP.out.done P1.out P2.out IL.out IR.out
                        exact ⟨rfl, d, D.1, S1.out, D.2.1, D.2.2⟩
                    · have z7 : ¬ (mid : Int) < (e : Int) := by omega
                      have y7 : decide ((mid : Int) < (e : Int)) = false := decide_eq_false z7
                      have P2 : Aside (PermIn mid b d d) := permIn_refl _ _ _
                      have IR : Aside (Inc K mid b d) := Q.out.2.2.2 (by omega)
                      go_wp2
                      first | go_end0 | refine bodyPost_ret (results_none rfl _ _ _) rfl ?_
                      have D := PP.out.done P1.out P2.out IL.out IR.out
                      exact ⟨rfl, d, D.1, S1.out, D.2.1, D.2.2⟩
                · have z5 : ¬ (a : Int) < (s : Int) := by omega
                  have y5 : decide ((a : Int) < (s : Int)) = false := decide_eq_false z5
                  have P1 : Aside (PermIn a mid d d) := permIn_refl _ _ _
                  have IL : Aside (Inc K a mid d) := PP.out.left_none (by omega)
                  obtain ⟨QE, q1, q2, q3, q4⟩ := PP.out.right_of P1.out
                  have Q := Lib.hid (And.intro q1 (And.intro q2 (And.intro q3 q4)))
                  clear QE q1 q2 q3 q4
                  by_cases c7 : mid < e
                  · by_cases c8 : e < b
                    · have z7 : (mid : Int) < (e : Int) := by omega
                      have z8 : (e : Int) < (b : Int) := by omega
                      have C := IH.out mid e b d _ (by omega) (by omega) S1.out c7 c8 (by omega) Q.out.1 Q.out.2.1 Q.out.2.2.1
                      go_wp2_with fail
                      refine C.mono ?_
                      rintro ex w4 ⟨rfl, d3, hd3, S4, p2, ir⟩
                      have P2 : Aside (PermIn mid b d d3) := p2
                      have IR : Aside (Inc K mid b d3) := ir
                      have S4 : Aside (SWK enc k w0 blk off d3 w4) := S4
                      clear p2 ir C S1
                      go_wp2
                      first | go_end0 | refine bodyPost_ret (results_none rfl _ _ _) rfl ?_
                      have D := PP.out.done P1.out P2.out IL.out IR.out
                      exact ⟨rfl, d3, D.1, S4.out, D.2.1, D.2.2⟩
                    · have z7 : (mid : Int) < (e : Int) := by omega
                      have z8 : ¬ (e : Int) < (b : Int) := by omega
                      have y8 : decide ((e : Int) < (b : Int)) = false := decide_eq_false z8
                      have P2 : Aside (PermIn mid b d d) := permIn_refl _ _ _
                      have IR : Aside (Inc K mid b d) := Q.out.2.2.2 (by omega)
                      go_wp2
                      first | go_end0 | refine bodyPost_ret (results_none rfl _ _ _) rfl ?_
                      have D := PP.out.done P1.out P2.out IL.out IR.out
                      exact ⟨rfl, d, D.1, S1.out, D.2.1, D.2.2⟩
                  · have z7 : ¬ (mid : Int) < (e : Int) := by omega
                    have y7 : decide ((mid : Int) < (e : Int)) = false := decide_eq_false z7
                    have P2 : Aside (PermIn mid b d d) := permIn_refl _ _ _
                    have IR : Aside (Inc K mid b d) := Q.out.2.2.2 (by omega)
                    go_wp2
                    first | go_end0 | refine bodyPost_ret (results_none rfl _ _ _) rfl ?_
                    have D := PP.out.done P1.out P2.out IL.out IR.out
                    exact ⟨rfl, d, D.1, S1.out, D.2.1, D.2.2⟩
            · have z3 : ¬ (s : Int) < (m : Int) := by omega
              have y3 : decide ((s : Int) < (m : Int)) = false := decide_eq_false z3
              have PP : Aside (Parts cf K a s m e b mid d d) := ⟨CU.out, by omega, HL.out, HR.out, HX.out, fun x => by rw [show s = m by omega, rot_nil_l], rfl, permIn_refl _ _ _, hb⟩
              by_cases c5 : a < s
              · by_cases c6 : s < mid
                · have z5 : (a : Int) < (s : Int) := by omega
                  have z6 : (s : Int) < (mid : Int) := by omega
                  have C := IH.out a s mid d _ (by omega) (by omega) S1.out c5 c6 (by omega) PP.out.l1 PP.out.l2 PP.out.lx
                  go_wp2_with fail
                  refine C.mono ?_
                  rintro ex w3 ⟨rfl, d2, hd2, S3, p1, il⟩
                  have P1 : Aside (PermIn a mid d d2) := p1
                  have IL : Aside (Inc K a mid d2) := il
                  have S3 : Aside (SWK enc k w0 blk off d2 w3) := S3
                  clear p1 il C S1
                  obtain ⟨QE, q1, q2, q3, q4⟩ := PP.out.right_of P1.out
                  have Q := Lib.hid (And.intro q1 (And.intro q2 (And.intro q3 q4)))
                  clear QE q1 q2 q3 q4
                  by_cases c7 : mid < e
                  · by_cases c8 : e < b
                    · have z7 : (mid : Int) < (e : Int) := by omega
                      have z8 : (e : Int) < (b : Int) := by omega
                      have C := IH.out mid e b d2 _ (by omega) (by omega) S3.out c7 c8 (by omega) Q.out.1 Q.out.2.1 Q.out.2.2.1
                      rw [hd2] at C
                      go_wp2_with fail
                      refine C.mono ?_
                      rintro ex w4 ⟨rfl, d3, hd3, S4, p2, ir⟩
                      have P2 : Aside (PermIn mid b d2 d3) := p2
                      have IR : Aside (Inc K mid b d3) := ir
                      have S4 : Aside (SWK enc k w0 blk off d3 w4) := S4
                      clear p2 ir C S3
                      go_wp2
                      first | go_end0 | refine bodyPost_ret (results_none rfl _ _ _) rfl ?_
                      have D := PP.out.done P1.out P2.out IL.out IR.out
                      exact ⟨rfl, d3, D.1, S4.out, D.2.1, D.2.2⟩
                    · have z7 : (mid : Int) < (e : Int) := by omega
                      have z8 : ¬ (e : Int) < (b : Int) := by omega
                      have y8 : decide ((e : Int) < (b : Int)) = false := decide_eq_false z8
                      have P2 : Aside (PermIn mid b d2 d2) := permIn_refl _ _ _
                      have IR : Aside (Inc K mid b d2) := Q.out.2.2.2 (by omega)
                      go_wp2
                      first | go_end0 | refine bodyPost_ret (results_none rfl _ _ _) rfl ?_
                      have D := PP.out.done P1.out P2.out IL.out IR.out
                      exact ⟨rfl, d2, D.1, S3.out, D.2.1, D.2.2⟩
                  · have z7 : ¬ (mid : Int) < (e : Int) := by omega
                    have y7 : decide ((mid : Int) < (e : Int)) = false := decide_eq_false z7
                    have P2 : Aside (PermIn mid b d2 d2) := permIn_refl _ _ _
                    have IR : Aside (Inc K mid b d2) := Q.out.2.2.2 (by omega)
                    go_wp2
                    first | go_end0 | refine bodyPost_ret (results_none rfl _ _ _) rfl ?_
                    have D := PP.out.done P1.out P2.out IL.out IR.out
                    exact ⟨rfl, d2, D.1, S3.out, D.2.1, D.2.2⟩
                · have z5 : (a : Int) < (s : Int) := by omega
                  have z6 : ¬ (s : Int) < (mid : Int) := by omega
                  have y6 : decide ((s : Int) < (mid : Int)) = false := decide_eq_false z6
                  have P1 : Aside (PermIn a mid d d) := permIn_refl _ _ _
                  have IL : Aside (Inc K a mid d) := PP.out.left_none (by omega)
                  obtain ⟨QE, q1, q2, q3, q4⟩ := PP.out.right_of P1.out
                  have Q := Lib.hid (And.intro q1 (And.intro q2 (And.intro q3 q4)))
                  clear QE q1 q2 q3 q4
                  by_cases c7 : mid < e
                  · by_cases c8 : e < b
                    · have z7 : (mid : Int) < (e : Int) := by omega
                      have z8 : (e : Int) < (b : Int) := by omega
                      have C := IH.out mid e b d _ (by omega) (by omega) S1.out c7 c8 (by omega) Q.out.1 Q.out.2.1 Q.out.2.2.1
                      go_wp2_with fail
                      refine C.mono ?_
                      rintro ex w4 ⟨rfl, d3, hd3, S4, p2, ir⟩
                      have P2 : Aside (PermIn mid b d d3) := p2
                      have IR : Aside (Inc K mid b d3) := ir
                      have S4 : Aside (SWK enc k w0 blk off d3 w4) := S4
                      clear p2 ir C S1
                      go_wp2
                      first | go_end0 | refine bodyPost_ret (results_none rfl _ _ _) rfl ?_
                      have D := PP.out.done P1.out P2.out IL.out IR.out
                      exact ⟨rfl, d3, D.1, S4.out, D.2.1, D.2.2⟩
                    · have z7 : (mid : Int) < (e : Int) := by omega
                      have z8 : ¬ (e : Int) < (b : Int) := by omega
                      have y8 : decide ((e : Int) < (b : Int)) = false := decide_eq_false z8
                      have P2 : Aside (PermIn mid b d d) := permIn_refl _ _ _
                      have IR : Aside (Inc K mid b d) := Q.out.2.2.2 (by omega)
                      go_wp2
                      first | go_end0 | refine bodyPost_ret (results_none rfl _ _ _) rfl ?_
                      have D := PP.out.done P1.out P2.out IL.out IR.out
                      exact ⟨rfl, d, D.1, S1.out, D.2.1, D.2.2⟩
                  · have z7 : ¬ (mid : Int) < (e : Int) := by omega
                    have y7 : decide ((mid : Int) < (e : Int)) = false := decide_eq_false z7
                    have P2 : Aside (PermIn mid b d d) := permIn_refl _ _ _
                    have IR : Aside (Inc K mid b d) := Q.out.2.2.2 (by omega)
                    go_wp2
                    first | go_end0 | refine bodyPost_ret (results_none rfl _ _ _) rfl ?_
                    have D := PP.out.done P1.out P2.out IL.out IR.out
                    exact ⟨rfl, d, D.1, S1.out, D.2.1, D.2.2⟩
              · have z5 : ¬ (a : Int) < (s : Int) := by omega
                have y5 : decide ((a : Int) < (s : Int)) = false := decide_eq_false z5
                have P1 : Aside (PermIn a mid d d) := permIn_refl _ _ _
                have IL : Aside (Inc K a mid d) := PP.out.left_none (by omega)
                obtain ⟨QE, q1, q2, q3, q4⟩ := PP.out.right_of P1.out
                have Q := Lib.hid (And.intro q1 (And.intro q2 (And.intro q3 q4)))
                clear QE q1 q2 q3 q4
                by_cases c7 : mid < e
                · by_cases c8 : e < b
                  · have z7 : (mid : Int) < (e : Int) := by omega
                    have z8 : (e : Int) < (b : Int) := by omega
                    have C := IH.out mid e b d _ (by omega) (by omega) S1.out c7 c8 (by omega) Q.out.1 Q.out.2.1 Q.out.2.2.1
                    go_wp2_with fail
                    refine C.mono ?_
                    rintro ex w4 ⟨rfl, d3, hd3, S4, p2, ir⟩
                    have P2 : Aside (PermIn mid b d d3) := p2
                    have IR : Aside (Inc K mid b d3) := ir
                    have S4 : Aside (SWK enc k w0 blk off d3 w4) := S4
                    clear p2 ir C S1
                    go_wp2
                    first | go_end0 | refine bodyPost_ret (results_none rfl _ _ _) rfl ?_
                    have D := PP.out.done P1.out P2.out IL.out IR.out
                    exact ⟨rfl, d3, D.1, S4.out, D.2.1, D.2.2⟩
                  · have z7 : (mid : Int) < (e : Int) := by omega
                    have z8 : ¬ (e : Int) < (b : Int) := by omega
                    have y8 : decide ((e : Int) < (b : Int)) = false := decide_eq_false z8
                    have P2 : Aside (PermIn mid b d d) := permIn_refl _ _ _
                    have IR : Aside (Inc K mid b d) := Q.out.2.2.2 (by omega)
                    go_wp2
                    first | go_end0 | refine bodyPost_ret (results_none rfl _ _ _) rfl ?_
                    have D := PP.out.done P1.out P2.out IL.out IR.out
                    exact ⟨rfl, d, D.1, S1.out, D.2.1, D.2.2⟩
                · have z7 : ¬ (mid : Int) < (e : Int) := by omega
                  have y7 : decide ((mid : Int) < (e : Int)) = false := decide_eq_false z7
                  have P2 : Aside (PermIn mid b d d) := permIn_refl _ _ _
                  have IR : Aside (Inc K mid b d) := Q.out.2.2.2 (by omega)
                  go_wp2
                  first | go_end0 | refine bodyPost_ret (results_none rfl _ _ _) rfl ?_
                  have D := PP.out.done P1.out P2.out IL.out IR.out
                  exact ⟨rfl, d, D.1, S1.out, D.2.1, D.2.2⟩
      · have tA : ¬ (mid : Int) < (m : Int) := by omega
        have f1 : m ≤ mid := by omega
        have f2 : mid + m ≤ a + b := by omega
        clear emid
        go_enter Tryd.func86, Tryd.ntmps86
        go_wp2
        go_loopg [20, 21] (b - a) (fun kx s10 s11 wr => ∃ (s r : Nat), s10 = .int .i64 s ∧ s11 = .int .i64 r ∧ a ≤ s ∧ s ≤ r ∧ r ≤ m ∧ r - s ≤ kx ∧ Aside (SWK enc k w0 blk off d wr) ∧ Hid (s = a ∨ K d[s - 1]! < K d[pn + 1 - s]!) ∧ Hid (r = m ∨ K d[pn - r]! < K d[r]!))
        case atStart => exact ⟨a, m, rfl, rfl, Nat.le_refl _, by omega, Nat.le_refl _, by omega, S0, Lib.hid (.inl rfl), Lib.hid (.inl rfl)⟩
        case round =>
          clear S0
          obtain ⟨s, r, rfl, rfl, hsl, hsr, hrl, hkx, S1, LO, HI⟩ := hrel
          by_cases hlt : s < r
          · have hltz : (s : Int) < (r : Int) := by omega
            obtain ⟨h, eh⟩ : ∃ h, (s + r) / 2 = h := ⟨_, rfl⟩
            have h1 : s ≤ h := by omega
            have h2 : h < r := by omega
            obtain ⟨qn, eq⟩ : ∃ q, q + h = pn := ⟨pn - h, by omega⟩
            have r1 : IntKind.i64.wrap ((s : Int) + (r : Int)) = (s : Int) + (r : Int) := by rw [IntKind.wrap_i64]; omega
            have r2 : IntKind.u64.wrap ((s : Int) + (r : Int)) = (s : Int) + (r : Int) := by rw [IntKind.wrap_u64]; omega
            have r3 : ((s : Int) + (r : Int)) / 2 = (h : Int) := by omega
            have r4 : IntKind.i64.wrap ((h : Int) + 1) = (h : Int) + 1 := by rw [IntKind.wrap_i64]; omega
            have r5 : IntKind.i64.wrap ((pn : Int) - (h : Int)) = (qn : Int) := by rw [IntKind.wrap_i64]; omega
            have r6 : (pn : Int) - (h : Int) = (qn : Int) := by omega
            have r7 : IntKind.i64.wrap (qn : Int) = (qn : Int) := by rw [IntKind.wrap_i64]; omega
            have x1 : a ≤ h := by omega
            have x2 : h < m := by omega
            have x3 : m ≤ qn := by omega
            have x4 : qn < b := by omega
            have CR := Lib.hid (HX.out h qn x1 x2 x3 x4)
            by_cases hv : cf d[qn]! d[h]! < 0
            · have HI2 : Hid (h = m ∨ K d[pn - h]! < K d[h]!) := Lib.hid (.inr (by rw [show pn - h = qn by omega]; exact CR.out.1.1 hv))
              have HV := Lib.hid hv
              clear hv CR eh
              have eas : ((qn : Int)).toNat = qn := by omega
              have pas : (0 : Int) ≤ (qn : Int) := by omega
              have bas : (qn : Int) < (d.size : Int) := by omega
              have ecs : ((h : Int)).toNat = h := by omega
              have pcs : (0 : Int) ≤ (h : Int) := by omega
              have bcs : (h : Int) < (d.size : Int) := by omega
              obtain ⟨xs, hxs⟩ : ∃ x, x = d[qn]! := ⟨_, rfl⟩
              obtain ⟨ys, hys⟩ : ∃ x, x = d[h]! := ⟨_, rfl⟩
              have las := S1.out.ld R (by omega) Tryd.prog (qn) (by omega)
              have lbs := S1.out.ld R (by omega) Tryd.prog (h) (by omega)
              rw [← hxs] at las
              rw [← hys] at lbs
              have hcs := S1.out.cmp HC.out (by omega) xs ys
              have hvs : cf xs ys < 0 := by rw [hxs, hys]; exact HV.out
              have hds : decide (cf xs ys < 0) = true := decide_eq_true hvs
              clear hxs hys
              go_wp2_with fail
              go_quiet_grown (first | (go_at_fn g; refine Calls.grown_of (hcs _ _)))
              have S2 : Aside (SWK enc k w0 blk off d (grow (wr.drewN nq) osq)) := S1.out.grown nq osq
              clear las lbs hcs S1
              generalize grow (wr.drewN nq) osq = wq at S2 ⊢
              clear nq osq
              go_wp2
              go_roundg (h - s)
              case measure => omega
              case rel => exact ⟨s, h, rfl, by first | rfl | go_num | simp, by omega, by omega, by omega, Nat.le_refl _, S2, LO, HI2⟩
            · have LO2 : Hid (h + 1 = a ∨ K d[h + 1 - 1]! < K d[pn + 1 - (h + 1)]!) := Lib.hid (.inr (by rw [show pn + 1 - (h + 1) = qn by omega, Nat.add_sub_cancel]; have k1 := CR.out.2; have k2 : ¬ K d[qn]! < K d[h]! := fun h => hv (CR.out.1.2 h); omega))
              have HV := Lib.hid hv
              clear hv CR eh
              have eas : ((qn : Int)).toNat = qn := by omega
              have pas : (0 : Int) ≤ (qn : Int) := by omega
              have bas : (qn : Int) < (d.size : Int) := by omega
              have ecs : ((h : Int)).toNat = h := by omega
              have pcs : (0 : Int) ≤ (h : Int) := by omega
              have bcs : (h : Int) < (d.size : Int) := by omega
              obtain ⟨xs, hxs⟩ : ∃ x, x = d[qn]! := ⟨_, rfl⟩
              obtain ⟨ys, hys⟩ : ∃ x, x = d[h]! := ⟨_, rfl⟩
              have las := S1.out.ld R (by omega) Tryd.prog (qn) (by omega)
              have lbs := S1.out.ld R (by omega) Tryd.prog (h) (by omega)
              rw [← hxs] at las
              rw [← hys] at lbs
              have hcs := S1.out.cmp HC.out (by omega) xs ys
              have hvs : ¬ cf xs ys < 0 := by rw [hxs, hys]; exact HV.out
              have hds : decide (cf xs ys < 0) = false := decide_eq_false hvs
              clear hxs hys
              go_wp2_with fail
              go_quiet_grown (first | (go_at_fn g; refine Calls.grown_of (hcs _ _)))
              have S2 : Aside (SWK enc k w0 blk off d (grow (wr.drewN nq) osq)) := S1.out.grown nq osq
              clear las lbs hcs S1
              generalize grow (wr.drewN nq) osq = wq at S2 ⊢
              clear nq osq
              go_wp2
              go_roundg (r - (h + 1))
              case measure => omega
              case rel => exact ⟨h + 1, r, by first | rfl | go_num | simp, rfl, by omega, by omega, hrl, Nat.le_refl _, S2, LO2, HI⟩
          · obtain rfl : s = r := by omega
            have hltz : ¬ (s : Int) < (s : Int) := by omega
            obtain ⟨e, ee⟩ : ∃ e, e + s = mid + m := ⟨mid + m - s, by omega⟩
            have we : IntKind.i64.wrap ((mid : Int) + (m : Int) - (s : Int)) = (e : Int) := by rw [IntKind.wrap_i64]; omega
            have de : (mid : Int) + (m : Int) - (s : Int) = (e : Int) := by omega
            have CU : Aside (Cut K a s m e b d) := ⟨by omega, by omega, by omega, by omega, by
              rcases LO.out with h | h
              · exact .inl h
              · exact .inr (.inr (by rw [show e = pn + 1 - s by omega]; exact h)), by
              rcases HI.out with h | h
              · exact .inr (.inl h)
              · exact .inr (.inr (by rw [show e - 1 = pn - s by omega]; exact h))⟩
            have ema : mid ≤ e := by omega
            have sma : s ≤ mid := by omega
            clear LO HI hltz
            by_cases c3 : s < m
            · by_cases c4 : m < e
              · have z3 : (s : Int) < (m : Int) := by omega
                have z4 : (m : Int) < (e : Int) := by omega
                have C := rotate_any k aE zE enc (.func (.func g) #[] cb) blk off cap s m e d0 d w0 _ R hs S1.out c3 c4 (by omega) (by omega)
                go_wp2_with fail
                refine C.mono ?_
                rintro ex w2 ⟨rfl, d1, hd1, S2, hr, hp⟩
                have PP : Aside (Parts cf K a s m e b mid d d1) := ⟨CU.out, by omega, HL.out, HR.out, HX.out, hr, hd1, hp a b (by omega) (by omega) (by omega), hb⟩
                have S2 : Aside (SWK enc k w0 blk off d1 w2) := S2
                clear hr hp C S1
                by_cases c5 : a < s
                · by_cases c6 : s < mid
                  · have z5 : (a : Int) < (s : Int) := by omega
                    have z6 : (s : Int) < (mid : Int) := by omega
                    have C := IH.out a s mid d1 _ (by omega) (by omega) S2.out c5 c6 (by omega) PP.out.l1 PP.out.l2 PP.out.lx
                    rw [hd1] at C
                    go_wp2_with fail
                    refine C.mono ?_
                    rintro ex w3 ⟨rfl, d2, hd2, S3, p1, il⟩
                    have P1 : Aside (PermIn a mid d1 d2) := p1
                    have IL : Aside (Inc K a mid d2) := il
                    have S3 : Aside (SWK enc k w0 blk off d2 w3) := S3
                    clear p1 il C S2
                    obtain ⟨QE, q1, q2, q3, q4⟩ := PP.out.right_of P1.out
                    have Q := Lib.hid (And.intro q1 (And.intro q2 (And.intro q3 q4)))
                    clear QE q1 q2 q3 q4
                    by_cases c7 : mid < e
                    · by_cases c8 : e < b
                      · have z7 : (mid : Int) < (e : Int) := by omega
                        have z8 : (e : Int) < (b : Int) := by omega
                        have C := IH.out mid e b d2 _ (by omega) (by omega) S3.out c7 c8 (by omega) Q.out.1 Q.out.2.1 Q.out.2.2.1
                        rw [hd2] at C
                        go_wp2_with fail
                        refine C.mono ?_
                        rintro ex w4 ⟨rfl, d3, hd3, S4, p2, ir⟩
                        have P2 : Aside (PermIn mid b d2 d3) := p2
                        have IR : Aside (Inc K mid b d3) := ir
                        have S4 : Aside (SWK enc k w0 blk off d3 w4) := S4
                        clear p2 ir C S3
                        go_wp2
                        first | go_end0 | refine bodyPost_ret (results_none rfl _ _ _) rfl ?_
                        have D := PP.out.done P1.out P2.out IL.out IR.out
                        exact ⟨rfl, d3, D.1, S4.out, D.2.1, D.2.2⟩
                      · have z7 : (mid : Int) < (e : Int) := by omega
                        have z8 : ¬ (e : Int) < (b : Int) := by omega
                        have y8 : decide ((e : Int) < (b : Int)) = false := decide_eq_false z8
                        have P2 : Aside (PermIn mid b d2 d2) := permIn_refl _ _ _
                        have IR : Aside (Inc K mid b d2) := Q.out.2.2.2 (by omega)
                        go_wp2
                        first | go_end0 | refine bodyPost_ret (results_none rfl _ _ _) rfl ?_
                        have D := PP.out.done P1.out P2.out IL.out IR.out
                        exact ⟨rfl, d2, D.1, S3.out, D.2.1, D.2.2⟩
                    · have z7 : ¬ (mid : Int) < (e : Int) := by omega
                      have y7 : decide ((mid : Int) < (e : Int)) = false := decide_eq_false z7
                      have P2 : Aside (PermIn mid b d2 d2) := permIn_refl _ _ _
                      have IR : Aside (Inc K mid b d2) := Q.out.2.2.2 (by omega)
                      go_wp2
                      first | go_end0 | refine bodyPost_ret (results_none rfl _ _ _) rfl ?_
                      have D := PP.out.done P1.out P2.out IL.out IR.out
                      exact ⟨rfl, d2, D.1, S3.out, D.2.1, D.2.2⟩
                  · have z5 : (a : Int) < (s : Int) := by omega
                    have z6 : ¬ (s : Int) < (mid : Int) := by omega
                    have y6 : decide ((s : Int) < (mid : Int)) = false := decide_eq_false z6
                    have P1 : Aside (PermIn a mid d1 d1) := permIn_refl _ _ _
                    have IL : Aside (Inc K a mid d1) := PP.out.left_none (by omega)
                    have hd2 := hd1
                    obtain ⟨QE, q1, q2, q3, q4⟩ := PP.out.right_of P1.out
                    have Q := Lib.hid (And.intro q1 (And.intro q2 (And.intro q3 q4)))
                    clear QE q1 q2 q3 q4
                    by_cases c7 : mid < e
                    · by_cases c8 : e < b
                      · have z7 : (mid : Int) < (e : Int) := by omega
                        have z8 : (e : Int) < (b : Int) := by omega
                        have C := IH.out mid e b d1 _ (by omega) (by omega) S2.out c7 c8 (by omega) Q.out.1 Q.out.2.1 Q.out.2.2.1
                        rw [hd2] at C
                        go_wp2_with fail
                        refine C.mono ?_
                        rintro ex w4 ⟨rfl, d3, hd3, S4, p2, ir⟩
                        have P2 : Aside (PermIn mid b d1 d3) := p2
                        have IR : Aside (Inc K mid b d3) := ir
                        have S4 : Aside (SWK enc k w0 blk off d3 w4) := S4
                        clear p2 ir C S2
                        go_wp2
                        first | go_end0 | refine bodyPost_ret (results_none rfl _ _ _) rfl ?_
                        have D := PP.out.done P1.out P2.out IL.out IR.out
                        exact ⟨rfl, d3, D.1, S4.out, D.2.1, D.2.2⟩
                      · have z7 : (mid : Int) < (e : Int) := by omega
                        have z8 : ¬ (e : Int) < (b : Int) := by omega
                        have y8 : decide ((e : Int) < (b : Int)) = false := decide_eq_false z8
                        have P2 : Aside (PermIn mid b d1 d1) := permIn_refl _ _ _
                        have IR : Aside (Inc K mid b d1) := Q.out.2.2.2 (by omega)
                        go_wp2
                        first | go_end0 | refine bodyPost_ret (results_none rfl _ _ _) rfl ?_
                        have D := PP.out.done P1.out P2.out IL.out IR.out
                        exact ⟨rfl, d1, D.1, S2.out, D.2.1, D.2.2⟩
                    · have z7 : ¬ (mid : Int) < (e : Int) := by omega
                      have y7 : decide ((mid : Int) < (e : Int)) = false := decide_eq_false z7
                      have P2 : Aside (PermIn mid b d1 d1) := permIn_refl _ _ _
                      have IR : Aside (Inc K mid b d1) := Q.out.2.2.2 (by omega)
                      go_wp2
                      first | go_end0 | refine bodyPost_ret (results_none rfl _ _ _) rfl ?_
                      have D := PP.out.done P1.out P2.out IL.out IR.out
                      exact ⟨rfl, d1, D.1, S2.out, D.2.1, D.2.2⟩
                · have z5 : ¬ (a : Int) < (s : Int) := by omega
                  have y5 : decide ((a : Int) < (s : Int)) = false := decide_eq_false z5
                  have P1 : Aside (PermIn a mid d1 d1) := permIn_refl _ _ _
                  have IL : Aside (Inc K a mid d1) := PP.out.left_none (by omega)
                  have hd2 := hd1
                  obtain ⟨QE, q1, q2, q3, q4⟩ := PP.out.right_of P1.out
                  have Q := Lib.hid (And.intro q1 (And.intro q2 (And.intro q3 q4)))
                  clear QE q1 q2 q3 q4
                  by_cases c7 : mid < e
                  · by_cases c8 : e < b
                    · have z7 : (mid : Int) < (e : Int) := by omega
                      have z8 : (e : Int) < (b : Int) := by omega
                      have C := IH.out mid e b d1 _ (by omega) (by omega) S2.out c7 c8 (by omega) Q.out.1 Q.out.2.1 Q.out.2.2.1
                      rw [hd2] at C
                      go_wp2_with fail
                      refine C.mono ?_
                      rintro ex w4 ⟨rfl, d3, hd3, S4, p2, ir⟩
                      have P2 : Aside (PermIn mid b d1 d3) := p2
                      have IR : Aside (Inc K mid b d3) := ir
                      have S4 : Aside (SWK enc k w0 blk off d3 w4) := S4
                      clear p2 ir C S2
                      go_wp2
                      first | go_end0 | refine bodyPost_ret (results_none rfl _ _ _) rfl ?_
                      have D := PP.out.done P1.out P2.out IL.out IR.out
                      exact ⟨rfl, d3, D.1, S4.out, D.2.1, D.2.2⟩
                    · have z7 : (mid : Int) < (e : Int) := by omega
                      have z8 : ¬ (e : Int) < (b : Int) := by omega
                      have y8 : decide ((e : Int) < (b : Int)) = false := decide_eq_false z8
                      have P2 : Aside (PermIn mid b d1 d1) := permIn_refl _ _ _
                      have IR : Aside (Inc K mid b d1) := Q.out.2.2.2 (by omega)
                      go_wp2
                      first | go_end0 | refine bodyPost_ret (results_none rfl _ _ _) rfl ?_
                      have D := PP.out.done P1.out P2.out IL.out IR.out
                      exact ⟨rfl, d1, D.1, S2.out, D.2.1, D.2.2⟩
                  · have z7 : ¬ (mid : Int) < (e : Int) := by omega
                    have y7 : decide ((mid : Int) < (e : Int)) = false := decide_eq_false z7
                    have P2 : Aside (PermIn mid b d1 d1) := permIn_refl _ _ _
                    have IR : Aside (Inc K mid b d1) := Q.out.2.2.2 (by omega)
                    go_wp2
                    first | go_end0 | refine bodyPost_ret (results_none rfl _ _ _) rfl ?_
                    have D := PP.out.done P1.out P2.out IL.out IR.out
                    exact ⟨rfl, d1, D.1, S2.out, D.2.1, D.2.2⟩
              · have z3 : (s : Int) < (m : Int) := by omega
                have z4 : ¬ (m : Int) < (e : Int) := by omega
                have y4 : decide ((m : Int) < (e : Int)) = false := decide_eq_false z4
                have PP : Aside (Parts cf K a s m e b mid d d) := ⟨CU.out, by omega, HL.out, HR.out, HX.out, fun x => by rw [show e = m by omega, rot_nil_r _ _ _ (by omega)], rfl, permIn_refl _ _ _, hb⟩
                by_cases c5 : a < s
                · by_cases c6 : s < mid
                  · have z5 : (a : Int) < (s : Int) := by omega
                    have z6 : (s : Int) < (mid : Int) := by omega
                    have C := IH.out a s mid d _ (by omega) (by omega) S1.out c5 c6 (by omega) PP.out.l1 PP.out.l2 PP.out.lx
                    go_wp2_with fail
                    refine C.mono ?_
                    rintro ex w3 ⟨rfl, d2, hd2, S3, p1, il⟩
                    have P1 : Aside (PermIn a mid d d2) := p1
                    have IL : Aside (Inc K a mid d2) := il
                    have S3 : Aside (SWK enc k w0 blk off d2 w3) := S3
                    clear p1 il C S1
                    obtain ⟨QE, q1, q2, q3, q4⟩ := PP.out.right_of P1.out
                    have Q := Lib.hid (And.intro q1 (And.intro q2 (And.intro q3 q4)))
                    clear QE q1 q2 q3 q4
                    by_cases c7 : mid < e
                    · by_cases c8 : e < b
                      · have z7 : (mid : Int) < (e : Int) := by omega
                        have z8 : (e : Int) < (b : Int) := by omega
                        have C := IH.out mid e b d2 _ (by omega) (by omega) S3.out c7 c8 (by omega) Q.out.1 Q.out.2.1 Q.out.2.2.1
                        rw [hd2] at C
                        go_wp2_with fail
                        refine C.mono ?_
                        rintro ex w4 ⟨rfl, d3, hd3, S4, p2, ir⟩
                        have P2 : Aside (PermIn mid b d2 d3) := p2
                        have IR : Aside (Inc K mid b d3) := ir
                        have S4 : Aside (SWK enc k w0 blk off d3 w4) := S4
                        clear p2 ir C S3
                        go_wp2
                        first | go_end0 | refine bodyPost_ret (results_none rfl _ _ _) rfl ?_
                        have D := PP.out.done P1.out P2.out IL.out IR.out
                        exact ⟨rfl, d3, D.1, S4.out, D.2.1, D.2.2⟩
                      · have z7 : (mid : Int) < (e : Int) := by omega
                        have z8 : ¬ (e : Int) < (b : Int) := by omega
                        have y8 : decide ((e : Int) < (b : Int)) = false := decide_eq_false z8
                        have P2 : Aside (PermIn mid b d2 d2) := permIn_refl _ _ _
                        have IR : Aside (Inc K mid b d2) := Q.out.2.2.2 (by omega)
                        go_wp2
                        first | go_end0 | refine bodyPost_ret (results_none rfl _ _ _) rfl ?_
                        have D := PP.out.done P1.out P2.out IL.out IR.out
                        exact ⟨rfl, d2, D.1, S3.out, D.2.1, D.2.2⟩
                    · have z7 : ¬ (mid : Int) < (e : Int) := by omega
                      have y7 : decide ((mid : Int) < (e : Int)) = false := decide_eq_false z7
                      have P2 : Aside (PermIn mid b d2 d2) := permIn_refl _ _ _
                      have IR : Aside (Inc K mid b d2) := Q.out.2.2.2 (by omega)
                      go_wp2
                      first | go_end0 | refine bodyPost_ret (results_none rfl _ _ _) rfl ?_
                      have D := PP.out.done P1.out P2.out IL.out IR.out
                      exact ⟨rfl, d2, D.1, S3.out, D.2.1, D.2.2⟩
                  · have z5 : (a : Int) < (s : Int) := by omega
                    have z6 : ¬ (s : Int) < (mid : Int) := by omega
                    have y6 : decide ((s : Int) < (mid : Int)) = false := decide_eq_false z6
                    have P1 : Aside (PermIn a mid d d) := permIn_refl _ _ _
                    have IL : Aside (Inc K a mid d) := PP.out.left_none (by omega)
                    obtain ⟨QE, q1, q2, q3, q4⟩ := PP.out.right_of P1.out
                    have Q := Lib.hid (And.intro q1 (And.intro q2 (And.intro q3 q4)))
                    clear QE q1 q2 q3 q4
                    by_cases c7 : mid < e
                    · by_cases c8 : e < b
                      · have z7 : (mid : Int) < (e : Int) := by omega
                        have z8 : (e : Int) < (b : Int) := by omega
                        have C := IH.out mid e b d _ (by omega) (by omega) S1.out c7 c8 (by omega) Q.out.1 Q.out.2.1 Q.out.2.2.1
                        go_wp2_with fail
                        refine C.mono ?_
                        rintro ex w4 ⟨rfl, d3, hd3, S4, p2, ir⟩
                        have P2 : Aside (PermIn mid b d d3) := p2
                        have IR : Aside (Inc K mid b d3) := ir
                        have S4 : Aside (SWK enc k w0 blk off d3 w4) := S4
                        clear p2 ir C S1
                        go_wp2
                        first | go_end0 | refine bodyPost_ret (results_none rfl _ _ _) rfl ?_
                        have D := PP.out.done P1.out P2.out IL.out IR.out
                        exact ⟨rfl, d3, D.1, S4.out, D.2.1, D.2.2⟩
                      · have z7 : (mid : Int) < (e : Int) := by omega
                        have z8 : ¬ (e : Int) < (b : Int) := by omega
                        have y8 : decide ((e : Int) < (b : Int)) = false := decide_eq_false z8
                        have P2 : Aside (PermIn mid b d d) := permIn_refl _ _ _
                        have IR : Aside (Inc K mid b d) := Q.out.2.2.2 (by omega)
                        go_wp2
                        first | go_end0 | refine bodyPost_ret (results_none rfl _ _ _) rfl ?_
                        have D := PP.out.done P1.out P2.out IL.out IR.out
                        exact ⟨rfl, d, D.1, S1.out, D.2.1, D.2.2⟩
                    · have z7 : ¬ (mid : Int) < (e : Int) := by omega
                      have y7 : decide ((mid : Int) < (e : Int)) = false := decide_eq_false z7
                      have P2 : Aside (PermIn mid b d d) := permIn_refl _ _ _
                      have IR : Aside (Inc K mid b d) := Q.out.2.2.2 (by omega)
                      go_wp2
                      first | go_end0 | refine bodyPost_ret (results_none rfl _ _ _) rfl ?_
                      have D := PP.out.done P1.out P2.out IL.out IR.out
                      exact ⟨rfl, d, D.1, S1.out, D.2.1, D.2.2⟩
                · have z5 : ¬ (a : Int) < (s : Int) := by omega
                  have y5 : decide ((a : Int) < (s : Int)) = false := decide_eq_false z5
                  have P1 : Aside (PermIn a mid d d) := permIn_refl _ _ _
                  have IL : Aside (Inc K a mid d) := PP.out.left_none (by omega)
                  obtain ⟨QE, q1, q2, q3, q4⟩ := PP.out.right_of P1.out
                  have Q := Lib.hid (And.intro q1 (And.intro q2 (And.intro q3 q4)))
                  clear QE q1 q2 q3 q4
                  by_cases c7 : mid < e
                  · by_cases c8 : e < b
                    · have z7 : (mid : Int) < (e : Int) := by omega
                      have z8 : (e : Int) < (b : Int) := by omega
                      have C := IH.out mid e b d _ (by omega) (by omega) S1.out c7 c8 (by omega) Q.out.1 Q.out.2.1 Q.out.2.2.1
                      go_wp2_with fail
                      refine C.mono ?_
                      rintro ex w4 ⟨rfl, d3, hd3, S4, p2, ir⟩
                      have P2 : Aside (PermIn mid b d d3) := p2
                      have IR : Aside (Inc K mid b d3) := ir
                      have S4 : Aside (SWK enc k w0 blk off d3 w4) := S4
                      clear p2 ir C S1
                      go_wp2
                      first | go_end0 | refine bodyPost_ret (results_none rfl _ _ _) rfl ?_
                      have D := PP.out.done P1.out P2.out IL.out IR.out
                      exact ⟨rfl, d3, D.1, S4.out, D.2.1, D.2.2⟩
                    · have z7 : (mid : Int) < (e : Int) := by omega
                      have z8 : ¬ (e : Int) < (b : Int) := by omega
                      have y8 : decide ((e : Int) < (b : Int)) = false := decide_eq_false z8
                      have P2 : Aside (PermIn mid b d d) := permIn_refl _ _ _
                      have IR : Aside (Inc K mid b d) := Q.out.2.2.2 (by omega)
                      go_wp2
                      first | go_end0 | refine bodyPost_ret (results_none rfl _ _ _) rfl ?_
                      have D := PP.out.done P1.out P2.out IL.out IR.out
                      exact ⟨rfl, d, D.1, S1.out, D.2.1, D.2.2⟩
                  · have z7 : ¬ (mid : Int) < (e : Int) := by omega
                    have y7 : decide ((mid : Int) < (e : Int)) = false := decide_eq_false z7
                    have P2 : Aside (PermIn mid b d d) := permIn_refl _ _ _
                    have IR : Aside (Inc K mid b d) := Q.out.2.2.2 (by omega)
                    go_wp2
                    first | go_end0 | refine bodyPost_ret (results_none rfl _ _ _) rfl ?_
                    have D := PP.out.done P1.out P2.out IL.out IR.out
                    exact ⟨rfl, d, D.1, S1.out, D.2.1, D.2.2⟩
            · have z3 : ¬ (s : Int) < (m : Int) := by omega
              have y3 : decide ((s : Int) < (m : Int)) = false := decide_eq_false z3
              have PP : Aside (Parts cf K a s m e b mid d d) := ⟨CU.out, by omega, HL.out, HR.out, HX.out, fun x => by rw [show s = m by omega, rot_nil_l], rfl, permIn_refl _ _ _, hb⟩
              by_cases c5 : a < s
              · by_cases c6 : s < mid
                · have z5 : (a : Int) < (s : Int) := by omega
                  have z6 : (s : Int) < (mid : Int) := by omega
                  have C := IH.out a s mid d _ (by omega) (by omega) S1.out c5 c6 (by omega) PP.out.l1 PP.out.l2 PP.out.lx
                  go_wp2_with fail
                  refine C.mono ?_
                  rintro ex w3 ⟨rfl, d2, hd2, S3, p1, il⟩
                  have P1 : Aside (PermIn a mid d d2) := p1
                  have IL : Aside (Inc K a mid d2) := il
                  have S3 : Aside (SWK enc k w0 blk off d2 w3) := S3
                  clear p1 il C S1
                  obtain ⟨QE, q1, q2, q3, q4⟩ := PP.out.right_of P1.out
                  have Q := Lib.hid (And.intro q1 (And.intro q2 (And.intro q3 q4)))
                  clear QE q1 q2 q3 q4
                  by_cases c7 : mid < e
                  · by_cases c8 : e < b
                    · have z7 : (mid : Int) < (e : Int) := by omega
                      have z8 : (e : Int) < (b : Int) := by omega
                      have C := IH.out mid e b d2 _ (by omega) (by omega) S3.out c7 c8 (by omega) Q.out.1 Q.out.2.1 Q.out.2.2.1
                      rw [hd2] at C
                      go_wp2_with fail
                      refine C.mono ?_
                      rintro ex w4 ⟨rfl, d3, hd3, S4, p2, ir⟩
                      have P2 : Aside (PermIn mid b d2 d3) := p2
                      have IR : Aside (Inc K mid b d3) := ir
                      have S4 : Aside (SWK enc k w0 blk off d3 w4) := S4
                      clear p2 ir C S3
                      go_wp2
                      first | go_end0 | refine bodyPost_ret (results_none rfl _ _ _) rfl ?_
                      have D := PP.out.done P1.out P2.out IL.out IR.out
                      exact ⟨rfl, d3, D.1, S4.out, D.2.1, D.2.2⟩
                    · have z7 : (mid : Int) < (e : Int) := by omega
                      have z8 : ¬ (e : Int) < (b : Int) := by omega
                      have y8 : decide ((e : Int) < (b : Int)) = false := decide_eq_false z8
                      have P2 : Aside (PermIn mid b d2 d2) := permIn_refl _ _ _
                      have IR : Aside (Inc K mid b d2) := Q.out.2.2.2 (by omega)
                      go_wp2
                      first | go_end0 | refine bodyPost_ret (results_none rfl _ _ _) rfl ?_
                      have D := PP.out.done P1.out P2.out IL.out IR.out
                      exact ⟨rfl, d2, D.1, S3.out, D.2.1, D.2.2⟩
                  · have z7 : ¬ (mid : Int) < (e : Int) := by omega
                    have y7 : decide ((mid : Int) < (e : Int)) = false := decide_eq_false z7
                    have P2 : Aside (PermIn mid b d2 d2) := permIn_refl _ _ _
                    have IR : Aside (Inc K mid b d2) := Q.out.2.2.2 (by omega)
                    go_wp2
                    first | go_end0 | refine bodyPost_ret (results_none rfl _ _ _) rfl ?_
                    have D := PP.out.done P1.out P2.out IL.out IR.out
                    exact ⟨rfl, d2, D.1, S3.out, D.2.1, D.2.2⟩
                · have z5 : (a : Int) < (s : Int) := by omega
                  have z6 : ¬ (s : Int) < (mid : Int) := by omega
                  have y6 : decide ((s : Int) < (mid : Int)) = false := decide_eq_false z6
                  have P1 : Aside (PermIn a mid d d) := permIn_refl _ _ _
                  have IL : Aside (Inc K a mid d) := PP.out.left_none (by omega)
                  obtain ⟨QE, q1, q2, q3, q4⟩ := PP.out.right_of P1.out
                  have Q := Lib.hid (And.intro q1 (And.intro q2 (And.intro q3 q4)))
                  clear QE q1 q2 q3 q4
                  by_cases c7 : mid < e
                  · by_cases c8 : e < b
                    · have z7 : (mid : Int) < (e : Int) := by omega
                      have z8 : (e : Int) < (b : Int) := by omega
                      have C := IH.out mid e b d _ (by omega) (by omega) S1.out c7 c8 (by omega) Q.out.1 Q.out.2.1 Q.out.2.2.1
                      go_wp2_with fail
                      refine C.mono ?_
                      rintro ex w4 ⟨rfl, d3, hd3, S4, p2, ir⟩
                      have P2 : Aside (PermIn mid b d d3) := p2
                      have IR : Aside (Inc K mid b d3) := ir
                      have S4 : Aside (SWK enc k w0 blk off d3 w4) := S4
                      clear p2 ir C S1
                      go_wp2
                      first | go_end0 | refine bodyPost_ret (results_none rfl _ _ _) rfl ?_
                      have D := PP.out.done P1.out P2.out IL.out IR.out
                      exact ⟨rfl, d3, D.1, S4.out, D.2.1, D.2.2⟩
                    · have z7 : (mid : Int) < (e : Int) := by omega
                      have z8 : ¬ (e : Int) < (b : Int) := by omega
                      have y8 : decide ((e : Int) < (b : Int)) = false := decide_eq_false z8
                      have P2 : Aside (PermIn mid b d d) := permIn_refl _ _ _
                      have IR : Aside (Inc K mid b d) := Q.out.2.2.2 (by omega)
                      go_wp2
                      first | go_end0 | refine bodyPost_ret (results_none rfl _ _ _) rfl ?_
                      have D := PP.out.done P1.out P2.out IL.out IR.out
                      exact ⟨rfl, d, D.1, S1.out, D.2.1, D.2.2⟩
                  · have z7 : ¬ (mid : Int) < (e : Int) := by omega
                    have y7 : decide ((mid : Int) < (e : Int)) = false := decide_eq_false z7
                    have P2 : Aside (PermIn mid b d d) := permIn_refl _ _ _
                    have IR : Aside (Inc K mid b d) := Q.out.2.2.2 (by omega)
                    go_wp2
                    first | go_end0 | refine bodyPost_ret (results_none rfl _ _ _) rfl ?_
                    have D := PP.out.done P1.out P2.out IL.out IR.out
                    exact ⟨rfl, d, D.1, S1.out, D.2.1, D.2.2⟩
              · have z5 : ¬ (a : Int) < (s : Int) := by omega
                have y5 : decide ((a : Int) < (s : Int)) = false := decide_eq_false z5
                have P1 : Aside (PermIn a mid d d) := permIn_refl _ _ _
                have IL : Aside (Inc K a mid d) := PP.out.left_none (by omega)
                obtain ⟨QE, q1, q2, q3, q4⟩ := PP.out.right_of P1.out
                have Q := Lib.hid (And.intro q1 (And.intro q2 (And.intro q3 q4)))
                clear QE q1 q2 q3 q4
                by_cases c7 : mid < e
                · by_cases c8 : e < b
                  · have z7 : (mid : Int) < (e : Int) := by omega
                    have z8 : (e : Int) < (b : Int) := by omega
                    have C := IH.out mid e b d _ (by omega) (by omega) S1.out c7 c8 (by omega) Q.out.1 Q.out.2.1 Q.out.2.2.1
                    go_wp2_with fail
                    refine C.mono ?_
                    rintro ex w4 ⟨rfl, d3, hd3, S4, p2, ir⟩
                    have P2 : Aside (PermIn mid b d d3) := p2
                    have IR : Aside (Inc K mid b d3) := ir
                    have S4 : Aside (SWK enc k w0 blk off d3 w4) := S4
                    clear p2 ir C S1
                    go_wp2
                    first | go_end0 | refine bodyPost_ret (results_none rfl _ _ _) rfl ?_
                    have D := PP.out.done P1.out P2.out IL.out IR.out
                    exact ⟨rfl, d3, D.1, S4.out, D.2.1, D.2.2⟩
                  · have z7 : (mid : Int) < (e : Int) := by omega
                    have z8 : ¬ (e : Int) < (b : Int) := by omega
                    have y8 : decide ((e : Int) < (b : Int)) = false := decide_eq_false z8
                    have P2 : Aside (PermIn mid b d d) := permIn_refl _ _ _
                    have IR : Aside (Inc K mid b d) := Q.out.2.2.2 (by omega)
                    go_wp2
                    first | go_end0 | refine bodyPost_ret (results_none rfl _ _ _) rfl ?_
                    have D := PP.out.done P1.out P2.out IL.out IR.out
                    exact ⟨rfl, d, D.1, S1.out, D.2.1, D.2.2⟩
                · have z7 : ¬ (mid : Int) < (e : Int) := by omega
                  have y7 : decide ((mid : Int) < (e : Int)) = false := decide_eq_false z7
                  have P2 : Aside (PermIn mid b d d) := permIn_refl _ _ _
                  have IR : Aside (Inc K mid b d) := Q.out.2.2.2 (by omega)
                  go_wp2
                  first | go_end0 | refine bodyPost_ret (results_none rfl _ _ _) rfl ?_
                  have D := PP.out.done P1.out P2.out IL.out IR.out
                  exact ⟨rfl, d, D.1, S1.out, D.2.1, D.2.2⟩
end Go.Proofs.YtkejohmghacdhaaDoor
/- slices' stable sort at the slice of parts: insertionSort. -/
namespace Go.Proofs.YtkejohmghacdhaaDoor
set_option linter.unusedVariables false
set_option linter.unusedSimpArgs false
open Go Go.Shelf Go.RowKit Go.Lib Go.Sort
variable {α : Type} [Inhabited α]
/-- Inside the inner loop: what moves lies at j. -/
structure InsS (cf : α → α → Int) (K : α → Int) (a i j : Nat) (d dj : Array α) : Prop where
  perm : PermIn a (i + 1) d dj
  rest : ∀ p q, a ≤ p → p < q → q ≤ i → p ≠ j → q ≠ j → K dj[p]! < K dj[q]!
  right : ∀ q, j < q → q ≤ i → K dj[j]! < K dj[q]!
  cross : ∀ q, a ≤ q → q ≤ i → q ≠ j → Cr cf K dj[q]! dj[j]!
theorem InsS.start {cf : α → α → Int} {K : α → Int} {a i : Nat} {d dk : Array α} (hi : i < d.size) (hX : ∀ x y, a ≤ x → x < y → y ≤ i → Cr cf K d[x]! d[y]!) (P : PermIn a i d dk) (hI : Inc K a i dk) (ha : a ≤ i) : InsS cf K a i i d dk := by
  refine ⟨permIn_mono _ _ _ _ _ _ (Nat.le_refl _) (Nat.le_succ _) hi P, fun p q h1 h2 h3 _ h5 => hI p q h1 h2 (by omega), fun q h1 h2 => by omega, fun q h1 h2 h3 => ?_⟩
  have e : dk[i]! = d[i]! := P.2.1 i (.inr (Nat.le_refl _))
  rw [e]
  exact permIn_all d dk a i (fun x => Cr cf K x d[i]!) (by omega) P (fun x h4 h5 => hX x i h4 h5 (Nat.le_refl _)) q h1 (by omega)
theorem InsS.step {cf : α → α → Int} {K : α → Int} {a i j : Nat} {d dj : Array α} (S : InsS cf K a i (j + 1) d dj) (hi : i < d.size) (ha : a ≤ j) (hj : j + 1 ≤ i) (hc : cf dj[j + 1]! dj[j]! < 0) : InsS cf K a i j d (swp dj (j + 1) j) := by
  have hsz : dj.size = d.size := S.perm.1
  have g := fun k => swp_get dj (i := j + 1) (j := j) (by omega) (by omega) k
  have hlt : K dj[j + 1]! < K dj[j]! := (S.cross j ha (by omega) (by omega)).1.1 hc
  refine ⟨permIn_trans _ _ _ _ _ S.perm (swp_permIn dj a (i + 1) _ _ (by omega) (by omega) ha (by omega) (by omega)), fun p q h1 h2 h3 h4 h5 => ?_, fun q h1 h2 => ?_, fun q h1 h2 h3 => ?_⟩
  · rw [g p, g q, if_neg h4, if_neg h5]
    by_cases hp : p = j + 1
    · rw [if_pos hp, if_neg (by omega)]; exact S.rest j q ha (by omega) h3 (by omega) (by omega)
    · rw [if_neg hp]
      by_cases hq : q = j + 1
      · rw [if_pos hq]; exact S.rest p j h1 (by omega) (by omega) hp (by omega)
      · rw [if_neg hq]; exact S.rest p q h1 h2 h3 hp hq
  · rw [g j, g q, if_pos rfl, if_neg (by omega)]
    by_cases hq : q = j + 1
    · rw [if_pos hq]; exact hlt
    · rw [if_neg hq]; exact S.right q (by omega) h2
  · rw [g j, g q, if_pos rfl, if_neg h3]
    by_cases hq : q = j + 1
    · rw [if_pos hq]; exact S.cross j ha (by omega) (by omega)
    · rw [if_neg hq]; exact S.cross q h1 h2 hq
theorem InsS.stop {cf : α → α → Int} {K : α → Int} {a i j : Nat} {d dj : Array α} (S : InsS cf K a i j d dj) (ha : a ≤ j) (hj : j ≤ i) (hs : j ≤ a ∨ ¬ cf dj[j]! dj[j - 1]! < 0) : PermIn a (i + 1) d dj ∧ Inc K a (i + 1) dj := by
  refine ⟨S.perm, fun p q h1 h2 h3 => ?_⟩
  by_cases hq : q = j
  · subst hq
    rcases hs with hs | hs
    · omega
    · have c := S.cross (q - 1) (by omega) (by omega) (by omega)
      have k1 : K dj[q - 1]! < K dj[q]! := by
        have := c.2
        have : ¬ K dj[q]! < K dj[q - 1]! := fun h => hs (c.1.2 h)
        omega
      by_cases hp : p = q - 1
      · rw [hp]; exact k1
      · have := S.rest p (q - 1) h1 (by omega) (by omega) (by omega) (by omega); omega
  · by_cases hp : p = j
    · subst hp; exact S.right q h2 (by omega)
    · exact S.rest p q h1 h2 (by omega) hp hq
set_option maxHeartbeats 8000000 in
set_option maxRecDepth 1000000 in
theorem insertion_any (k : Nat) (aE : ∀ w, (isAgg 67).run Tryd.prog w = .ok true w) (zE : ∀ w, (Go.sizeOf 67).run Tryd.prog w = .ok k w) (enc : α → List Value) (cf : α → α → Int) (K : α → Int) (g : Nat) (cb : Array Value) (blk off cap : Nat) (d0 : Array α) (w0 : World)
    (eg : ∀ args w, (callFunc g args).run Tryd.prog w = .ok (.enter g args) w) (hcmp : CmpLays Tryd.prog g cb enc k cf blk off d0.size w0) (R : RowK enc k w0 blk off d0) (hsz : d0.size < 4611686018427387904)
    (a b : Nat) (d : Array α) (w : World) (hs : d0.size = d.size) (S : SWK enc k w0 blk off d w) (hab : a ≤ b) (hb : b ≤ d.size) (hX : ∀ i j, a ≤ i → i < j → j < b → Cr cf K d[i]! d[j]!) :
    Calls Tryd.prog 85 #[.slice (some ⟨blk, off, none⟩) d.size cap, .int .i64 a, .int .i64 b, .func (.func g) #[] cb] w fun e w' => e = .returned (.tuple #[]) ∧ ∃ d', d'.size = d.size ∧ SWK enc k w0 blk off d' w' ∧ PermIn a b d d' ∧ Inc K a b d' := by
  have mixed : Tryd.prog.follows .mixedOrders = true := by kernel_rfl
  have HC : Aside (CmpLays Tryd.prog g cb enc k cf blk off d0.size w0) := hcmp
  have S0 : Aside (SWK enc k w0 blk off d w) := S
  have HX : Aside (∀ i j, a ≤ i → i < j → j < b → Cr cf K d[i]! d[j]!) := hX
  clear hcmp S hX
  go_enter Tryd.func85, Tryd.ntmps85
  go_wp2
  go_loopg [8] (b - a) (fun kx s8 wr => ∃ (i : Nat) (dk : Array α), s8 = .int .i64 i ∧ a < i ∧ i ≤ b + 1 ∧ b + 1 - i ≤ kx + 1 ∧ dk.size = d.size ∧ Aside (SWK enc k w0 blk off dk wr) ∧ Aside (PermIn a (min i b) d dk) ∧ Aside (Inc K a (min i b) dk))
  case atStart => exact ⟨a + 1, d, by first | rfl | simp, by omega, by omega, by omega, rfl, S0, permIn_refl _ _ _, fun x y h1 h2 h3 => by omega⟩
  case round =>
    clear S0
    obtain ⟨i, dk, rfl, hai, hib, hkx, hds, S1, HP, HI⟩ := hrel
    by_cases hlt : i < b
    · have hltz : (i : Int) < (b : Int) := by omega
      have I0 : Aside (InsS cf K a i i d dk) := InsS.start (by omega) (fun x y h1 h2 h3 => HX.out x y h1 h2 (by omega)) (by have := HP.out; rwa [Nat.min_eq_left (by omega)] at this) (by have := HI.out; rwa [Nat.min_eq_left (by omega)] at this) (by omega)
      clear HP HI
      go_wp2
      go_loopg [9] i (fun ky s9 wr2 => ∃ (j : Nat) (dj : Array α), s9 = .int .i64 j ∧ a ≤ j ∧ j ≤ i ∧ j ≤ ky ∧ dj.size = d.size ∧ Aside (SWK enc k w0 blk off dj wr2) ∧ Aside (InsS cf K a i j d dj))
      case atStart => exact ⟨i, dk, rfl, by omega, Nat.le_refl _, Nat.le_refl _, hds, S1, I0⟩
      case round =>
        clear S1 I0
        obtain ⟨j, dj, rfl, haj, hji, hky, hdj, S1, IS⟩ := hrel
        by_cases hja : a < j
        · have hjaz : (a : Int) < (j : Int) := by omega
          obtain ⟨jp, rfl⟩ : ∃ jp, j = jp + 1 := ⟨j - 1, by omega⟩
          have hwp : IntKind.i64.wrap (jp : Int) = (jp : Int) := by rw [IntKind.wrap_i64]; omega
          have hjaz' : (a : Int) < (jp : Int) + 1 := by omega
          by_cases hv : cf dj[jp + 1]! dj[jp]! < 0
          · have I2 : Aside (InsS cf K a i jp d (swp dj (jp + 1) jp)) := IS.out.step (by omega) (by omega) hji hv
            have HV := Lib.hid hv
            clear hv IS
            have eas : ((jp : Int) + 1).toNat = jp + 1 := by omega
            have pas : (0 : Int) ≤ (jp : Int) + 1 := by omega
            have bas : (jp : Int) + 1 < (d.size : Int) := by omega
            have ecs : ((jp : Int)).toNat = jp := by omega
            have pcs : (0 : Int) ≤ (jp : Int) := by omega
            have bcs : (jp : Int) < (d.size : Int) := by omega
            obtain ⟨xs, hxs⟩ : ∃ x, x = dj[jp + 1]! := ⟨_, rfl⟩
            obtain ⟨ys, hys⟩ : ∃ x, x = dj[jp]! := ⟨_, rfl⟩
            have las := S1.out.ld R (by omega) Tryd.prog (jp + 1) (by omega)
            have lbs := S1.out.ld R (by omega) Tryd.prog (jp) (by omega)
            rw [← hxs] at las
            rw [← hys] at lbs
            have hcs := S1.out.cmp HC.out (by omega) xs ys
            have hvs : cf xs ys < 0 := by rw [hxs, hys]; exact HV.out
            have hds : decide (cf xs ys < 0) = true := decide_eq_true hvs
            clear hxs hys
            go_wp2_with fail
            go_quiet_grown (first | (go_at_fn g; refine Calls.grown_of (hcs _ _)))
            have S2 : Aside (SWK enc k w0 blk off dj (grow (wr.drewN nq) osq)) := S1.out.grown nq osq
            clear las lbs hcs S1
            generalize grow (wr.drewN nq) osq = wq at S2 ⊢
            clear nq osq
            have eau : ((jp : Int) + 1).toNat = jp + 1 := by omega
            have pau : (0 : Int) ≤ (jp : Int) + 1 := by omega
            have bau : (jp : Int) + 1 < (d.size : Int) := by omega
            have rau : IntKind.i64.wrap ((jp : Int) + 1) = (jp : Int) + 1 := by rw [IntKind.wrap_i64]; omega
            have ecu : ((jp : Int)).toNat = jp := by omega
            have pcu : (0 : Int) ≤ (jp : Int) := by omega
            have bcu : (jp : Int) < (d.size : Int) := by omega
            have rcu : IntKind.i64.wrap ((jp : Int)) = (jp : Int) := by rw [IntKind.wrap_i64]; omega
            have S3 : Aside (SWK enc k w0 blk off (swp dj (jp + 1) (jp)) ((wq.drew.setCells blk (off + (jp + 1) * k) (enc dj[jp]!)).setCells blk (off + (jp) * k) (enc dj[jp + 1]!))) := S2.out.swapped R (jp + 1) (jp) (by omega) (by omega)
            have lau := S2.out.ld1 R (by omega) Tryd.prog (jp + 1) (by omega)
            have lbu := S2.out.ld1 R (by omega) Tryd.prog (jp) (by omega)
            have sau := S2.out.st1 R (by omega) Tryd.prog (jp + 1) (by omega) dj[jp]!
            have sbu := S2.out.st2 R (by omega) Tryd.prog (jp + 1) (jp) (by omega) (by omega) dj[jp]! dj[jp + 1]!
            have nau : (enc dj[jp + 1]!).length = k := R.hk _
            have nbu : (enc dj[jp]!).length = k := R.hk _
            generalize enc dj[jp + 1]! = cI at S3 lau sbu nau
            generalize enc dj[jp]! = cJ at S3 lbu sau sbu nbu
            clear S2
            go_wp2_with fail
            go_big_region_o
            clear lau lbu sau sbu
            generalize (wq.drew.setCells blk (off + (jp + 1) * k) cJ).setCells blk (off + (jp) * k) cI = wz at S3 ⊢
            go_wp2
            go_roundg jp
            case measure => omega
            case rel => exact ⟨jp, swp dj (jp + 1) jp, by first | rfl | go_num | (congr 1; omega), by omega, by omega, Nat.le_refl _, by rw [size_swp]; exact hdj, S3, I2⟩
          · have I2 := Lib.hid (IS.out.stop (by omega) hji (.inr (by simpa using hv)))
            have HV := Lib.hid hv
            clear hv IS
            have eas : ((jp : Int) + 1).toNat = jp + 1 := by omega
            have pas : (0 : Int) ≤ (jp : Int) + 1 := by omega
            have bas : (jp : Int) + 1 < (d.size : Int) := by omega
            have ecs : ((jp : Int)).toNat = jp := by omega
            have pcs : (0 : Int) ≤ (jp : Int) := by omega
            have bcs : (jp : Int) < (d.size : Int) := by omega
            obtain ⟨xs, hxs⟩ : ∃ x, x = dj[jp + 1]! := ⟨_, rfl⟩
            obtain ⟨ys, hys⟩ : ∃ x, x = dj[jp]! := ⟨_, rfl⟩
            have las := S1.out.ld R (by omega) Tryd.prog (jp + 1) (by omega)
            have lbs := S1.out.ld R (by omega) Tryd.prog (jp) (by omega)
            rw [← hxs] at las
            rw [← hys] at lbs
            have hcs := S1.out.cmp HC.out (by omega) xs ys
            have hvs : ¬ cf xs ys < 0 := by rw [hxs, hys]; exact HV.out
            have hds : decide (cf xs ys < 0) = false := decide_eq_false hvs
            clear hxs hys
            go_wp2_with fail
            go_quiet_grown (first | (go_at_fn g; refine Calls.grown_of (hcs _ _)))
            have S2 : Aside (SWK enc k w0 blk off dj (grow (wr.drewN nq) osq)) := S1.out.grown nq osq
            clear las lbs hcs S1
            generalize grow (wr.drewN nq) osq = wq at S2 ⊢
            clear nq osq
            go_wp2
            go_roundg (b - (i + 1))
            case measure => omega
            case rel => exact ⟨i + 1, dj, by first | rfl | go_num | simp, by omega, by omega, by omega, hdj, S2, by rw [Nat.min_eq_left (by omega)]; exact I2.out.1, by rw [Nat.min_eq_left (by omega)]; exact I2.out.2⟩
        · have hjaz : decide ((j : Int) > (a : Int)) = false := decide_eq_false (by omega)
          have hjaz' : ¬ (a : Int) < (j : Int) := by omega
          have I2 := Lib.hid (IS.out.stop (by omega) hji (.inl (by omega)))
          have S2 : Aside (SWK enc k w0 blk off dj wr.drew) := S1.out.drew
          clear IS S1
          go_wp2_with fail
          go_big_region_o
          all_goals go_wp2
          go_roundg (b - (i + 1))
          case measure => omega
          case rel => exact ⟨i + 1, dj, by first | rfl | go_num | simp, by omega, by omega, by omega, hdj, S2, by rw [Nat.min_eq_left (by omega)]; exact I2.out.1, by rw [Nat.min_eq_left (by omega)]; exact I2.out.2⟩
    · have hltz : ¬ (i : Int) < (b : Int) := by omega
      go_wp2
      go_end0
      exact ⟨rfl, dk, hds, S1.out, by have := HP.out; rwa [Nat.min_eq_right (by omega)] at this, by have := HI.out; rwa [Nat.min_eq_right (by omega)] at this⟩
end Go.Proofs.YtkejohmghacdhaaDoor
/- slices' stable sort at the slice of parts: stable, SortStableFunc. -/
namespace Go.Proofs.YtkejohmghacdhaaDoor
set_option linter.unusedVariables false
set_option linter.unusedSimpArgs false
open Go Go.Shelf Go.RowKit Go.Lib Go.Sort
variable {α : Type} [Inhabited α]
theorem blk_of {t k x : Nat} (h1 : k * t ≤ x) (h2 : x < k * t + t) : x / t = k :=
  Nat.div_eq_of_lt_le h1 (by rw [Nat.succ_mul]; exact h2)
/-- each stands in the block in which it stood first -/
def InBlk (A : α → Nat) (s n : Nat) (d : Array α) : Prop := ∀ i, i < n → A d[i]! / s = i / s
/-- each block ascends, below m -/
def IncB (K : α → Int) (s m : Nat) (d : Array α) : Prop := ∀ x y, x < y → y < m → x / s = y / s → K d[x]! < K d[y]!
theorem InBlk.first {A : α → Nat} {s n : Nat} {d : Array α} (h : ∀ i, i < n → A d[i]! = i) : InBlk A s n d := fun i hi => by rw [h i hi]
theorem InBlk.wider {A : α → Nat} {s n : Nat} {d : Array α} (h : InBlk A s n d) : InBlk A (2 * s) n d := fun i hi => by
  have := h i hi
  rw [Nat.mul_comm, ← Nat.div_div_eq_div_mul, ← Nat.div_div_eq_div_mul, this]
theorem InBlk.perm {A : α → Nat} {s n k b : Nat} {d d' : Array α} (h : InBlk A s n d) (hs : 0 < s) (hb : b ≤ k * s + s) (hn : b ≤ n) (hd : n ≤ d.size) (P : PermIn (k * s) b d d') : InBlk A s n d' := fun i hi => by
  by_cases h1 : k * s ≤ i ∧ i < b
  · have e : i / s = k := blk_of h1.1 (by omega)
    rw [e]
    exact permIn_all d d' (k * s) b (fun v => A v / s = k) (by omega) P (fun j h2 h3 => by rw [h j (by omega)]; exact blk_of h2 (by omega)) i h1.1 h1.2
  · rw [P.2.1 i (by omega)]; exact h i hi
theorem InBlk.cross {A : α → Nat} {cf : α → α → Int} {K : α → Int} {s n : Nat} {d : Array α} (h : InBlk A s n d) (hA : ∀ x y, A x < A y → Cr cf K x y) {i j : Nat} (hi : i < n) (hj : j < n) (hij : i / s < j / s) : Cr cf K d[i]! d[j]! := by
  refine hA _ _ ?_
  have h1 := h i hi
  have h2 := h j hj
  rcases Nat.lt_or_ge (A d[i]!) (A d[j]!) with h3 | h3
  · exact h3
  · have := Nat.div_le_div_right (c := s) h3
    omega
theorem blk_lt {t k x : Nat} (ht : 0 < t) (h : x < k * t) : x / t < k := (Nat.div_lt_iff_lt_mul ht).2 h
theorem blk_ge {t k x : Nat} (ht : 0 < t) (h : k * t ≤ x) : k ≤ x / t := (Nat.le_div_iff_mul_le ht).2 h
/-- one block more -/
theorem IncB.more {K : α → Int} {t k b : Nat} {d d' : Array α} (h : IncB K t (k * t) d) (ht : 0 < t) (P : PermIn (k * t) b d d') (hI : Inc K (k * t) b d') : IncB K t b d' := fun x y h1 h2 h3 => by
  by_cases hx : k * t ≤ x
  · exact hI x y hx h1 h2
  · have := blk_lt ht (show x < k * t by omega)
    by_cases hy : k * t ≤ y
    · have := blk_ge ht hy; omega
    · rw [P.2.1 x (by omega), P.2.1 y (by omega)]; exact h x y h1 (by omega) h3
theorem IncB.part {K : α → Int} {s n k a b : Nat} {ds d : Array α} (h : IncB K s n ds) (hd : ∀ i, a ≤ i → d[i]! = ds[i]!) (h1 : k * s ≤ a + 0) (h2 : b ≤ k * s + s) (h3 : b ≤ n) : Inc K a b d := fun x y h4 h5 h6 => by
  rw [hd x h4, hd y (by omega)]
  exact h x y h5 (by omega) (by rw [blk_of (t := s) (k := k) (x := x) (by omega) (by omega), blk_of (t := s) (k := k) (x := y) (by omega) (by omega)])
theorem IncB.whole {K : α → Int} {s n : Nat} {d : Array α} (h : IncB K s n d) (hn : n ≤ s) : Inc K 0 n d := fun x y _ h2 h3 => h x y h2 h3 (by rw [Nat.div_eq_of_lt (by omega), Nat.div_eq_of_lt (by omega)])
/-- How far the blocks of s are merged into those of twice as many: k of these, of d's, which was ds. -/
structure Rnd (A : α → Nat) (K : α → Int) (s n k : Nat) (d0 ds d : Array α) : Prop where
  size : d.size = d0.size
  perm : PermIn 0 n d0 d
  old : InBlk A s n ds
  inc : IncB K s n ds
  blk : InBlk A (2 * s) n d
  done : IncB K (2 * s) (k * (2 * s)) d
  rest : ∀ i, k * (2 * s) ≤ i → d[i]! = ds[i]!
theorem Rnd.start {A : α → Nat} {K : α → Int} {s n : Nat} {d0 ds : Array α} (h0 : ds.size = d0.size) (h1 : PermIn 0 n d0 ds) (h2 : InBlk A s n ds) (h3 : IncB K s n ds) : Rnd A K s n 0 d0 ds ds :=
  ⟨h0, h1, h2, h3, h2.wider, fun x y h4 h5 => by omega, fun _ _ => rfl⟩
variable {A : α → Nat} {cf : α → α → Int} {K : α → Int} {s n k : Nat} {d0 ds d : Array α}
theorem Rnd.even (s k : Nat) : 2 * k * s = k * (2 * s) := by rw [Nat.mul_comm 2 k, Nat.mul_assoc]
theorem Rnd.odd (s k : Nat) : (2 * k + 1) * s = k * (2 * s) + s := by rw [Nat.succ_mul, Rnd.even]
theorem Rnd.next (s k : Nat) : (k + 1) * (2 * s) = k * (2 * s) + 2 * s := Nat.succ_mul _ _
theorem Rnd.left (R : Rnd A K s n k d0 ds d) (h : k * (2 * s) + s ≤ n) : Inc K (k * (2 * s)) (k * (2 * s) + s) d :=
  R.inc.part (k := 2 * k) R.rest (by rw [Rnd.even]; omega) (by rw [Rnd.even]; omega) h
theorem Rnd.right (R : Rnd A K s n k d0 ds d) {b : Nat} (h1 : b ≤ k * (2 * s) + 2 * s) (h2 : b ≤ n) : Inc K (k * (2 * s) + s) b d :=
  R.inc.part (k := 2 * k + 1) (fun i h => R.rest i (by omega)) (by rw [Rnd.odd]; omega) (by rw [Rnd.odd]; omega) h2
theorem Rnd.cross (R : Rnd A K s n k d0 ds d) (hA : ∀ x y, A x < A y → Cr cf K x y) {b : Nat} (h1 : b ≤ k * (2 * s) + 2 * s) (h2 : b ≤ n) : ∀ i j, k * (2 * s) ≤ i → i < k * (2 * s) + s → k * (2 * s) + s ≤ j → j < b → Cr cf K d[i]! d[j]! := fun i j h3 h4 h5 h6 => by
  rw [R.rest i h3, R.rest j (by omega)]
  refine R.old.cross hA (by omega) (by omega) ?_
  rw [blk_of (t := s) (k := 2 * k) (x := i) (by rw [Rnd.even]; omega) (by rw [Rnd.even]; omega), blk_of (t := s) (k := 2 * k + 1) (x := j) (by rw [Rnd.odd]; omega) (by rw [Rnd.odd]; omega)]
  omega
theorem Rnd.more (R : Rnd A K s n k d0 ds d) (hs : 0 < s) (hn : n ≤ d0.size) {d' : Array α} (h1 : k * (2 * s) + 2 * s ≤ n) (P : PermIn (k * (2 * s)) (k * (2 * s) + 2 * s) d d') (hI : Inc K (k * (2 * s)) (k * (2 * s) + 2 * s) d') : Rnd A K s n (k + 1) d0 ds d' := by
  have hsz := R.size
  have hp : d'.size = d.size := P.1
  refine ⟨by omega, permIn_trans _ _ _ _ _ R.perm (permIn_mono _ _ _ _ _ _ (Nat.zero_le _) h1 (by omega) P), R.old, R.inc, R.blk.perm (by omega) (Nat.le_refl _) h1 (by omega) P, ?_, fun i h => ?_⟩
  · rw [Rnd.next]; exact R.done.more (by omega) P hI
  · rw [Rnd.next] at h; rw [P.2.1 i (.inr h)]; exact R.rest i (by omega)
/-- the last piece -/
theorem Rnd.last (R : Rnd A K s n k d0 ds d) (hs : 0 < s) (hn : n ≤ d0.size) {d' : Array α} (h0 : n < k * (2 * s) + 2 * s) (h1 : k * (2 * s) ≤ n) (P : PermIn (k * (2 * s)) n d d') (hI : Inc K (k * (2 * s)) n d') : d'.size = d0.size ∧ PermIn 0 n d0 d' ∧ InBlk A (2 * s) n d' ∧ IncB K (2 * s) n d' := by
  have hsz := R.size
  have hp : d'.size = d.size := P.1
  exact ⟨by omega, permIn_trans _ _ _ _ _ R.perm (permIn_mono _ _ _ _ _ _ (Nat.zero_le _) (Nat.le_refl _) (by omega) P), R.blk.perm (by omega) (by omega) (Nat.le_refl _) (by omega) P, R.done.more (by omega) P hI⟩
theorem Rnd.none (R : Rnd A K s n k d0 ds d) (hs : 0 < s) (hn : n ≤ d0.size) (h0 : n ≤ k * (2 * s) + s) (h1 : k * (2 * s) ≤ n) : d.size = d0.size ∧ PermIn 0 n d0 d ∧ InBlk A (2 * s) n d ∧ IncB K (2 * s) n d :=
  R.last hs hn (by omega) h1 (permIn_refl _ _ _) (R.inc.part (k := 2 * k) R.rest (by rw [Rnd.even]; omega) (by rw [Rnd.even]; omega) (Nat.le_refl _))
/-- How far the blocks of 20 are sorted: k of them. -/
structure Ins20 (A : α → Nat) (K : α → Int) (n k : Nat) (d0 d : Array α) : Prop where
  size : d.size = d0.size
  perm : PermIn 0 n d0 d
  blk : InBlk A 20 n d
  done : IncB K 20 (k * 20) d
  rest : ∀ i, k * 20 ≤ i → d[i]! = d0[i]!
theorem Ins20.start (hA : ∀ i, i < n → A d0[i]! = i) : Ins20 A K n 0 d0 d0 :=
  ⟨rfl, permIn_refl _ _ _, .first hA, fun x y h4 h5 => by omega, fun _ _ => rfl⟩
theorem Ins20.cross (S : Ins20 A K n k d0 d) (hA : ∀ i, i < n → A d0[i]! = i) (hC : ∀ x y, A x < A y → Cr cf K x y) : ∀ i j, k * 20 ≤ i → i < j → j < n → Cr cf K d[i]! d[j]! := fun i j h1 h2 h3 => by
  rw [S.rest i h1, S.rest j (by omega)]
  exact hC _ _ (by rw [hA i (by omega), hA j h3]; exact h2)
theorem Ins20.more (S : Ins20 A K n k d0 d) (hn : n ≤ d0.size) {d' : Array α} (h1 : k * 20 + 20 ≤ n) (P : PermIn (k * 20) (k * 20 + 20) d d') (hI : Inc K (k * 20) (k * 20 + 20) d') : Ins20 A K n (k + 1) d0 d' := by
  have hsz := S.size
  have hp : d'.size = d.size := P.1
  refine ⟨by omega, permIn_trans _ _ _ _ _ S.perm (permIn_mono _ _ _ _ _ _ (Nat.zero_le _) h1 (by omega) P), S.blk.perm (by omega) (Nat.le_refl _) h1 (by omega) P, ?_, fun i h => ?_⟩
  · rw [Nat.succ_mul]; exact S.done.more (by omega) P hI
  · rw [Nat.succ_mul] at h; rw [P.2.1 i (.inr h)]; exact S.rest i (by omega)
theorem Ins20.last (S : Ins20 A K n k d0 d) (hn : n ≤ d0.size) {d' : Array α} (h0 : n < k * 20 + 20) (h1 : k * 20 ≤ n) (P : PermIn (k * 20) n d d') (hI : Inc K (k * 20) n d') : d'.size = d0.size ∧ PermIn 0 n d0 d' ∧ InBlk A 20 n d' ∧ IncB K 20 n d' := by
  have hsz := S.size
  have hp : d'.size = d.size := P.1
  exact ⟨by omega, permIn_trans _ _ _ _ _ S.perm (permIn_mono _ _ _ _ _ _ (Nat.zero_le _) (Nat.le_refl _) (by omega) P), S.blk.perm (by omega) (by omega) (Nat.le_refl _) (by omega) P, S.done.more (by omega) P hI⟩
set_option maxHeartbeats 8000000 in
set_option maxRecDepth 1000000 in
theorem stable_any (k : Nat) (aE : ∀ w, (isAgg 67).run Tryd.prog w = .ok true w) (zE : ∀ w, (Go.sizeOf 67).run Tryd.prog w = .ok k w) (enc : α → List Value) (cf : α → α → Int) (K : α → Int) (A : α → Nat) (g : Nat) (cb : Array Value) (blk off cap n : Nat) (d0 : Array α) (w0 : World)
    (eg : ∀ args w, (callFunc g args).run Tryd.prog w = .ok (.enter g args) w) (hn : d0.size = n) (hcmp : CmpLays Tryd.prog g cb enc k cf blk off d0.size w0) (R : RowK enc k w0 blk off d0) (hsz : n ≤ 4096)
    (hA : ∀ i, i < n → A d0[i]! = i) (hC : ∀ x y, A x < A y → Cr cf K x y) (w : World) (S : SWK enc k w0 blk off d0 w) :
    Calls Tryd.prog 73 #[.slice (some ⟨blk, off, none⟩) n cap, .int .i64 n, .func (.func g) #[] cb] w fun e w' => e = .returned (.tuple #[]) ∧ ∃ d', d'.size = n ∧ SWK enc k w0 blk off d' w' ∧ PermIn 0 n d0 d' ∧ Inc K 0 n d' := by
  have CI : Aside (∀ (a b : Nat) (d : Array α) (w : World), d.size = n → SWK enc k w0 blk off d w → a ≤ b → b ≤ n → (∀ i j, a ≤ i → i < j → j < b → Cr cf K d[i]! d[j]!) →
      Calls Tryd.prog 85 #[.slice (some ⟨blk, off, none⟩) n cap, .int .i64 a, .int .i64 b, .func (.func g) #[] cb] w fun e w' => e = .returned (.tuple #[]) ∧ ∃ d', d'.size = n ∧ SWK enc k w0 blk off d' w' ∧ PermIn a b d d' ∧ Inc K a b d') := fun a b d w h1 h2 h3 h4 h5 => by
    have := insertion_any k aE zE enc cf K g cb blk off cap d0 w0 eg hcmp R (by omega) a b d w (by omega) h2 h3 (by omega) h5
    rw [h1] at this
    exact this
  have CM : Aside (∀ (a m b : Nat) (d : Array α) (w : World), d.size = n → SWK enc k w0 blk off d w → a < m → m < b → b ≤ n → Inc K a m d → Inc K m b d → (∀ i j, a ≤ i → i < m → m ≤ j → j < b → Cr cf K d[i]! d[j]!) →
      Calls Tryd.prog 86 #[.slice (some ⟨blk, off, none⟩) n cap, .int .i64 a, .int .i64 m, .int .i64 b, .func (.func g) #[] cb] w fun e w' => e = .returned (.tuple #[]) ∧ ∃ d', d'.size = n ∧ SWK enc k w0 blk off d' w' ∧ PermIn a b d d' ∧ Inc K a b d') := fun a m b d w h1 h2 h3 h4 h5 h6 h7 h8 => by
    have := symMerge_any k aE zE enc cf K g cb blk off cap d0 w0 eg hcmp R (by omega) (b - a) a m b d w (Nat.le_refl _) (by omega) h2 h3 h4 (by omega) h6 h7 h8
    rw [h1] at this
    exact this
  have S0 : Aside (SWK enc k w0 blk off d0 w) := S
  have HA : Aside (∀ i, i < n → A d0[i]! = i) := hA
  have HC : Aside (∀ x y, A x < A y → Cr cf K x y) := hC
  have HN : Aside (d0.size = n) := hn
  clear S hA hC hcmp hn
  go_enter Tryd.func73, Tryd.ntmps73
  go_wp2
  go_loopg [7, 8] (n + 20) (fun kx s7 s8 wr => ∃ (q a b : Nat) (d : Array α), s7 = .int .i64 a ∧ s8 = .int .i64 b ∧ Aside (a = q * 20) ∧ a + 20 ≤ b ∧ b ≤ a + 20 ∧ a ≤ n ∧ n + 20 - b ≤ kx ∧ Aside (SWK enc k w0 blk off d wr) ∧ Aside (Ins20 A K n q d0 d))
  case atStart => exact ⟨0, 0, 20, d0, rfl, rfl, rfl, by omega, by omega, by omega, by omega, S0, Ins20.start HA.out⟩
  case round =>
    clear S0
    obtain ⟨q, a, b, d, rfl, rfl, HQ, hb1, hb2, han, hkx, S1, I1⟩ := hrel
    have hd : d.size = n := by rw [I1.out.size]; exact HN.out
    have X1 : Aside (∀ i j, a ≤ i → i < j → j < n → Cr cf K d[i]! d[j]!) := by have := I1.out.cross HA.out HC.out; rw [← HQ.out] at this; exact this
    by_cases hlt : b ≤ n
    · have hz : (b : Int) ≤ (n : Int) := by omega
      have C := CI.out a b d _ hd S1.out (by omega) hlt (fun i j h1 h2 h3 => X1.out i j h1 h2 (by omega))
      have HD := Lib.hid hd
      clear hd X1
      go_wp2_with fail
      refine C.mono ?_
      rintro ex w2 ⟨rfl, d1, hd1, S2, hp, hi⟩
      have I2 : Aside (Ins20 A K n (q + 1) d0 d1) := I1.out.more (by have := HN.out; omega) (by have := HQ.out; omega) (by rw [← HQ.out, show a + 20 = b by omega]; exact hp) (by rw [← HQ.out, show a + 20 = b by omega]; exact hi)
      have Q2 : Aside (b = (q + 1) * 20) := by have := HQ.out; show b = _; omega
      have S2 : Aside (SWK enc k w0 blk off d1 w2) := S2
      clear hp hi C S1 I1 HQ hd1 HD
      have wb : IntKind.i64.wrap ((b : Int) + 20) = (b : Int) + 20 := by rw [IntKind.wrap_i64]; omega
      go_wp2
      go_roundg (n + 20 - (b + 20))
      case measure => omega
      case rel => exact ⟨q + 1, b, b + 20, d1, rfl, by first | rfl | go_num | simp, Q2, by omega, by omega, by omega, by omega, S2, I2⟩
    · have hz : ¬ (b : Int) ≤ (n : Int) := by omega
      have hz2 : (n : Int) < (b : Int) := by omega
      have C := CI.out a n d _ hd S1.out (by omega) (Nat.le_refl _) (fun i j h1 h2 h3 => X1.out i j h1 h2 h3)
      have HD := Lib.hid hd
      clear hd X1
      go_wp2_with fail
      refine C.mono ?_
      rintro ex w2 ⟨rfl, d1, hd1, S2, hp, hi⟩
      have L1 : Aside (d1.size = d0.size ∧ PermIn 0 n d0 d1 ∧ InBlk A 20 n d1 ∧ IncB K 20 n d1) := I1.out.last (by have := HN.out; omega) (by have := HQ.out; omega) (by have := HQ.out; omega) (by rw [← HQ.out]; exact hp) (by rw [← HQ.out]; exact hi)
      have S2 : Aside (SWK enc k w0 blk off d1 w2) := S2
      clear hp hi C S1 I1 HQ hd1 HD hz hz2 hlt hkx han hb1 hb2
      go_wp2
      go_loopg [6] n (fun kx s6 wr => ∃ (s : Nat) (d : Array α), s6 = .int .i64 s ∧ 0 < s ∧ s ≤ 8192 ∧ n - s ≤ kx ∧ Aside (SWK enc k w0 blk off d wr) ∧ Aside (d.size = d0.size ∧ PermIn 0 n d0 d ∧ InBlk A s n d ∧ IncB K s n d))
      case atStart => exact ⟨20, d1, rfl, by omega, by omega, by omega, S2, L1⟩
      case round =>
        clear S2 L1
        obtain ⟨s, ds, rfl, hs0, hs1, hkx, S1, L1⟩ := hrel
        by_cases hsn : s < n
        · have hsz2 : (s : Int) < (n : Int) := by omega
          have w2s : IntKind.i64.wrap (2 * (s : Int)) = 2 * (s : Int) := by rw [IntKind.wrap_i64]; omega
          have w3s : IntKind.i64.wrap ((s : Int) * 2) = (s : Int) * 2 := by rw [IntKind.wrap_i64]; omega
          have R0 : Aside (Rnd A K s n 0 d0 ds ds) := Rnd.start L1.out.1 L1.out.2.1 L1.out.2.2.1 L1.out.2.2.2
          clear L1
          go_wp2
          go_loopg [7, 8] (n + 2 * s) (fun ky s7 s8 wr => ∃ (q a b : Nat) (d : Array α), s7 = .int .i64 a ∧ s8 = .int .i64 b ∧ Aside (a = q * (2 * s)) ∧ a + 2 * s ≤ b ∧ b ≤ a + 2 * s ∧ a ≤ n ∧ n + 2 * s - b ≤ ky ∧ Aside (SWK enc k w0 blk off d wr) ∧ Aside (Rnd A K s n q d0 ds d))
          case atStart => exact ⟨0, 0, 2 * s, ds, rfl, by first | rfl | go_num | simp, by show _ = _; simp, by omega, by omega, by omega, by omega, S1, R0⟩
          case round =>
            clear S1 R0
            obtain ⟨q, a, b, d, rfl, rfl, HQ, hb1, hb2, han, hky, S1, I1⟩ := hrel
            have hd : d.size = n := by rw [I1.out.size]; exact HN.out
            have was : IntKind.i64.wrap ((a : Int) + (s : Int)) = (a : Int) + (s : Int) := by rw [IntKind.wrap_i64]; omega
            by_cases hlt : b ≤ n
            · have hz : (b : Int) ≤ (n : Int) := by omega
              have L := I1.out.left (by have := HQ.out; omega)
              have Rt := I1.out.right (b := b) (by have := HQ.out; omega) hlt
              have X := I1.out.cross HC.out (b := b) (by have := HQ.out; omega) hlt
              rw [← HQ.out] at L Rt X
              have C := CM.out a (a + s) b d _ hd S1.out (by omega) (by omega) hlt L Rt X
              have HD := Lib.hid hd
              clear hd L Rt X
              go_wp2_with fail
              refine C.mono ?_
              rintro ex w2 ⟨rfl, d1, hd1, S2, hp, hi⟩
              have I2 : Aside (Rnd A K s n (q + 1) d0 ds d1) := I1.out.more hs0 (by have := HN.out; omega) (by have := HQ.out; omega) (by rw [← HQ.out, show a + 2 * s = b by omega]; exact hp) (by rw [← HQ.out, show a + 2 * s = b by omega]; exact hi)
              have Q2 : Aside (b = (q + 1) * (2 * s)) := by have := HQ.out; have e := Rnd.next s q; show b = _; omega
              have S2 : Aside (SWK enc k w0 blk off d1 w2) := S2
              clear hp hi C S1 I1 HQ hd1 HD was
              have wb : IntKind.i64.wrap ((b : Int) + 2 * (s : Int)) = (b : Int) + 2 * (s : Int) := by rw [IntKind.wrap_i64]; omega
              go_wp2
              go_roundg (n + 2 * s - (b + 2 * s))
              case measure => omega
              case rel => exact ⟨q + 1, b, b + 2 * s, d1, rfl, by first | rfl | go_num | simp, Q2, by omega, by omega, by omega, by omega, S2, I2⟩
            · have hz : ¬ (b : Int) ≤ (n : Int) := by omega
              have hz2 : (n : Int) < (b : Int) := by omega
              by_cases hm : a + s < n
              · have hmz : (a : Int) + (s : Int) < (n : Int) := by omega
                have L := I1.out.left (by have := HQ.out; omega)
                have Rt := I1.out.right (b := n) (by have := HQ.out; omega) (Nat.le_refl _)
                have X := I1.out.cross HC.out (b := n) (by have := HQ.out; omega) (Nat.le_refl _)
                rw [← HQ.out] at L Rt X
                have C := CM.out a (a + s) n d _ hd S1.out (by omega) (by omega) (Nat.le_refl _) L Rt X
                have HD := Lib.hid hd
                clear hd L Rt X
                go_wp2_with fail
                refine C.mono ?_
                rintro ex w2 ⟨rfl, d1, hd1, S2, hp, hi⟩
                have L2 : Aside (d1.size = d0.size ∧ PermIn 0 n d0 d1 ∧ InBlk A (2 * s) n d1 ∧ IncB K (2 * s) n d1) := I1.out.last hs0 (by have := HN.out; omega) (by have := HQ.out; omega) (by have := HQ.out; omega) (by rw [← HQ.out]; exact hp) (by rw [← HQ.out]; exact hi)
                have S2 : Aside (SWK enc k w0 blk off d1 w2) := S2
                clear hp hi C S1 I1 HQ hd1 HD was
                go_wp2
                go_roundg (n - 2 * s)
                case measure => omega
                case rel => exact ⟨2 * s, d1, by first | rfl | go_num | (congr 1; omega), by omega, by omega, Nat.le_refl _, S2, L2⟩
              · have hmz : ¬ (a : Int) + (s : Int) < (n : Int) := by omega
                have L2 : Aside (d.size = d0.size ∧ PermIn 0 n d0 d ∧ InBlk A (2 * s) n d ∧ IncB K (2 * s) n d) := I1.out.none hs0 (by have := HN.out; omega) (by have := HQ.out; omega) (by have := HQ.out; omega)
                clear I1 HQ hd
                go_wp2
                go_roundg (n - 2 * s)
                case measure => omega
                case rel => exact ⟨2 * s, d, by first | rfl | go_num | (congr 1; omega), by omega, by omega, Nat.le_refl _, S1, L2⟩
        · have hsz2 : ¬ (s : Int) < (n : Int) := by omega
          go_wp2
          go_end0
          exact ⟨rfl, ds, by rw [L1.out.1]; exact HN.out, S1.out, L1.out.2.1, L1.out.2.2.2.whole (by omega)⟩
end Go.Proofs.YtkejohmghacdhaaDoor
