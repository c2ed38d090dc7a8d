/- slices' stable sort in plain terms: what a merge by rotation does. -/
import Derived.Test.YtkejohmghacdhaaSrtA
namespace Go.Proofs.Ytkejohmghacdhaa
set_option linter.unusedVariables false
set_option linter.unusedSimpArgs false
open Go Go.Shelf Go.RowKit Go.Lib Go.Sort
variable {α : Type} [Inhabited α]
/-- strictly ascending by the key -/
def Inc (K : α → Int) (lo hi : Nat) (d : Array α) : Prop := ∀ i j, lo ≤ i → i < j → j < hi → K d[i]! < K d[j]!
/-- an element of the left run and one of the right run are told apart by 'cmp' as by the key -/
def Cr (cf : α → α → Int) (K : α → Int) (x y : α) : Prop := (cf y x < 0 ↔ K y < K x) ∧ K x ≠ K y
theorem Inc.le {K : α → Int} {lo hi i j : Nat} {d : Array α} (h : Inc K lo hi d) (h1 : lo ≤ i) (h2 : i ≤ j) (h3 : j < hi) : K d[i]! ≤ K d[j]! := by
  rcases Nat.lt_or_eq_of_le h2 with h4 | rfl
  · have := h i j h1 h4 h3; omega
  · omega
theorem Inc.congr {K : α → Int} {lo hi : Nat} {d d' : Array α} (h : Inc K lo hi d) (he : ∀ i, lo ≤ i → i < hi → d'[i]! = d[i]!) : Inc K lo hi d' := fun i j h1 h2 h3 => by
  rw [he i h1 (by omega), he j (by omega) h3]; exact h i j h1 h2 h3
theorem rot_lo {s m e x : Nat} (h : x < s) : rot s m e x = x := by
  unfold rot; repeat' split
  all_goals omega
theorem rot_r {s m e x : Nat} (h1 : s ≤ x) (h2 : x < s + (e - m)) : rot s m e x = x + (m - s) := by
  unfold rot; repeat' split
  all_goals omega
theorem rot_l {s m e x : Nat} (h1 : s + (e - m) ≤ x) (h2 : x < e) : rot s m e x = x - (e - m) := by
  unfold rot; repeat' split
  all_goals omega
theorem rot_hi {s m e x : Nat} (h : e ≤ x) (h1 : s ≤ m) (h2 : m ≤ e) : rot s m e x = x := by
  unfold rot; repeat' split
  all_goals omega
theorem rot_nil_l (m e x : Nat) : rot m m e x = x := by
  unfold rot; repeat' split
  all_goals omega
theorem rot_nil_r (s m x : Nat) (h : s ≤ m) : rot s m m x = x := by
  unfold rot; repeat' split
  all_goals omega
theorem rot_up {a k : Nat} (h : a ≤ k) (x : Nat) : rot a (a + 1) (k + 1 + 1) x = rot a (a + 1) (k + 1) (if x = k then k + 1 else if x = k + 1 then k else x) := by
  by_cases h1 : x = k
  · rw [if_pos h1]; unfold rot; repeat' split
    all_goals omega
  · by_cases h2 : x = k + 1
    · rw [if_neg h1, if_pos h2]; unfold rot; repeat' split
      all_goals omega
    · rw [if_neg h1, if_neg h2]; unfold rot; repeat' split
      all_goals omega
theorem rot_down {k m : Nat} (h : k + 1 ≤ m) (x : Nat) : rot k m (m + 1) x = rot (k + 1) m (m + 1) (if x = k + 1 then k else if x = k then k + 1 else x) := by
  by_cases h1 : x = k + 1
  · rw [if_pos h1]; unfold rot; repeat' split
    all_goals omega
  · by_cases h2 : x = k
    · rw [if_neg h1, if_pos h2]; unfold rot; repeat' split
      all_goals omega
    · rw [if_neg h1, if_neg h2]; unfold rot; repeat' split
      all_goals omega
theorem swp_at (d : Array α) {i j : Nat} (hi : i < d.size) (hj : j < d.size) (h : i ≠ j) (x : Nat) : (swp d i j)[x]! = d[if x = i then j else if x = j then i else x]! := by
  by_cases h1 : x = i
  · subst h1; rw [if_pos rfl]; exact swp_left d _ _ hi h
  · rw [if_neg h1]
    by_cases h2 : x = j
    · subst h2; rw [if_pos rfl]; exact swp_right d _ _ hj
    · rw [if_neg h2]; exact swp_other d _ _ _ h1 h2
/-- Where the two runs are parted. -/
structure Cut (K : α → Int) (a s m e b : Nat) (d : Array α) : Prop where
  o1 : a ≤ s
  o2 : s ≤ m
  o3 : m ≤ e
  o4 : e ≤ b
  low : s = a ∨ e = b ∨ K d[s - 1]! < K d[e]!
  high : e = m ∨ s = m ∨ K d[e - 1]! < K d[s]!
theorem sym_join {K : α → Int} {a s m e b mid : Nat} {d d1 d2 : Array α} (C : Cut K a s m e b d) (hmid : mid = s + (e - m)) (hL : Inc K a m d) (hR : Inc K m b d)
    (hrot : ∀ x, d1[x]! = d[rot s m e x]!) (pl : ∀ p : α → Prop, (∀ i, a ≤ i → i < mid → p d1[i]!) → ∀ i, a ≤ i → i < mid → p d2[i]!) (pr : ∀ p : α → Prop, (∀ i, mid ≤ i → i < b → p d1[i]!) → ∀ i, mid ≤ i → i < b → p d2[i]!)
    (il : Inc K a mid d2) (ir : Inc K mid b d2) : Inc K a b d2 := by
  obtain ⟨o1, o2, o3, o4, low, high⟩ := C
  have ql := pl (fun v => ∃ x, v = d[x]! ∧ ((a ≤ x ∧ x < s) ∨ (m ≤ x ∧ x < e))) (fun i h1 h2 => by
    rw [hrot]
    by_cases h3 : i < s
    · exact ⟨i, by rw [rot_lo h3], .inl ⟨h1, h3⟩⟩
    · exact ⟨i + (m - s), by rw [rot_r (by omega) (by omega)], .inr ⟨by omega, by omega⟩⟩)
  have qr := pr (fun v => ∃ x, v = d[x]! ∧ ((s ≤ x ∧ x < m) ∨ (e ≤ x ∧ x < b))) (fun i h1 h2 => by
    rw [hrot]
    by_cases h3 : i < e
    · exact ⟨i - (e - m), by rw [rot_l (by omega) h3], .inl ⟨by omega, by omega⟩⟩
    · exact ⟨i, by rw [rot_hi (by omega) o2 o3], .inr ⟨by omega, h2⟩⟩)
  intro i j h1 h2 h3
  by_cases h4 : j < mid
  · exact il i j h1 h2 h4
  by_cases h5 : mid ≤ i
  · exact ir i j h5 h2 h3
  obtain ⟨x, ex, hx⟩ := ql i h1 (by omega)
  obtain ⟨y, ey, hy⟩ := qr j (by omega) h3
  rw [ex, ey]
  rcases hx with ⟨x1, x2⟩ | ⟨x1, x2⟩ <;> rcases hy with ⟨y1, y2⟩ | ⟨y1, y2⟩
  · exact hL x y x1 (by omega) y2
  · rcases low with h | h | h
    · omega
    · omega
    · have k1 := hL.le (i := x) (j := s - 1) x1 (by omega) (by omega)
      have k2 := hR.le (i := e) (j := y) (by omega) y1 y2
      omega
  · rcases high with h | h | h
    · omega
    · omega
    · have k1 := hR.le (i := x) (j := e - 1) x1 (by omega) (by omega)
      have k2 := hL.le (i := s) (j := y) (by omega) y1 y2
      omega
  · exact hR x y x1 (by omega) y2
/-- a single one on the left -/
theorem ins_left {K : α → Int} {a i b : Nat} {d d1 : Array α} (h1 : a + 1 ≤ i) (h2 : i ≤ b) (hR : Inc K (a + 1) b d) (hrot : ∀ x, d1[x]! = d[rot a (a + 1) i x]!)
    (low : i = a + 1 ∨ K d[i - 1]! < K d[a]!) (high : i = b ∨ K d[a]! < K d[i]!) : Inc K a b d1 := by
  refine sym_join (s := a) (m := a + 1) (e := i) (mid := a + (i - (a + 1))) (d := d) (d1 := d1) ⟨Nat.le_refl _, by omega, h1, h2, .inl rfl, by rcases low with h | h; exact .inl h; exact .inr (.inr h)⟩ rfl (fun x y _ _ _ => by omega) hR hrot (fun p h => h) (fun p h => h) ?_ ?_
  · intro x y x1 x2 x3
    rw [hrot, hrot, rot_r x1 (by omega), rot_r (by omega) x3]
    exact hR _ _ (by omega) (by omega) (by omega)
  · intro x y x1 x2 x3
    have ry : rot a (a + 1) i y = y := rot_hi (by omega) (by omega) h1
    by_cases hx : x < i
    · have rx : rot a (a + 1) i x = a := by rw [rot_l x1 hx]; omega
      rw [hrot, hrot, rx, ry]
      rcases high with h | h
      · omega
      · have := hR.le (i := i) (j := y) h1 (by omega) x3; omega
    · have rx : rot a (a + 1) i x = x := rot_hi (by omega) (by omega) h1
      rw [hrot, hrot, rx, ry]
      exact hR _ _ (by omega) x2 x3
/-- a single one on the right -/
theorem ins_right {K : α → Int} {a i m : Nat} {d d1 : Array α} (h1 : a ≤ i) (h2 : i ≤ m) (hL : Inc K a m d) (hrot : ∀ x, d1[x]! = d[rot i m (m + 1) x]!)
    (low : i = a ∨ K d[i - 1]! < K d[m]!) (high : i = m ∨ K d[m]! < K d[i]!) : Inc K a (m + 1) d1 := by
  refine sym_join (s := i) (m := m) (e := m + 1) (mid := i + (m + 1 - m)) (d := d) (d1 := d1) ⟨h1, h2, by omega, Nat.le_refl _, .inr (.inl rfl), by rcases high with h | h; exact .inr (.inl h); exact .inr (.inr h)⟩ rfl hL (fun x y _ _ _ => by omega) hrot (fun p h => h) (fun p h => h) ?_ ?_
  · intro x y x1 x2 x3
    have rx : rot i m (m + 1) x = x := rot_lo (by omega)
    by_cases hy : y < i
    · rw [hrot, hrot, rx, rot_lo hy]; exact hL _ _ x1 x2 (by omega)
    · have ry : rot i m (m + 1) y = m := by rw [rot_r (by omega) (by omega)]; omega
      rw [hrot, hrot, rx, ry]
      rcases low with h | h
      · omega
      · have := hL.le (i := x) (j := i - 1) x1 (by omega) (by omega); omega
  · intro x y x1 x2 x3
    rw [hrot, hrot, rot_l x1 (by omega), rot_l (by omega) x3]
    exact hL _ _ (by omega) (by omega) (by omega)
/-- What lies in the two parts behind the rotation. -/
structure Parts (cf : α → α → Int) (K : α → Int) (a s m e b mid : Nat) (d d1 : Array α) : Prop where
  cut : Cut K a s m e b d
  hmid : mid = s + (e - m)
  hL : Inc K a m d
  hR : Inc K m b d
  hX : ∀ i j, a ≤ i → i < m → m ≤ j → j < b → Cr cf K d[i]! d[j]!
  hrot : ∀ x, d1[x]! = d[rot s m e x]!
  size : d1.size = d.size
  perm : PermIn a b d d1
  hb : b ≤ d.size
variable {cf : α → α → Int} {K : α → Int} {a s m e b mid : Nat} {d d1 d2 d3 : Array α}
theorem Parts.l1 (P : Parts cf K a s m e b mid d d1) : Inc K a s d1 := fun i j h1 h2 h3 => by
  rw [P.hrot, P.hrot, rot_lo (by omega), rot_lo h3]; exact P.hL i j h1 h2 (by have := P.cut.o2; omega)
theorem Parts.l2 (P : Parts cf K a s m e b mid d d1) : Inc K s mid d1 := fun i j h1 h2 h3 => by
  have := P.hmid; have := P.cut.o2; have := P.cut.o3; have := P.cut.o4
  rw [P.hrot, P.hrot, rot_r h1 (by omega), rot_r (by omega) (by omega)]; exact P.hR _ _ (by omega) (by omega) (by omega)
theorem Parts.r1 (P : Parts cf K a s m e b mid d d1) : Inc K mid e d1 := fun i j h1 h2 h3 => by
  have := P.hmid; have := P.cut.o1; have := P.cut.o2; have := P.cut.o3
  rw [P.hrot, P.hrot, rot_l (by omega) (by omega), rot_l (by omega) h3]; exact P.hL _ _ (by omega) (by omega) (by omega)
theorem Parts.r2 (P : Parts cf K a s m e b mid d d1) : Inc K e b d1 := fun i j h1 h2 h3 => by
  rw [P.hrot, P.hrot, rot_hi h1 P.cut.o2 P.cut.o3, rot_hi (by omega) P.cut.o2 P.cut.o3]; exact P.hR _ _ (by have := P.cut.o3; omega) h2 h3
theorem Parts.lx (P : Parts cf K a s m e b mid d d1) : ∀ i j, a ≤ i → i < s → s ≤ j → j < mid → Cr cf K d1[i]! d1[j]! := fun i j h1 h2 h3 h4 => by
  have := P.hmid; have := P.cut.o2; have := P.cut.o3; have := P.cut.o4
  rw [P.hrot, P.hrot, rot_lo h2, rot_r h3 (by omega)]; exact P.hX _ _ h1 (by omega) (by omega) (by omega)
theorem Parts.rx (P : Parts cf K a s m e b mid d d1) : ∀ i j, mid ≤ i → i < e → e ≤ j → j < b → Cr cf K d1[i]! d1[j]! := fun i j h1 h2 h3 h4 => by
  have := P.hmid; have := P.cut.o1; have := P.cut.o2; have := P.cut.o3
  rw [P.hrot, P.hrot, rot_l (by omega) h2, rot_hi h3 P.cut.o2 P.cut.o3]; exact P.hX _ _ (by omega) (by omega) (by omega) h4
theorem Parts.left_none (P : Parts cf K a s m e b mid d d1) (h : ¬ (a < s ∧ s < mid)) : Inc K a mid d1 := by
  by_cases h1 : a < s
  · have : s = mid := by have := P.hmid; omega
    exact this ▸ P.l1
  · have : s = a := by have := P.cut.o1; omega
    exact this ▸ P.l2
theorem Parts.right_none (P : Parts cf K a s m e b mid d d1) (h : ¬ (mid < e ∧ e < b)) : Inc K mid b d1 := by
  by_cases h1 : mid < e
  · have : e = b := by have := P.cut.o4; omega
    exact this ▸ P.r1
  · have : e = mid := by have := P.hmid; have := P.cut.o2; have := P.cut.o3; omega
    exact this ▸ P.r2
theorem Parts.mid_le (P : Parts cf K a s m e b mid d d1) : a ≤ mid ∧ mid ≤ b := by
  have := P.hmid; have := P.cut.o1; have := P.cut.o2; have := P.cut.o3; have := P.cut.o4; omega
theorem Parts.right_of (P : Parts cf K a s m e b mid d d1) (P1 : PermIn a mid d1 d2) : (∀ i, mid ≤ i → d2[i]! = d1[i]!) ∧ Inc K mid e d2 ∧ Inc K e b d2 ∧ (∀ i j, mid ≤ i → i < e → e ≤ j → j < b → Cr cf K d2[i]! d2[j]!) ∧ (¬ (mid < e ∧ e < b) → Inc K mid b d2) := by
  have E : ∀ i, mid ≤ i → d2[i]! = d1[i]! := fun i h => P1.2.1 i (.inr h)
  have em : mid ≤ e := by have := P.hmid; have := P.cut.o2; have := P.cut.o3; omega
  refine ⟨E, P.r1.congr fun i h _ => E i h, P.r2.congr fun i h _ => E i (by omega), fun i j h1 h2 h3 h4 => ?_, fun h => (P.right_none h).congr fun i h _ => E i h⟩
  rw [E i h1, E j (by omega)]; exact P.rx i j h1 h2 h3 h4
theorem Parts.done (P : Parts cf K a s m e b mid d d1) (P1 : PermIn a mid d1 d2) (P2 : PermIn mid b d2 d3) (il : Inc K a mid d2) (ir : Inc K mid b d3) : d3.size = d.size ∧ PermIn a b d d3 ∧ Inc K a b d3 := by
  have ml := P.mid_le
  have s1 := P.size
  have hb := P.hb
  have s2 : d2.size = d1.size := P1.1
  have s3 : d3.size = d2.size := P2.1
  refine ⟨by omega, permIn_trans _ _ _ _ _ P.perm (permIn_trans _ _ _ _ _ (permIn_mono _ _ _ _ _ _ (Nat.le_refl _) ml.2 (by omega) P1) (permIn_mono _ _ _ _ _ _ ml.1 (Nat.le_refl _) (by omega) P2)), ?_⟩
  refine sym_join P.cut P.hmid P.hL P.hR P.hrot (fun p h i h1 h2 => ?_) (fun p h i h1 h2 => ?_) (il.congr fun i _ h => P2.2.1 i (.inl h)) ir
  · rw [P2.2.1 i (.inl h2)]
    exact permIn_all d1 d2 a mid p (by omega) P1 h i h1 h2
  · refine permIn_all d2 d3 mid b p (by omega) P2 (fun j h3 h4 => ?_) i h1 h2
    rw [P1.2.1 j (.inr h3)]; exact h j h3 h4
end Go.Proofs.Ytkejohmghacdhaa
