/- slices' stable sort at the slice of parts: stable, SortStableFunc. -/
import Derived.Test.YtkejohmghacdhaaSrtC
import Derived.Test.YtkejohmghacdhaaSrtD
namespace Go.Proofs.Ytkejohmghacdhaa
set_option linter.unusedVariables false
set_option linter.unusedSimpArgs false
open Go Go.Shelf Go.RowKit Go.Lib Go.Sort
variable {α : Type} [Inhabited α]
theorem blk_of {t k x : Nat} (h1 : k * t ≤ x) (h2 : x < k * t + t) : x / t = k :=
  Nat.div_eq_of_lt_le h1 (by rw [Nat.succ_mul]; exact h2)
/-- each stands in the block in which it stood first -/
def InBlk (A : α → Nat) (s n : Nat) (d : Array α) : Prop := ∀ i, i < n → A d[i]! / s = i / s
/-- each block ascends, below m -/
def IncB (K : α → Int) (s m : Nat) (d : Array α) : Prop := ∀ x y, x < y → y < m → x / s = y / s → K d[x]! < K d[y]!
theorem InBlk.first {A : α → Nat} {s n : Nat} {d : Array α} (h : ∀ i, i < n → A d[i]! = i) : InBlk A s n d := fun i hi => by rw [h i hi]
theorem InBlk.wider {A : α → Nat} {s n : Nat} {d : Array α} (h : InBlk A s n d) : InBlk A (2 * s) n d := fun i hi => by
  have := h i hi
  rw [Nat.mul_comm, ← Nat.div_div_eq_div_mul, ← Nat.div_div_eq_div_mul, this]
theorem InBlk.perm {A : α → Nat} {s n k b : Nat} {d d' : Array α} (h : InBlk A s n d) (hs : 0 < s) (hb : b ≤ k * s + s) (hn : b ≤ n) (hd : n ≤ d.size) (P : PermIn (k * s) b d d') : InBlk A s n d' := fun i hi => by
  by_cases h1 : k * s ≤ i ∧ i < b
  · have e : i / s = k := blk_of h1.1 (by omega)
    rw [e]
    exact permIn_all d d' (k * s) b (fun v => A v / s = k) (by omega) P (fun j h2 h3 => by rw [h j (by omega)]; exact blk_of h2 (by omega)) i h1.1 h1.2
  · rw [P.2.1 i (by omega)]; exact h i hi
theorem InBlk.cross {A : α → Nat} {cf : α → α → Int} {K : α → Int} {s n : Nat} {d : Array α} (h : InBlk A s n d) (hA : ∀ x y, A x < A y → Cr cf K x y) {i j : Nat} (hi : i < n) (hj : j < n) (hij : i / s < j / s) : Cr cf K d[i]! d[j]! := by
  refine hA _ _ ?_
  have h1 := h i hi
  have h2 := h j hj
  rcases Nat.lt_or_ge (A d[i]!) (A d[j]!) with h3 | h3
  · exact h3
  · have := Nat.div_le_div_right (c := s) h3
    omega
theorem blk_lt {t k x : Nat} (ht : 0 < t) (h : x < k * t) : x / t < k := (Nat.div_lt_iff_lt_mul ht).2 h
theorem blk_ge {t k x : Nat} (ht : 0 < t) (h : k * t ≤ x) : k ≤ x / t := (Nat.le_div_iff_mul_le ht).2 h
/-- one block more -/
theorem IncB.more {K : α → Int} {t k b : Nat} {d d' : Array α} (h : IncB K t (k * t) d) (ht : 0 < t) (P : PermIn (k * t) b d d') (hI : Inc K (k * t) b d') : IncB K t b d' := fun x y h1 h2 h3 => by
  by_cases hx : k * t ≤ x
  · exact hI x y hx h1 h2
  · have := blk_lt ht (show x < k * t by omega)
    by_cases hy : k * t ≤ y
    · have := blk_ge ht hy; omega
    · rw [P.2.1 x (by omega), P.2.1 y (by omega)]; exact h x y h1 (by omega) h3
theorem IncB.part {K : α → Int} {s n k a b : Nat} {ds d : Array α} (h : IncB K s n ds) (hd : ∀ i, a ≤ i → d[i]! = ds[i]!) (h1 : k * s ≤ a + 0) (h2 : b ≤ k * s + s) (h3 : b ≤ n) : Inc K a b d := fun x y h4 h5 h6 => by
  rw [hd x h4, hd y (by omega)]
  exact h x y h5 (by omega) (by rw [blk_of (t := s) (k := k) (x := x) (by omega) (by omega), blk_of (t := s) (k := k) (x := y) (by omega) (by omega)])
theorem IncB.whole {K : α → Int} {s n : Nat} {d : Array α} (h : IncB K s n d) (hn : n ≤ s) : Inc K 0 n d := fun x y _ h2 h3 => h x y h2 h3 (by rw [Nat.div_eq_of_lt (by omega), Nat.div_eq_of_lt (by omega)])
/-- How far the blocks of s are merged into those of twice as many: k of these, of d's, which was ds. -/
structure Rnd (A : α → Nat) (K : α → Int) (s n k : Nat) (d0 ds d : Array α) : Prop where
  size : d.size = d0.size
  perm : PermIn 0 n d0 d
  old : InBlk A s n ds
  inc : IncB K s n ds
  blk : InBlk A (2 * s) n d
  done : IncB K (2 * s) (k * (2 * s)) d
  rest : ∀ i, k * (2 * s) ≤ i → d[i]! = ds[i]!
theorem Rnd.start {A : α → Nat} {K : α → Int} {s n : Nat} {d0 ds : Array α} (h0 : ds.size = d0.size) (h1 : PermIn 0 n d0 ds) (h2 : InBlk A s n ds) (h3 : IncB K s n ds) : Rnd A K s n 0 d0 ds ds :=
  ⟨h0, h1, h2, h3, h2.wider, fun x y h4 h5 => by omega, fun _ _ => rfl⟩
variable {A : α → Nat} {cf : α → α → Int} {K : α → Int} {s n k : Nat} {d0 ds d : Array α}
theorem Rnd.even (s k : Nat) : 2 * k * s = k * (2 * s) := by rw [Nat.mul_comm 2 k, Nat.mul_assoc]
theorem Rnd.odd (s k : Nat) : (2 * k + 1) * s = k * (2 * s) + s := by rw [Nat.succ_mul, Rnd.even]
theorem Rnd.next (s k : Nat) : (k + 1) * (2 * s) = k * (2 * s) + 2 * s := Nat.succ_mul _ _
theorem Rnd.left (R : Rnd A K s n k d0 ds d) (h : k * (2 * s) + s ≤ n) : Inc K (k * (2 * s)) (k * (2 * s) + s) d :=
  R.inc.part (k := 2 * k) R.rest (by rw [Rnd.even]; omega) (by rw [Rnd.even]; omega) h
theorem Rnd.right (R : Rnd A K s n k d0 ds d) {b : Nat} (h1 : b ≤ k * (2 * s) + 2 * s) (h2 : b ≤ n) : Inc K (k * (2 * s) + s) b d :=
  R.inc.part (k := 2 * k + 1) (fun i h => R.rest i (by omega)) (by rw [Rnd.odd]; omega) (by rw [Rnd.odd]; omega) h2
theorem Rnd.cross (R : Rnd A K s n k d0 ds d) (hA : ∀ x y, A x < A y → Cr cf K x y) {b : Nat} (h1 : b ≤ k * (2 * s) + 2 * s) (h2 : b ≤ n) : ∀ i j, k * (2 * s) ≤ i → i < k * (2 * s) + s → k * (2 * s) + s ≤ j → j < b → Cr cf K d[i]! d[j]! := fun i j h3 h4 h5 h6 => by
  rw [R.rest i h3, R.rest j (by omega)]
  refine R.old.cross hA (by omega) (by omega) ?_
  rw [blk_of (t := s) (k := 2 * k) (x := i) (by rw [Rnd.even]; omega) (by rw [Rnd.even]; omega), blk_of (t := s) (k := 2 * k + 1) (x := j) (by rw [Rnd.odd]; omega) (by rw [Rnd.odd]; omega)]
  omega
theorem Rnd.more (R : Rnd A K s n k d0 ds d) (hs : 0 < s) (hn : n ≤ d0.size) {d' : Array α} (h1 : k * (2 * s) + 2 * s ≤ n) (P : PermIn (k * (2 * s)) (k * (2 * s) + 2 * s) d d') (hI : Inc K (k * (2 * s)) (k * (2 * s) + 2 * s) d') : Rnd A K s n (k + 1) d0 ds d' := by
  have hsz := R.size
  have hp : d'.size = d.size := P.1
  refine ⟨by omega, permIn_trans _ _ _ _ _ R.perm (permIn_mono _ _ _ _ _ _ (Nat.zero_le _) h1 (by omega) P), R.old, R.inc, R.blk.perm (by omega) (Nat.le_refl _) h1 (by omega) P, ?_, fun i h => ?_⟩
  · rw [Rnd.next]; exact R.done.more (by omega) P hI
  · rw [Rnd.next] at h; rw [P.2.1 i (.inr h)]; exact R.rest i (by omega)
/-- the last piece -/
theorem Rnd.last (R : Rnd A K s n k d0 ds d) (hs : 0 < s) (hn : n ≤ d0.size) {d' : Array α} (h0 : n < k * (2 * s) + 2 * s) (h1 : k * (2 * s) ≤ n) (P : PermIn (k * (2 * s)) n d d') (hI : Inc K (k * (2 * s)) n d') : d'.size = d0.size ∧ PermIn 0 n d0 d' ∧ InBlk A (2 * s) n d' ∧ IncB K (2 * s) n d' := by
  have hsz := R.size
  have hp : d'.size = d.size := P.1
  exact ⟨by omega, permIn_trans _ _ _ _ _ R.perm (permIn_mono _ _ _ _ _ _ (Nat.zero_le _) (Nat.le_refl _) (by omega) P), R.blk.perm (by omega) (by omega) (Nat.le_refl _) (by omega) P, R.done.more (by omega) P hI⟩
theorem Rnd.none (R : Rnd A K s n k d0 ds d) (hs : 0 < s) (hn : n ≤ d0.size) (h0 : n ≤ k * (2 * s) + s) (h1 : k * (2 * s) ≤ n) : d.size = d0.size ∧ PermIn 0 n d0 d ∧ InBlk A (2 * s) n d ∧ IncB K (2 * s) n d :=
  R.last hs hn (by omega) h1 (permIn_refl _ _ _) (R.inc.part (k := 2 * k) R.rest (by rw [Rnd.even]; omega) (by rw [Rnd.even]; omega) (Nat.le_refl _))
/-- How far the blocks of 20 are sorted: k of them. -/
structure Ins20 (A : α → Nat) (K : α → Int) (n k : Nat) (d0 d : Array α) : Prop where
  size : d.size = d0.size
  perm : PermIn 0 n d0 d
  blk : InBlk A 20 n d
  done : IncB K 20 (k * 20) d
  rest : ∀ i, k * 20 ≤ i → d[i]! = d0[i]!
theorem Ins20.start (hA : ∀ i, i < n → A d0[i]! = i) : Ins20 A K n 0 d0 d0 :=
  ⟨rfl, permIn_refl _ _ _, .first hA, fun x y h4 h5 => by omega, fun _ _ => rfl⟩
theorem Ins20.cross (S : Ins20 A K n k d0 d) (hA : ∀ i, i < n → A d0[i]! = i) (hC : ∀ x y, A x < A y → Cr cf K x y) : ∀ i j, k * 20 ≤ i → i < j → j < n → Cr cf K d[i]! d[j]! := fun i j h1 h2 h3 => by
  rw [S.rest i h1, S.rest j (by omega)]
  exact hC _ _ (by rw [hA i (by omega), hA j h3]; exact h2)
theorem Ins20.more (S : Ins20 A K n k d0 d) (hn : n ≤ d0.size) {d' : Array α} (h1 : k * 20 + 20 ≤ n) (P : PermIn (k * 20) (k * 20 + 20) d d') (hI : Inc K (k * 20) (k * 20 + 20) d') : Ins20 A K n (k + 1) d0 d' := by
  have hsz := S.size
  have hp : d'.size = d.size := P.1
  refine ⟨by omega, permIn_trans _ _ _ _ _ S.perm (permIn_mono _ _ _ _ _ _ (Nat.zero_le _) h1 (by omega) P), S.blk.perm (by omega) (Nat.le_refl _) h1 (by omega) P, ?_, fun i h => ?_⟩
  · rw [Nat.succ_mul]; exact S.done.more (by omega) P hI
  · rw [Nat.succ_mul] at h; rw [P.2.1 i (.inr h)]; exact S.rest i (by omega)
theorem Ins20.last (S : Ins20 A K n k d0 d) (hn : n ≤ d0.size) {d' : Array α} (h0 : n < k * 20 + 20) (h1 : k * 20 ≤ n) (P : PermIn (k * 20) n d d') (hI : Inc K (k * 20) n d') : d'.size = d0.size ∧ PermIn 0 n d0 d' ∧ InBlk A 20 n d' ∧ IncB K 20 n d' := by
  have hsz := S.size
  have hp : d'.size = d.size := P.1
  exact ⟨by omega, permIn_trans _ _ _ _ _ S.perm (permIn_mono _ _ _ _ _ _ (Nat.zero_le _) (Nat.le_refl _) (by omega) P), S.blk.perm (by omega) (by omega) (Nat.le_refl _) (by omega) P, S.done.more (by omega) P hI⟩
set_option maxHeartbeats 8000000 in
set_option maxRecDepth 1000000 in
theorem stable_any (k : Nat) (aE : ∀ w, (isAgg 73).run Try.prog w = .ok true w) (zE : ∀ w, (Go.sizeOf 73).run Try.prog w = .ok k w) (enc : α → List Value) (cf : α → α → Int) (K : α → Int) (A : α → Nat) (g : Nat) (cb : Array Value) (blk off cap n : Nat) (d0 : Array α) (w0 : World)
    (eg : ∀ args w, (callFunc g args).run Try.prog w = .ok (.enter g args) w) (hn : d0.size = n) (hcmp : CmpLays Try.prog g cb enc k cf blk off d0.size w0) (R : RowK enc k w0 blk off d0) (hsz : n ≤ 4096)
    (hA : ∀ i, i < n → A d0[i]! = i) (hC : ∀ x y, A x < A y → Cr cf K x y) (w : World) (S : SWK enc k w0 blk off d0 w) :
    Calls Try.prog 73 #[.slice (some ⟨blk, off, none⟩) n cap, .int .i64 n, .func (.func g) #[] cb] w fun e w' => e = .returned (.tuple #[]) ∧ ∃ d', d'.size = n ∧ SWK enc k w0 blk off d' w' ∧ PermIn 0 n d0 d' ∧ Inc K 0 n d' := by
  have CI : Aside (∀ (a b : Nat) (d : Array α) (w : World), d.size = n → SWK enc k w0 blk off d w → a ≤ b → b ≤ n → (∀ i j, a ≤ i → i < j → j < b → Cr cf K d[i]! d[j]!) →
      Calls Try.prog 86 #[.slice (some ⟨blk, off, none⟩) n cap, .int .i64 a, .int .i64 b, .func (.func g) #[] cb] w fun e w' => e = .returned (.tuple #[]) ∧ ∃ d', d'.size = n ∧ SWK enc k w0 blk off d' w' ∧ PermIn a b d d' ∧ Inc K a b d') := fun a b d w h1 h2 h3 h4 h5 => by
    have := insertion_any k aE zE enc cf K g cb blk off cap d0 w0 eg hcmp R (by omega) a b d w (by omega) h2 h3 (by omega) h5
    rw [h1] at this
    exact this
  have CM : Aside (∀ (a m b : Nat) (d : Array α) (w : World), d.size = n → SWK enc k w0 blk off d w → a < m → m < b → b ≤ n → Inc K a m d → Inc K m b d → (∀ i j, a ≤ i → i < m → m ≤ j → j < b → Cr cf K d[i]! d[j]!) →
      Calls Try.prog 87 #[.slice (some ⟨blk, off, none⟩) n cap, .int .i64 a, .int .i64 m, .int .i64 b, .func (.func g) #[] cb] w fun e w' => e = .returned (.tuple #[]) ∧ ∃ d', d'.size = n ∧ SWK enc k w0 blk off d' w' ∧ PermIn a b d d' ∧ Inc K a b d') := fun a m b d w h1 h2 h3 h4 h5 h6 h7 h8 => by
    have := symMerge_any k aE zE enc cf K g cb blk off cap d0 w0 eg hcmp R (by omega) (b - a) a m b d w (Nat.le_refl _) (by omega) h2 h3 h4 (by omega) h6 h7 h8
    rw [h1] at this
    exact this
  have S0 : Aside (SWK enc k w0 blk off d0 w) := S
  have HA : Aside (∀ i, i < n → A d0[i]! = i) := hA
  have HC : Aside (∀ x y, A x < A y → Cr cf K x y) := hC
  have HN : Aside (d0.size = n) := hn
  clear S hA hC hcmp hn
  go_enter Try.func73, Try.ntmps73
  go_wp2
  go_loopg [7, 8] (n + 20) (fun kx s7 s8 wr => ∃ (q a b : Nat) (d : Array α), s7 = .int .i64 a ∧ s8 = .int .i64 b ∧ Aside (a = q * 20) ∧ a + 20 ≤ b ∧ b ≤ a + 20 ∧ a ≤ n ∧ n + 20 - b ≤ kx ∧ Aside (SWK enc k w0 blk off d wr) ∧ Aside (Ins20 A K n q d0 d))
  case atStart => exact ⟨0, 0, 20, d0, rfl, rfl, rfl, by omega, by omega, by omega, by omega, S0, Ins20.start HA.out⟩
  case round =>
    clear S0
    obtain ⟨q, a, b, d, rfl, rfl, HQ, hb1, hb2, han, hkx, S1, I1⟩ := hrel
    have hd : d.size = n := by rw [I1.out.size]; exact HN.out
    have X1 : Aside (∀ i j, a ≤ i → i < j → j < n → Cr cf K d[i]! d[j]!) := by have := I1.out.cross HA.out HC.out; rw [← HQ.out] at this; exact this
    by_cases hlt : b ≤ n
    · have hz : (b : Int) ≤ (n : Int) := by omega
      have C := CI.out a b d _ hd S1.out (by omega) hlt (fun i j h1 h2 h3 => X1.out i j h1 h2 (by omega))
      have HD := Lib.hid hd
      clear hd X1
      go_wp2_with fail
      refine C.mono ?_
      rintro ex w2 ⟨rfl, d1, hd1, S2, hp, hi⟩
      have I2 : Aside (Ins20 A K n (q + 1) d0 d1) := I1.out.more (by have := HN.out; omega) (by have := HQ.out; omega) (by rw [← HQ.out, show a + 20 = b by omega]; exact hp) (by rw [← HQ.out, show a + 20 = b by omega]; exact hi)
      have Q2 : Aside (b = (q + 1) * 20) := by have := HQ.out; show b = _; omega
      have S2 : Aside (SWK enc k w0 blk off d1 w2) := S2
      clear hp hi C S1 I1 HQ hd1 HD
      have wb : IntKind.i64.wrap ((b : Int) + 20) = (b : Int) + 20 := by rw [IntKind.wrap_i64]; omega
      go_wp2
      go_roundg (n + 20 - (b + 20))
      case measure => omega
      case rel => exact ⟨q + 1, b, b + 20, d1, rfl, by first | rfl | go_num | simp, Q2, by omega, by omega, by omega, by omega, S2, I2⟩
    · have hz : ¬ (b : Int) ≤ (n : Int) := by omega
      have hz2 : (n : Int) < (b : Int) := by omega
      have C := CI.out a n d _ hd S1.out (by omega) (Nat.le_refl _) (fun i j h1 h2 h3 => X1.out i j h1 h2 h3)
      have HD := Lib.hid hd
      clear hd X1
      go_wp2_with fail
      refine C.mono ?_
      rintro ex w2 ⟨rfl, d1, hd1, S2, hp, hi⟩
      have L1 : Aside (d1.size = d0.size ∧ PermIn 0 n d0 d1 ∧ InBlk A 20 n d1 ∧ IncB K 20 n d1) := I1.out.last (by have := HN.out; omega) (by have := HQ.out; omega) (by have := HQ.out; omega) (by rw [← HQ.out]; exact hp) (by rw [← HQ.out]; exact hi)
      have S2 : Aside (SWK enc k w0 blk off d1 w2) := S2
      clear hp hi C S1 I1 HQ hd1 HD hz hz2 hlt hkx han hb1 hb2
      go_wp2
      go_loopg [6] n (fun kx s6 wr => ∃ (s : Nat) (d : Array α), s6 = .int .i64 s ∧ 0 < s ∧ s ≤ 8192 ∧ n - s ≤ kx ∧ Aside (SWK enc k w0 blk off d wr) ∧ Aside (d.size = d0.size ∧ PermIn 0 n d0 d ∧ InBlk A s n d ∧ IncB K s n d))
      case atStart => exact ⟨20, d1, rfl, by omega, by omega, by omega, S2, L1⟩
      case round =>
        clear S2 L1
        obtain ⟨s, ds, rfl, hs0, hs1, hkx, S1, L1⟩ := hrel
        by_cases hsn : s < n
        · have hsz2 : (s : Int) < (n : Int) := by omega
          have w2s : IntKind.i64.wrap (2 * (s : Int)) = 2 * (s : Int) := by rw [IntKind.wrap_i64]; omega
          have w3s : IntKind.i64.wrap ((s : Int) * 2) = (s : Int) * 2 := by rw [IntKind.wrap_i64]; omega
          have R0 : Aside (Rnd A K s n 0 d0 ds ds) := Rnd.start L1.out.1 L1.out.2.1 L1.out.2.2.1 L1.out.2.2.2
          clear L1
          go_wp2
          go_loopg [7, 8] (n + 2 * s) (fun ky s7 s8 wr => ∃ (q a b : Nat) (d : Array α), s7 = .int .i64 a ∧ s8 = .int .i64 b ∧ Aside (a = q * (2 * s)) ∧ a + 2 * s ≤ b ∧ b ≤ a + 2 * s ∧ a ≤ n ∧ n + 2 * s - b ≤ ky ∧ Aside (SWK enc k w0 blk off d wr) ∧ Aside (Rnd A K s n q d0 ds d))
          case atStart => exact ⟨0, 0, 2 * s, ds, rfl, by first | rfl | go_num | simp, by show _ = _; simp, by omega, by omega, by omega, by omega, S1, R0⟩
          case round =>
            clear S1 R0
            obtain ⟨q, a, b, d, rfl, rfl, HQ, hb1, hb2, han, hky, S1, I1⟩ := hrel
            have hd : d.size = n := by rw [I1.out.size]; exact HN.out
            have was : IntKind.i64.wrap ((a : Int) + (s : Int)) = (a : Int) + (s : Int) := by rw [IntKind.wrap_i64]; omega
            by_cases hlt : b ≤ n
            · have hz : (b : Int) ≤ (n : Int) := by omega
              have L := I1.out.left (by have := HQ.out; omega)
              have Rt := I1.out.right (b := b) (by have := HQ.out; omega) hlt
              have X := I1.out.cross HC.out (b := b) (by have := HQ.out; omega) hlt
              rw [← HQ.out] at L Rt X
              have C := CM.out a (a + s) b d _ hd S1.out (by omega) (by omega) hlt L Rt X
              have HD := Lib.hid hd
              clear hd L Rt X
              go_wp2_with fail
              refine C.mono ?_
              rintro ex w2 ⟨rfl, d1, hd1, S2, hp, hi⟩
              have I2 : Aside (Rnd A K s n (q + 1) d0 ds d1) := I1.out.more hs0 (by have := HN.out; omega) (by have := HQ.out; omega) (by rw [← HQ.out, show a + 2 * s = b by omega]; exact hp) (by rw [← HQ.out, show a + 2 * s = b by omega]; exact hi)
              have Q2 : Aside (b = (q + 1) * (2 * s)) := by have := HQ.out; have e := Rnd.next s q; show b = _; omega
              have S2 : Aside (SWK enc k w0 blk off d1 w2) := S2
              clear hp hi C S1 I1 HQ hd1 HD was
              have wb : IntKind.i64.wrap ((b : Int) + 2 * (s : Int)) = (b : Int) + 2 * (s : Int) := by rw [IntKind.wrap_i64]; omega
              go_wp2
              go_roundg (n + 2 * s - (b + 2 * s))
              case measure => omega
              case rel => exact ⟨q + 1, b, b + 2 * s, d1, rfl, by first | rfl | go_num | simp, Q2, by omega, by omega, by omega, by omega, S2, I2⟩
            · have hz : ¬ (b : Int) ≤ (n : Int) := by omega
              have hz2 : (n : Int) < (b : Int) := by omega
              by_cases hm : a + s < n
              · have hmz : (a : Int) + (s : Int) < (n : Int) := by omega
                have L := I1.out.left (by have := HQ.out; omega)
                have Rt := I1.out.right (b := n) (by have := HQ.out; omega) (Nat.le_refl _)
                have X := I1.out.cross HC.out (b := n) (by have := HQ.out; omega) (Nat.le_refl _)
                rw [← HQ.out] at L Rt X
                have C := CM.out a (a + s) n d _ hd S1.out (by omega) (by omega) (Nat.le_refl _) L Rt X
                have HD := Lib.hid hd
                clear hd L Rt X
                go_wp2_with fail
                refine C.mono ?_
                rintro ex w2 ⟨rfl, d1, hd1, S2, hp, hi⟩
                have L2 : Aside (d1.size = d0.size ∧ PermIn 0 n d0 d1 ∧ InBlk A (2 * s) n d1 ∧ IncB K (2 * s) n d1) := I1.out.last hs0 (by have := HN.out; omega) (by have := HQ.out; omega) (by have := HQ.out; omega) (by rw [← HQ.out]; exact hp) (by rw [← HQ.out]; exact hi)
                have S2 : Aside (SWK enc k w0 blk off d1 w2) := S2
                clear hp hi C S1 I1 HQ hd1 HD was
                go_wp2
                go_roundg (n - 2 * s)
                case measure => omega
                case rel => exact ⟨2 * s, d1, by first | rfl | go_num | (congr 1; omega), by omega, by omega, Nat.le_refl _, S2, L2⟩
              · have hmz : ¬ (a : Int) + (s : Int) < (n : Int) := by omega
                have L2 : Aside (d.size = d0.size ∧ PermIn 0 n d0 d ∧ InBlk A (2 * s) n d ∧ IncB K (2 * s) n d) := I1.out.none hs0 (by have := HN.out; omega) (by have := HQ.out; omega) (by have := HQ.out; omega)
                clear I1 HQ hd
                go_wp2
                go_roundg (n - 2 * s)
                case measure => omega
                case rel => exact ⟨2 * s, d, by first | rfl | go_num | (congr 1; omega), by omega, by omega, Nat.le_refl _, S1, L2⟩
        · have hsz2 : ¬ (s : Int) < (n : Int) := by omega
          go_wp2
          go_end0
          exact ⟨rfl, ds, by rw [L1.out.1]; exact HN.out, S1.out, L1.out.2.1, L1.out.2.2.2.whole (by omega)⟩
end Go.Proofs.Ytkejohmghacdhaa
