import Derived.Test.YtkejohmghacdhaaShG
import Derived.Test.YtkejohmghacdhaaKitV
import Derived.Test.YtkejohmghacdhaaOwn
import Derived.Maps.AppendAt
namespace Go.Proofs.Ytkejohmghacdhaa
set_option linter.unusedVariables false
set_option linter.unusedSimpArgs false
open Go Go.RowKit
theorem In_get {xs : List Int} (h : ∀ x ∈ xs, In x) : ∀ k, k < xs.length → In (xs.getD k 0) := fun k hk => by
  have : xs.getD k 0 = xs[k] := by simp [List.getD, hk]
  rw [this]; exact h _ (List.getElem_mem hk)
theorem mem_get {xs : List Int} (h : ∀ j, j < xs.length → -2147483648 ≤ xs.getD j 0 ∧ xs.getD j 0 ≤ 2147483647) : ∀ x ∈ xs, -2147483648 ≤ x ∧ x ≤ 2147483647 := fun x hx => by
  obtain ⟨j, hj, rfl⟩ := List.getElem_of_mem hx
  have := h j hj
  have e : xs.getD j 0 = xs[j] := by simp [List.getD, hj]
  rwa [e] at this
theorem OwnI.sl {w : World} {base n cap : Nat} {a : Option Addr} {xs : List Int} (h : OwnI w base (.slice a n cap) xs) : SlI .i64 w a xs := by
  obtain ⟨a', cap', h1, h2, _⟩ := h.shape
  cases h1
  exact h2
theorem RowF.val {w : World} {b n : Nat} {f : Nat → Int} (h : RowF w b n f) (j : Nat) (hj : j < n) {v : Int} (e : f j = v) : w.cell? ⟨b, j, none⟩ = some (.int .i64 v) := e ▸ (h j hj).1
/-- Three slices of the call's own, apart. -/
structure Own3 (w0 W : World) (v1 v2 v3 : Value) (l1 l2 l3 : List Int) : Prop where
  below : Below w0.heap.size w0 W
  o1 : OwnI W w0.heap.size v1 l1
  o2 : OwnI W w0.heap.size v2 l2
  o3 : OwnI W w0.heap.size v3 l3
  d12 : ∀ k, v1.ownBlock = some k → v2.ownBlock ≠ some k
  d13 : ∀ k, v1.ownBlock = some k → v3.ownBlock ≠ some k
  d23 : ∀ k, v2.ownBlock = some k → v3.ownBlock ≠ some k
variable {w0 W W' : World} {v1 v2 v3 v' : Value} {l1 l2 l3 : List Int}
theorem Own3.rot (S : Own3 w0 W v1 v2 v3 l1 l2 l3) : Own3 w0 W v2 v3 v1 l2 l3 l1 :=
  ⟨S.below, S.o2, S.o3, S.o1, S.d23, fun k h1 h2 => S.d12 k h2 h1, fun k h1 h2 => S.d13 k h2 h1⟩
theorem Own3.app1 (S : Own3 w0 W v1 v2 v3 l1 l2 l3) (o : Obj) (x : Int) (h : OwnI W' w0.heap.size v' (l1 ++ [x])) (hg : (W.alloc o).grownBy W' v1.ownBlock) (hb : v'.ownBlock = v1.ownBlock ∨ v'.ownBlock = some (W.heap.size + 1)) : Own3 w0 W' v' v2 v3 (l1 ++ [x]) l2 l3 := by
  have k2 : v2.ownBlock = none ∨ v2.ownBlock ≠ v1.ownBlock := by
    cases h2 : v2.ownBlock with
    | none => exact .inl rfl
    | some k => exact .inr fun h3 => S.d12 k h3.symm h2
  have k3 : v3.ownBlock = none ∨ v3.ownBlock ≠ v1.ownBlock := by
    cases h2 : v3.ownBlock with
    | none => exact .inl rfl
    | some k => exact .inr fun h3 => S.d13 k h3.symm h2
  have f : ∀ (v : Value) (l : List Int), OwnI W w0.heap.size v l → (∀ k, v1.ownBlock = some k → v.ownBlock ≠ some k) → ∀ k, v'.ownBlock = some k → v.ownBlock ≠ some k := fun v l ho hd k h1 h2 => by
    rcases hb with hb | hb
    · exact hd k (hb ▸ h1) h2
    · have := (World.ownsRow.lt (h := ho) k h2).2
      have : k = W.heap.size + 1 := Option.some.inj (h1.symm.trans hb)
      omega
  exact ⟨OwnI.below (World.ownsRow.alloc (h := S.o1) _) (bl_alloc S.below _) (Nat.le_refl _) hg, h, World.ownsRow.kept (h := World.ownsRow.alloc (h := S.o2) _) hg k2, World.ownsRow.kept (h := World.ownsRow.alloc (h := S.o3) _) hg k3, f _ _ S.o2 S.d12, f _ _ S.o3 S.d13, S.d23⟩
theorem Own3.app2 (S : Own3 w0 W v1 v2 v3 l1 l2 l3) (o : Obj) (x : Int) (h : OwnI W' w0.heap.size v' (l2 ++ [x])) (hg : (W.alloc o).grownBy W' v2.ownBlock) (hb : v'.ownBlock = v2.ownBlock ∨ v'.ownBlock = some (W.heap.size + 1)) : Own3 w0 W' v1 v' v3 l1 (l2 ++ [x]) l3 :=
  (S.rot.app1 o x h hg hb).rot.rot
theorem Own3.app3 (S : Own3 w0 W v1 v2 v3 l1 l2 l3) (o : Obj) (x : Int) (h : OwnI W' w0.heap.size v' (l3 ++ [x])) (hg : (W.alloc o).grownBy W' v3.ownBlock) (hb : v'.ownBlock = v3.ownBlock ∨ v'.ownBlock = some (W.heap.size + 1)) : Own3 w0 W' v1 v2 v' l1 l2 (l3 ++ [x]) :=
  (S.rot.rot.app1 o x h hg hb).rot
theorem Own3.start (h : Below w0.heap.size w0 W) : Own3 w0 W (.slice none 0 0) (.slice none 0 0) (.slice none 0 0) [] [] [] :=
  ⟨h, own_nil _ _, own_nil _ _, own_nil _ _, fun k h => (by cases h), fun k h => (by cases h), fun k h => (by cases h)⟩
/-- the third list behind i rounds -/
def moreL (K : Nat) (xs : List Int) (i : Nat) : List Int := if i ≤ K then xs.take i else insZ K (xs.take i)
theorem insZ_snoc {K : Nat} {l : List Int} (x : Int) (h : K ≤ l.length) : insZ K (l ++ [x]) = insZ K l ++ [x] := by
  unfold insZ
  rw [List.take_append_of_le_length h, List.drop_append_of_le_length h]; simp
theorem insZ_end (l : List Int) : insZ l.length l = l ++ [0] := by simp [insZ]
theorem take_snoc (xs : List Int) (i : Nat) (h : i < xs.length) : xs.take (i + 1) = xs.take i ++ [xs.getD i 0] := by
  rw [List.take_succ_eq_append_getElem h]; congr 2; simp [List.getD, h]
theorem moreL_at {K i : Nat} {xs : List Int} (h : i = K) (hi : i < xs.length) : moreL K xs (i + 1) = moreL K xs i ++ [0] ++ [xs.getD i 0] := by
  subst h
  unfold moreL
  rw [if_neg (by omega), if_pos (Nat.le_refl _), take_snoc xs i hi, insZ_snoc _ (by simp; omega)]
  congr 1
  have := insZ_end (xs.take i)
  rwa [List.length_take, Nat.min_eq_left (by omega)] at this
theorem moreL_other {K i : Nat} {xs : List Int} (h : i ≠ K) (hi : i < xs.length) : moreL K xs (i + 1) = moreL K xs i ++ [xs.getD i 0] := by
  unfold moreL
  by_cases h1 : i ≤ K
  · rw [if_pos (by omega), if_pos h1, take_snoc xs i hi]
  · rw [if_neg (by omega), if_neg h1, take_snoc xs i hi, insZ_snoc _ (by simp; omega)]
theorem moreL_len {K i : Nat} {xs : List Int} (hi : i ≤ xs.length) : (moreL K xs i).length ≤ i + 1 := by
  unfold moreL
  split
  · simp; omega
  · rw [len_insZ (by simp; omega)]; simp; omega
theorem moreL_end {K : Nat} {xs : List Int} (h : K ≤ xs.length) : moreL K xs xs.length = if xs.length ≤ K then xs else insZ K xs := by unfold moreL; rw [List.take_length]
theorem times_snoc (xs : List Int) (c : Int) (i : Nat) (h : i < xs.length) : (xs.take (i + 1)).map (· * c) = (xs.take i).map (· * c) ++ [xs.getD i 0 * c] := by
  rw [take_snoc xs i h]; simp
-- walk
theorem head_some {b n cap K : Nat} (h : K ≤ cap) (hc : 0 < cap) (w : World) : (Instr.slice 41 (.slice (some ⟨b, 0, none⟩) n cap) none (some (.int .i64 (K : Int))) none).run Try.prog w = .ok (.slice (some ⟨b, 0, none⟩) K cap) w := by
  rw [run_slice_h w 41 (some ⟨b, 0, none⟩) n cap (by rw [show Try.prog.elem 41 = 2 by kernel_rfl]; exact Try.underlying41) .i64 K (by omega) (by omega), show Try.prog.elem 41 = 2 by kernel_rfl, (show (sizeOf 2).run Try.prog w = .ok 1 w by kernel_rfl)]
  simp [Result.andThen, sliced, Addr.add]
theorem tail_some {b n cap K : Nat} (h : K ≤ n) (hc : n ≤ cap) : ∃ off, (∀ w, (Instr.slice 41 (.slice (some ⟨b, 0, none⟩) n cap) (some (.int .i64 (K : Int))) none none).run Try.prog w = .ok (.slice (some ⟨b, off, none⟩) (n - K) (cap - K)) w) ∧ (K < n → off = K) := by
  refine ⟨if cap = K then 0 else K, fun w => ?_, fun hk => by rw [if_neg (by omega)]⟩
  rw [run_slice_l w 41 (some ⟨b, 0, none⟩) n cap (by rw [show Try.prog.elem 41 = 2 by kernel_rfl]; exact Try.underlying41) .i64 K (by omega) (by omega), show Try.prog.elem 41 = 2 by kernel_rfl, (show (sizeOf 2).run Try.prog w = .ok 1 w by kernel_rfl)]
  simp [Result.andThen, sliced, Addr.add]
  split <;> first | (simp; done) | (simp; omega)
set_option maxRecDepth 100000 in
set_option maxHeartbeats 8000000 in
theorem shareScale_any (a : Int) (xs : List Int) (ad : Option Addr) (cap : Nat) (c at_ : Int) (w : World) (ha : In a) (hn : xs.length ≤ 9223372036854775807) (hx : ∀ j, j < xs.length → -2147483648 ≤ xs.getD j 0 ∧ xs.getD j 0 ≤ 2147483647) (hs : SlI .i32 w ad xs) (hc : 0 ≤ c ∧ c ≤ 65535) (hat : 0 ≤ at_ ∧ at_ ≤ 255) :
    Calls Try.prog 9 #[.int .i64 a, .slice ad xs.length cap, .int .u16 c, .int .u8 at_] w fun e w' => e = .returned (.bool true) ∧ Below w.heap.size w w' := by
  obtain ⟨n, hl⟩ : ∃ n, xs.length = n := ⟨_, rfl⟩
  have HS := Lib.hid hs
  have HX := Lib.hid hx
  have HL := Lib.hid hl
  rw [hl] at hn ⊢
  clear hs hx hl
  obtain ⟨hc0, hc1⟩ := hc
  by_cases h : 60 < (n : Int)
  · have h' : decide (60 < (n : Int)) = true := decide_eq_true h
    go_enter Try.func9, Try.ntmps9
    go_wp2_with fail
    refine (live4 _).mono ?_
    rintro e w1 ⟨rfl, hb1⟩
    go_wp2_with fail
    go_ret
    exact ⟨rfl, (by repeat (with_reducible (first | exact Below.refl _ _ | assumption | refine bl_alloc ?_ _ | refine bl_drewN ?_ _ | refine bl_drew ?_ | refine bl_call ?_ (by assumption) | (refine bl_setCell ?_ _ (Nat.le_refl _)) | (refine bl_setCell ?_ _ (by first | omega | (simp; done) | (simp; omega))))))⟩
  have h' : decide (60 < (n : Int)) = false := decide_eq_false h
  by_cases hz : c = 0
  · subst hz
    go_enter Try.func9, Try.ntmps9
    go_wp2_with fail
    refine (live4 _).mono ?_
    rintro e w1 ⟨rfl, hb1⟩
    go_wp2_with fail
    go_ret
    exact ⟨rfl, (by repeat (with_reducible (first | exact Below.refl _ _ | assumption | refine bl_alloc ?_ _ | refine bl_drewN ?_ _ | refine bl_drew ?_ | refine bl_call ?_ (by assumption) | (refine bl_setCell ?_ _ (Nat.le_refl _)) | (refine bl_setCell ?_ _ (by first | omega | (simp; done) | (simp; omega))))))⟩
  have hz' : (c == 0) = false := by simpa using hz
  have hn1 : (n : Int) ≤ 60 := by omega
  obtain ⟨K, hK⟩ : ∃ K : Nat, at_ % ((n : Int) + 1) = (K : Int) := ⟨(at_ % ((n : Int) + 1)).toNat, (Int.toNat_of_nonneg (Int.emod_nonneg _ (by omega))).symm⟩
  have hKn : K ≤ n := by have := Int.emod_lt_of_pos at_ (show (0 : Int) < (n : Int) + 1 by omega); omega
  obtain ⟨hat0, hat1⟩ := hat
  obtain ⟨i0, hi, hz0, hz1, hz2⟩ := info_parts info_i64
  have INF := Lib.hid (And.intro hi (And.intro hz0 (And.intro hz1 hz2)))
  clear hi hz0 hz1 hz2
  go_enter Try.func9, Try.ntmps9
  go_wp2_with fail
  refine (live4 _).mono ?_
  rintro e w1 ⟨rfl, hb1⟩
  have S1 : Aside (Own3 w w1 (.slice none 0 0) (.slice none 0 0) (.slice none 0 0) [] [] []) := Own3.start hb1
  clear hb1
  go_wp2
  rw [hK]
  clear hK
  go_loopw [10, 11, 12, 38] (fun p t m i wr => ∃ k : Nat, k ≤ n ∧ i = .int .i64 k ∧ Aside (Own3 w wr p t m (xs.take k) ((xs.take k).map (· * c)) (moreL K xs k))) (fun _ _ _ i _ => n - (intOf i).toNat)
  case atStart => exact ⟨0, by omega, rfl, by simpa [moreL] using S1⟩
  case round =>
    clear S1
    obtain ⟨k, hk, rfl, S1⟩ := hrel
    by_cases hlt : k < n
    · have hzk : (k : Int) < (n : Int) := by omega
      obtain ⟨b, off, ea, hbz, hcc⟩ := HS.out.at k (by rw [HL.out]; exact hlt)
      subst ea
      have hcell : wr.cell? ⟨b, off + k, none⟩ = some (.int .i32 (xs.getD k 0)) := (S1.out.below.cell (p := ⟨b, off + k, none⟩) hbz).trans (hcc k (by rw [HL.out]; exact hlt))
      have hxk := HX.out k (by rw [HL.out]; exact hlt)
      have T1 := Lib.hid (take_snoc xs k (by rw [HL.out]; exact hlt))
      have T2 := Lib.hid (times_snoc xs c k (by rw [HL.out]; exact hlt))
      have T3 : Hid (k ≠ K → moreL K xs (k + 1) = moreL K xs k ++ [xs.getD k 0]) := fun h => moreL_other h (by rw [HL.out]; exact hlt)
      have T4 : Hid (k = K → moreL K xs (k + 1) = moreL K xs k ++ [0] ++ [xs.getD k 0]) := fun h => moreL_at h (by rw [HL.out]; exact hlt)
      have L1 := Lib.hid (show (xs.take k).length = k by have := HL.out; simp; omega)
      have L2 := Lib.hid (show ((xs.take k).map (· * c)).length = k by have := HL.out; simp; omega)
      have L3 := Lib.hid (moreL_len (K := K) (xs := xs) (i := k) (by rw [HL.out]; exact hk))
      obtain ⟨x, hxe⟩ : ∃ x, xs.getD k 0 = x := ⟨_, rfl⟩
      rw [hxe] at hcell hxk T1 T2 T3 T4
      have hm1 := Int.mul_le_mul_of_nonneg_right hxk.2 hc0
      have hm2 := Int.mul_le_mul_of_nonneg_right hxk.1 hc0
      obtain ⟨hx0, hx1⟩ := hxk
      have hwr : IntKind.i64.wrap (x * c) = x * c := by rw [IntKind.wrap_i64]; omega
      clear hcc hm1 hm2 hxe
      generalize xs.take k = l1 at *
      generalize l1.map (· * c) = l2 at *
      generalize moreL K xs k = l3 at *
      by_cases hkK : k = K
      · have e1 : ((k : Int) == (K : Int)) = true := by rw [hkK]; simp
        have T4' := Lib.hid (T4.out hkK)
        clear T3 T4 hkK
        obtain ⟨hi, hz0, hz1, hz2⟩ := INF.out
        go_wp2_with (first | (at_builtin; refine wpList_append_own_at _ rfl _ _ 41 rfl w.heap.size 2 i0 (.int .i64 0) 1 8 Try.underlying41 hi hz0 hz1 hz2 rfl (by decide) _ _ _ rfl (World.ownsRow.alloc (h := S1.out.o3) _) ⟨wr.heap.size, 0, none⟩ 1 1 [.int .i64 0] rfl rfl ?c1 ?c2 ?c3 ?c4 ?c5 ?_))
        case c1 =>
          intro j u hj
          match j, hj with
          | 0, hj => simp at hj; subst hj; simp [Addr.add]
        case c2 => intro u hu; simp at hu; subst hu; rfl
        case c3 => have := L3.out; unfold maxLen; omega
        case c4 => have := L3.out; omega
        case c5 => have := S1.out.below.size; simp; omega
        intro va wa hown' hgrow _ hblk
        have S2 := Lib.hid (S1.out.app3 _ 0 (show OwnI wa w.heap.size va (l3 ++ [0]) by unfold OwnI; simpa using hown') hgrow (by simpa using hblk))
        clear hown' hgrow hblk S1 hi hz0 hz1 hz2
        have L3' := Lib.hid (show (l3 ++ [0]).length ≤ k + 2 by have := L3.out; simp; omega)
        obtain ⟨hi, hz0, hz1, hz2⟩ := INF.out
        go_wp2_with (first | (at_builtin; refine wpList_append_own_at _ rfl _ _ 41 rfl w.heap.size 2 i0 (.int .i64 0) 1 8 Try.underlying41 hi hz0 hz1 hz2 rfl (by decide) _ _ _ rfl (World.ownsRow.alloc (h := S2.out.o1) _) ⟨wa.heap.size, 0, none⟩ 1 1 [.int .i64 x] rfl rfl ?c1 ?c2 ?c3 ?c4 ?c5 ?_))
        case c1 =>
          intro j u hj
          match j, hj with
          | 0, hj => simp at hj; subst hj; simp [Addr.add]
        case c2 => intro u hu; simp at hu; subst hu; rfl
        case c3 => have := L1.out; unfold maxLen; omega
        case c4 => have := L1.out; omega
        case c5 => have := S2.out.below.size; simp; omega
        intro vb wb hown' hgrow _ hblk
        have S3 := Lib.hid (S2.out.app1 _ x (show OwnI wb w.heap.size vb (l1 ++ [x]) by unfold OwnI; simpa using hown') hgrow (by simpa using hblk))
        clear hown' hgrow hblk S2 hi hz0 hz1 hz2
        obtain ⟨hi, hz0, hz1, hz2⟩ := INF.out
        go_wp2_with (first | (at_builtin; refine wpList_append_own_at _ rfl _ _ 41 rfl w.heap.size 2 i0 (.int .i64 0) 1 8 Try.underlying41 hi hz0 hz1 hz2 rfl (by decide) _ _ _ rfl (World.ownsRow.alloc (h := S3.out.o2) _) ⟨wb.heap.size, 0, none⟩ 1 1 [.int .i64 (x * c)] rfl rfl ?c1 ?c2 ?c3 ?c4 ?c5 ?_))
        case c1 =>
          intro j u hj
          match j, hj with
          | 0, hj => simp at hj; subst hj; simp [Addr.add]
        case c2 => intro u hu; simp at hu; subst hu; rfl
        case c3 => have := L2.out; unfold maxLen; omega
        case c4 => have := L2.out; omega
        case c5 => have := S3.out.below.size; simp; omega
        intro vc wc hown' hgrow _ hblk
        have S4 := Lib.hid (S3.out.app2 _ (x * c) (show OwnI wc w.heap.size vc (l2 ++ [x * c]) by unfold OwnI; simpa using hown') hgrow (by simpa using hblk))
        clear hown' hgrow hblk S3 hi hz0 hz1 hz2
        obtain ⟨hi, hz0, hz1, hz2⟩ := INF.out
        go_wp2_with (first | (at_builtin; refine wpList_append_own_at _ rfl _ _ 41 rfl w.heap.size 2 i0 (.int .i64 0) 1 8 Try.underlying41 hi hz0 hz1 hz2 rfl (by decide) _ _ _ rfl (World.ownsRow.alloc (h := S4.out.o3) _) ⟨wc.heap.size, 0, none⟩ 1 1 [.int .i64 x] rfl rfl ?c1 ?c2 ?c3 ?c4 ?c5 ?_))
        case c1 =>
          intro j u hj
          match j, hj with
          | 0, hj => simp at hj; subst hj; simp [Addr.add]
        case c2 => intro u hu; simp at hu; subst hu; rfl
        case c3 => have := L3'.out; unfold maxLen; omega
        case c4 => have := L3'.out; omega
        case c5 => have := S4.out.below.size; simp; omega
        intro vd wd hown' hgrow _ hblk
        have S5 := Lib.hid (S4.out.app3 _ x (show OwnI wd w.heap.size vd ((l3 ++ [0]) ++ [x]) by unfold OwnI; simpa using hown') hgrow (by simpa using hblk))
        clear hown' hgrow hblk S4 hi hz0 hz1 hz2
        go_wp2
        go_roundw
        case rel => exact ⟨k + 1, by omega, by go_num, by rw [T2.out, T1.out, T4'.out]; exact S5.out⟩
        case measure => simp [intOf]; omega
      · have e1 : ((k : Int) == (K : Int)) = false := by simp; omega
        have T3' := Lib.hid (T3.out hkK)
        clear T3 T4 hkK
        obtain ⟨hi, hz0, hz1, hz2⟩ := INF.out
        go_wp2_with (first | (at_builtin; refine wpList_append_own_at _ rfl _ _ 41 rfl w.heap.size 2 i0 (.int .i64 0) 1 8 Try.underlying41 hi hz0 hz1 hz2 rfl (by decide) _ _ _ rfl (World.ownsRow.alloc (h := S1.out.o1) _) ⟨wr.heap.size, 0, none⟩ 1 1 [.int .i64 x] rfl rfl ?c1 ?c2 ?c3 ?c4 ?c5 ?_))
        case c1 =>
          intro j u hj
          match j, hj with
          | 0, hj => simp at hj; subst hj; simp [Addr.add]
        case c2 => intro u hu; simp at hu; subst hu; rfl
        case c3 => have := L1.out; unfold maxLen; omega
        case c4 => have := L1.out; omega
        case c5 => have := S1.out.below.size; simp; omega
        intro vb wb hown' hgrow _ hblk
        have S3 := Lib.hid (S1.out.app1 _ x (show OwnI wb w.heap.size vb (l1 ++ [x]) by unfold OwnI; simpa using hown') hgrow (by simpa using hblk))
        clear hown' hgrow hblk S1 hi hz0 hz1 hz2
        obtain ⟨hi, hz0, hz1, hz2⟩ := INF.out
        go_wp2_with (first | (at_builtin; refine wpList_append_own_at _ rfl _ _ 41 rfl w.heap.size 2 i0 (.int .i64 0) 1 8 Try.underlying41 hi hz0 hz1 hz2 rfl (by decide) _ _ _ rfl (World.ownsRow.alloc (h := S3.out.o2) _) ⟨wb.heap.size, 0, none⟩ 1 1 [.int .i64 (x * c)] rfl rfl ?c1 ?c2 ?c3 ?c4 ?c5 ?_))
        case c1 =>
          intro j u hj
          match j, hj with
          | 0, hj => simp at hj; subst hj; simp [Addr.add]
        case c2 => intro u hu; simp at hu; subst hu; rfl
        case c3 => have := L2.out; unfold maxLen; omega
        case c4 => have := L2.out; omega
        case c5 => have := S3.out.below.size; simp; omega
        intro vc wc hown' hgrow _ hblk
        have S4 := Lib.hid (S3.out.app2 _ (x * c) (show OwnI wc w.heap.size vc (l2 ++ [x * c]) by unfold OwnI; simpa using hown') hgrow (by simpa using hblk))
        clear hown' hgrow hblk S3 hi hz0 hz1 hz2
        obtain ⟨hi, hz0, hz1, hz2⟩ := INF.out
        go_wp2_with (first | (at_builtin; refine wpList_append_own_at _ rfl _ _ 41 rfl w.heap.size 2 i0 (.int .i64 0) 1 8 Try.underlying41 hi hz0 hz1 hz2 rfl (by decide) _ _ _ rfl (World.ownsRow.alloc (h := S4.out.o3) _) ⟨wc.heap.size, 0, none⟩ 1 1 [.int .i64 x] rfl rfl ?c1 ?c2 ?c3 ?c4 ?c5 ?_))
        case c1 =>
          intro j u hj
          match j, hj with
          | 0, hj => simp at hj; subst hj; simp [Addr.add]
        case c2 => intro u hu; simp at hu; subst hu; rfl
        case c3 => have := L3.out; unfold maxLen; omega
        case c4 => have := L3.out; omega
        case c5 => have := S4.out.below.size; simp; omega
        intro vd wd hown' hgrow _ hblk
        have S5 := Lib.hid (S4.out.app3 _ x (show OwnI wd w.heap.size vd (l3 ++ [x]) by unfold OwnI; simpa using hown') hgrow (by simpa using hblk))
        clear hown' hgrow hblk S4 hi hz0 hz1 hz2
        go_wp2
        go_roundw
        case rel => exact ⟨k + 1, by omega, by go_num, by rw [T2.out, T1.out, T3'.out]; exact S5.out⟩
        case measure => simp [intOf]; omega
    · have hzk : ¬ (k : Int) < (n : Int) := by omega
      obtain rfl : k = n := by omega
      have tk : xs.take k = xs := by rw [← HL.out, List.take_length]
      have e := moreL_end (K := K) (xs := xs) (by rw [HL.out]; exact hKn)
      rw [HL.out] at e
      have S2 := S1.out
      rw [tk, e] at S2
      obtain ⟨pa, pc, hp, _⟩ := S2.o1.shape
      obtain ⟨ta, tc, ht, _⟩ := S2.o2.shape
      obtain ⟨ma, mc, hm, _⟩ := S2.o3.shape
      rw [HL.out] at hp
      rw [List.length_map, HL.out] at ht
      generalize (if k ≤ K then xs else insZ K xs).length = ml at hm
      subst hp ht hm
      have S2 : Aside (Own3 w wr (.slice pa k pc) (.slice ta k tc) (.slice ma ml mc) xs (xs.map (· * c)) (if k ≤ K then xs else insZ K xs)) := S2
      clear e
      clear S1 tk
      go_upto_if 71 with fail
      go_cut [12] (fun s12 wx => Aside (Own3 w wx (.slice pa k pc) (.slice ta k tc) s12 xs (xs.map (· * c)) (insZ K xs)))
      case first =>
        by_cases hkK : K = k
        · have e1 : ((K : Int) == (k : Int)) = true := by rw [hkK]; simp
          have S3 : Aside (Own3 w wr (.slice pa k pc) (.slice ta k tc) (.slice ma ml mc) xs (xs.map (· * c)) xs) := by have := S2.out; rwa [if_pos (by omega)] at this
          have EI := Lib.hid (show insZ K xs = xs ++ [0] by rw [hkK, ← HL.out]; exact insZ_end xs)
          have L3 := HL.out
          clear S2 hkK
          obtain ⟨hi, hz0, hz1, hz2⟩ := INF.out
          go_wp2_with (first | (at_builtin; refine wpList_append_own_at _ rfl _ _ 41 rfl w.heap.size 2 i0 (.int .i64 0) 1 8 Try.underlying41 hi hz0 hz1 hz2 rfl (by decide) _ _ _ rfl (World.ownsRow.alloc (h := S3.out.o3) _) ⟨wr.heap.size, 0, none⟩ 1 1 [.int .i64 0] rfl rfl ?c1 ?c2 ?c3 ?c4 ?c5 ?_))
          case c2 => rfl
          case c3 => unfold maxLen; omega
          case c4 => omega
          case c5 => have := S3.out.below.size; simp; omega
          intro va wa hown' hgrow _ hblk
          have S4 := Lib.hid (S3.out.app3 _ 0 (show OwnI wa w.heap.size va (xs ++ [0]) by unfold OwnI; simp only [List.length_append, List.length_singleton, HL.out, List.map_append, List.map_cons, List.map_nil]; exact hown') hgrow (by simpa using hblk))
          clear hown' hgrow hblk S3 hi hz0 hz1 hz2 L3
          go_wp2_with fail
          go_meet
          rw [EI.out]; exact S4.out
        · have e1 : ((K : Int) == (k : Int)) = false := by simp; omega
          have S3 : Aside (Own3 w wr (.slice pa k pc) (.slice ta k tc) (.slice ma ml mc) xs (xs.map (· * c)) (insZ K xs)) := by have := S2.out; rwa [if_neg (by omega)] at this
          clear S2
          go_wp2_with fail
          go_meet
          exact S3.out
      case rest =>
        clear S2
        have S3 := hcut.out
        obtain ⟨na, nc, hm, nS, _⟩ := S3.o3.shape
        rw [len_insZ (by rw [HL.out]; exact hKn), HL.out] at hm
        subst hm
        have B1 := Lib.hid S3.below
        have P1 := Lib.hid S3.o1.sl
        have T1 := Lib.hid S3.o2.sl
        have N1 := Lib.hid nS
        have hl60 : xs.length ≤ 60 := by rw [HL.out]; omega
        have hx1 : ∀ j, j < xs.length → In (xs.getD j 0) := fun j hj => by have := HX.out j hj; exact ⟨by omega, by omega⟩
        have hx2 : ∀ j, j < (xs.map (· * c)).length → In ((xs.map (· * c)).getD j 0) := In_get fun y hy => by
          obtain ⟨x, hx, rfl⟩ := List.mem_map.1 hy
          obtain ⟨b0, b1⟩ := mem_get HX.out x hx
          have m1 := Int.mul_le_mul_of_nonneg_right b1 hc0
          have m2 := Int.mul_le_mul_of_nonneg_right b0 hc0
          exact ⟨by omega, by omega⟩
        have hx3 : ∀ j, j < (insZ K xs).length → In ((insZ K xs).getD j 0) := In_get fun y hy => by
          unfold insZ at hy
          rcases List.mem_append.1 hy with h1 | h1
          · have := mem_get HX.out y (List.mem_of_mem_take h1); exact ⟨by omega, by omega⟩
          · rcases List.mem_cons.1 h1 with rfl | h1
            · exact ⟨by omega, by omega⟩
            · have := mem_get HX.out y (List.mem_of_mem_drop h1); exact ⟨by omega, by omega⟩
        have hKl : K ≤ xs.length := by rw [HL.out]; exact hKn
        have e2 := allE_times hl60 HX.out (c := c) (by omega) hc1
        have e3 := allE_insZ hl60 HX.out hKl
        by_cases hE : allE xs = 0
        · obtain ⟨WO, _⟩ := wok_of hE
          have C1 := fun W h => split_yes a xs pa pc W (by omega) hx1 h ha hE
          have C2 := fun W h => split_yes a (xs.map (· * c)) ta tc W (by rw [List.length_map]; omega) hx2 h ha (by rw [e2]; exact hE)
          have C3 := fun W h => split_yes a (insZ K xs) na nc W (by rw [len_insZ hKl]; omega) hx3 h ha (by rw [e3]; exact hE)
          unfold SplitOk at C1 C2 C3
          have hl2 := shL_times hl60 a (c := c) (by omega) hc1 WO
          have hl3 := shL_insZ hl60 a hKl WO
          have hlL : (shL a xs).length = k := by rw [len_shL, HL.out]
          simp only [List.length_map, HL.out, hl2] at C2
          simp only [len_insZ hKl, HL.out, hl3] at C3
          simp only [HL.out] at C1
          have C1 := Lib.hid C1
          have C2 := Lib.hid C2
          have C3 := Lib.hid C3
          generalize shL a xs = L at *
          have HLL := Lib.hid hlL
          clear hx1 hx2 hx3 e2 e3 hE hl2 hl3 WO hlL S3 hcut nS HS hl60 hKl
          go_wp2_with fail
          refine (C1.out _ P1.out).mono ?_
          rintro e w2 ⟨b1, _, rfl, hr, hb⟩
          have R1 := Lib.hid hr
          have B2 := Lib.hid (bl_call B1.out hb)
          have T2 := Lib.hid (T1.out.go hb)
          have N2 := Lib.hid (N1.out.go hb)
          clear hr hb B1 T1 N1 P1
          go_wp2_with fail
          refine (C2.out _ T2.out).mono ?_
          rintro e w3 ⟨b2, _, rfl, hr, hb⟩
          have R2 := Lib.hid hr
          have Q1 := Lib.hid (R1.out.go hb)
          have B3 := Lib.hid (bl_call B2.out hb)
          have N3 := Lib.hid (N2.out.go hb)
          clear hr hb B2 T2 N2 R1
          go_wp2_with fail
          refine (C3.out _ N3.out).mono ?_
          rintro e w4 ⟨b3, _, rfl, hr, hb⟩
          have Z1 := Lib.hid hr
          have R3 := Lib.hid (R2.out.go hb)
          have Q2 := Lib.hid (Q1.out.go hb)
          have B4 := Lib.hid (bl_call B3.out hb)
          clear hr hb B3 N3 R2 Q1
          have SM := Lib.hid (fun (a b : Option Addr) (ca cb : Nat) W h1 h2 => by
            have := same_yes L a b ca cb W (by rw [HLL.out]; omega) h1 h2
            rwa [HLL.out] at this)
          have SR : Hid (∀ W b, RowF W b k (fun j => L.getD j 0) → SlI .i64 W (some ⟨b, 0, none⟩) L) := fun W b h => RowF.sl (by rw [HLL.out]; exact h)
          go_wp2_with fail
          refine (SM.out _ _ _ _ _ (SR.out _ _ Q2.out) (SR.out _ _ R3.out)).mono ?_
          rintro e w5 ⟨rfl, hb⟩
          have Z2 := Lib.hid (Z1.out.go hb)
          have Q3 := Lib.hid (Q2.out.go hb)
          have B5 := Lib.hid (bl_call B4.out hb)
          clear hb Z1 R3 Q2 B4 C1 C2 C3
          go_wp2_with fail
          have lZ : ∀ j, j < k → (insZ K L).getD (shf K j) 0 = L.getD j 0 := fun j hj => at_insZ (by rw [HLL.out]; exact hKn)
          have cz : w5.drew.cell? ⟨b3, K, none⟩ = some (.int .i64 0) := by
            exact Z2.out.val K (by omega) (at_insZ_k (by rw [HLL.out]; exact hKn))
          have n1 : ∀ (W : World), Below w5.heap.size w5 W → ∀ (j : Nat) u, ((L.take K).map (Value.int .i64))[j]? = some u → W.cell? ((⟨b3, 0, none⟩ : Addr).add j) = some u := fun W hb j u hu => by
            rw [List.getElem?_map, List.getElem?_take] at hu
            have hjK : j < K := by
              rcases Nat.lt_or_ge j K with h | h
              · exact h
              · rw [if_neg (by omega)] at hu; cases hu
            rw [if_pos hjK] at hu
            have hjL : j < L.length := by rw [HLL.out]; omega
            rw [List.getElem?_eq_getElem hjL] at hu
            have e := lZ j (by omega)
            rw [show shf K j = j by unfold shf; rw [if_pos hjK]] at e
            have := (Z2.out.go hb).val j (by omega) e
            rw [Go.WideShapes.add_plain, Nat.zero_add, this]
            simp only [Option.map_some, Option.some.injEq] at hu
            rw [← hu]
            simp [List.getD, hjL]
          obtain ⟨toff, r2, hto⟩ := tail_some (b := b3) (n := k + 1) (cap := k + 1) (K := K + 1) (by omega) (Nat.le_refl _)
          have r2 : ∀ W, (Instr.slice 41 (.slice (some ⟨b3, 0, none⟩) (k + 1) (k + 1)) (some (.int .i64 ((K : Int) + 1))) none none).run Try.prog W = .ok (.slice (some ⟨b3, toff, none⟩) (k - K) (k - K)) W := fun W => by
            have := r2 W
            rw [Nat.add_sub_add_right] at this
            simpa using this
          have r1 := fun W => head_some (b := b3) (n := k + 1) (cap := k + 1) (K := K) (by omega) (by omega) W
          have n2 : ∀ (W : World), Below w5.heap.size w5 W → ∀ (j : Nat) u, ((L.drop K).map (Value.int .i64))[j]? = some u → W.cell? ((⟨b3, toff, none⟩ : Addr).add j) = some u := fun W hb j u hu => by
            rw [List.getElem?_map, List.getElem?_drop] at hu
            have hjL : K + j < L.length := by
              rcases Nat.lt_or_ge (K + j) L.length with h | h
              · exact h
              · rw [List.getElem?_eq_none h] at hu; cases hu
            rw [List.getElem?_eq_getElem hjL] at hu
            have hjk : K + j < k := by rw [HLL.out] at hjL; exact hjL
            have ht := hto (by omega)
            subst ht
            have e := lZ (K + j) hjk
            rw [show shf K (K + j) = K + 1 + j by unfold shf; rw [if_neg (by omega)]; omega] at e
            have := (Z2.out.go hb).val (K + 1 + j) (by omega) e
            rw [Go.WideShapes.add_plain, this]
            simp only [Option.map_some, Option.some.injEq] at hu
            rw [← hu]
            simp [List.getD, hjL]
          have N1 := Lib.hid n1
          have N2 := Lib.hid n2
          have l1 := Lib.hid (show (L.take K).length = K by have := HLL.out; simp; omega)
          have l2 := Lib.hid (show (L.drop K).length = k - K by have := HLL.out; simp; omega)
          clear lZ n1 n2 hto
          have hz1 : (K : Int) < (k : Int) + 1 := by omega
          have hw1 : IntKind.i64.wrap ((K : Int) + 1) = (K : Int) + 1 := by rw [IntKind.wrap_i64]; omega
          have hw2 : IntKind.i64.wrap ((k : Int) + 1) = (k : Int) + 1 := by rw [IntKind.wrap_i64]; omega
          refine region_m [10, 17, 22, 24] [0, 1, 2, 3, 4, 5, 6, 7, 8, 9, 10, 11, 12, 13, 14, 15, 16, 18, 19, 20, 21, 23, 17, 22, 24, 25, 26] (by kernel_rfl) (by kernel_rfl) ?_
          repeat (refine wpM_p rfl rfl (fun KK hKK => ?_); go_simp; refine hKK _ _ ?_; clear hKK KK)
          refine wpM_h rfl rfl (fun KK hKK => ?_)
          go_wp2_with fail
          refine hKK _ _ ?_
          clear hKK KK cz
          repeat (refine wpM_p rfl rfl (fun KK hKK => ?_); go_simp; refine hKK _ _ ?_; clear hKK KK)
          clear r1 r2
          obtain ⟨hi, hz0, hz1', hz2⟩ := INF.out
          refine wpM_h rfl rfl (fun KK hKK => ?_)
          refine wpList_unguard (by go_simp) ?_
          refine wpList_append_own _ rfl _ _ 41 rfl w5.heap.size 2 i0 (.int .i64 0) 1 8 Try.underlying41 hi hz0 hz1' hz2 rfl (by decide) (.slice none 0 0) 0 [] rfl (own_nil _ _) ⟨b3, 0, none⟩ K (k + 1) ((L.take K).map (Value.int .i64)) rfl (by rw [List.length_map, l1.out]; omega) (N1.out _ (bl_drew (Below.refl _ _))) (by intro u hu; obtain ⟨y, _, rfl⟩ := List.mem_map.1 hu; rfl) (by unfold maxLen; omega) (by omega) (Nat.le_refl _) ?_
          intro v6 w6 hown' hgrow _
          have O6 := Lib.hid (show OwnI w6 w5.heap.size v6 (L.take K) by unfold OwnI; rw [l1.out]; simpa using hown')
          have G6 := Lib.hid (show Below w5.heap.size w5 w6 from (bl_drew (Below.refl _ _)).grown hgrow (Nat.le_refl _) (fun j hj => by cases hj))
          clear hown' hgrow
          refine wpList_nil ?_
          refine hKK _ _ ?_
          clear hKK KK
          refine wpM_h rfl rfl (fun KK hKK => ?_)
          refine wpList_unguard (by go_simp) ?_
          refine wpList_append_own _ rfl _ _ 41 rfl w5.heap.size 2 i0 (.int .i64 0) 1 8 Try.underlying41 hi hz0 hz1' hz2 rfl (by decide) v6 K ((L.take K).map (Value.int .i64)) rfl (by have := O6.out; unfold OwnI at this; rwa [l1.out] at this) ⟨b3, toff, none⟩ (k - K) (k - K) ((L.drop K).map (Value.int .i64)) rfl (by rw [List.length_map, l2.out]; omega) (N2.out _ G6.out) (by intro u hu; obtain ⟨y, _, rfl⟩ := List.mem_map.1 hu; rfl) (by unfold maxLen; omega) (by omega) G6.out.size ?_
          intro v7 w7 hown' hgrow _
          have O7 := (show OwnI w7 w5.heap.size v7 L by
            have e : (L.take K).map (Value.int .i64) ++ (L.drop K).map (Value.int .i64) = L.map (Value.int .i64) := by rw [← List.map_append, List.take_append_drop]
            rw [e] at hown'
            unfold OwnI
            rwa [HLL.out, show k = K + (k - K) by omega])
          have G7 := Lib.hid (OwnI.below O6.out G6.out (Nat.le_refl _) hgrow)
          clear hown' hgrow G6 O6 hi hz0 hz1' hz2
          obtain ⟨sa, sc, hv, sS, _⟩ := O7.shape
          rw [HLL.out] at hv
          subst hv
          have sS := Lib.hid sS
          clear O7
          refine wpList_nil ?_
          refine hKK _ _ ?_
          clear hKK KK
          refine wpM_h rfl rfl (fun KK hKK => ?_)
          go_wp2_with fail
          refine (SM.out _ _ _ _ _ sS.out (SR.out _ _ (Q3.out.go G7.out))).mono ?_
          rintro e w8 ⟨rfl, hb8⟩
          go_wp2_with fail
          refine hKK _ _ ?_
          clear hKK KK
          repeat (refine wpM_p rfl rfl (fun KK hKK => ?_); go_simp; refine hKK _ _ ?_; clear hKK KK)
          refine wpM_nil ?_
          have B8 := Lib.hid (bl_call (bl_call B5.out G7.out) hb8)
          clear hb8
          go_wp2
          go_ret
          exact ⟨rfl, B8.out⟩
        · have he : (allE xs == 0) = false := by simpa using hE
          have C1 := fun W h => split_no a xs pa pc W (by omega) hx1 h hE
          have C2 := fun W h => split_no a (xs.map (· * c)) ta tc W (by rw [List.length_map]; omega) hx2 h (by rw [e2]; exact hE)
          have C3 := fun W h => split_no a (insZ K xs) na nc W (by rw [len_insZ hKl]; omega) hx3 h (by rw [e3]; exact hE)
          simp only [List.length_map, HL.out, e2] at C2
          simp only [len_insZ hKl, HL.out, e3] at C3
          simp only [HL.out] at C1
          have C1 := Lib.hid C1
          have C2 := Lib.hid C2
          have C3 := Lib.hid C3
          clear hx1 hx2 hx3 e2 e3 hE S3 hcut nS HS hl60 hKl
          generalize allE xs = u at *
          go_wp2_with fail
          refine (C1.out _ P1.out).mono ?_
          rintro e w2 ⟨rfl, hb⟩
          have B2 := Lib.hid (bl_call B1.out hb)
          have T2 := Lib.hid (T1.out.go hb)
          have N2 := Lib.hid (N1.out.go hb)
          clear hb B1 T1 N1 P1
          go_wp2_with fail
          refine (C2.out _ T2.out).mono ?_
          rintro e w3 ⟨rfl, hb⟩
          have B3 := Lib.hid (bl_call B2.out hb)
          have N3 := Lib.hid (N2.out.go hb)
          clear hb B2 T2 N2
          go_wp2_with fail
          refine (C3.out _ N3.out).mono ?_
          rintro e w4 ⟨rfl, hb⟩
          have B4 := Lib.hid (bl_call B3.out hb)
          clear hb B3 N3 C1 C2 C3
          go_wp2_with fail
          refine (same_empty none none 0 0 _).mono ?_
          rintro e w5 ⟨rfl, hb⟩
          have B5 := Lib.hid (bl_call B4.out hb)
          clear hb B4
          go_wp2
          go_ret
          exact ⟨rfl, B5.out⟩
end Go.Proofs.Ytkejohmghacdhaa
