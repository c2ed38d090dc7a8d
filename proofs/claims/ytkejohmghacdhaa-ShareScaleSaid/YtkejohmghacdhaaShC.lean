/- share.Split. -/
import Derived.Test.YtkejohmghacdhaaShB
import Derived.Test.YtkejohmghacdhaaRow
import Derived.Test.YtkejohmghacdhaaDivD
import Derived.Deep.DeepCutAuto
import Derived.RegionTactic
import Derived.BigRegion
namespace Go.Proofs.Ytkejohmghacdhaa
set_option linter.unusedVariables false
set_option linter.unusedSimpArgs false
open Go Go.Shelf Go.RowKit Go.Lib Go.Sort
/-- a part's two cells -/
def cellP (g : Nat → Int) (k : Nat) (t : Nat) : Int := if t < k * 2 then (if t % 2 = 0 then ((t / 2 : Nat) : Int) else g (t / 2)) else 0
/-- the parts as they stand first -/
def rowP (g : Nat → Int) (n : Nat) : Array PartI := (Array.range n).map fun i => (⟨i % 4096, Nat.mod_lt _ (by decide)⟩, g i)
theorem get_rowP (g : Nat → Int) (n i : Nat) (h : i < n) (hn : n ≤ 4096) : atP (rowP g n)[i]! = i ∧ (rowP g n)[i]!.2 = g i := by
  have : (rowP g n)[i]! = (⟨i % 4096, Nat.mod_lt _ (by decide)⟩, g i) := by
    rw [getElem!_pos _ i (by simpa [rowP] using h)]; simp [rowP]
  rw [this]
  exact ⟨Nat.mod_eq_of_lt (by omega), rfl⟩
theorem holds_rowP {w : World} {b n : Nat} {g : Nat → Int} (hn : n ≤ 4096) (h : RowF w b (n * 2) (cellP g n)) : HoldsK encP 2 w b 0 (rowP g n) := fun j hj => by
  have hs : (rowP g n).size = n := by simp [rowP]
  have hj' : j < n * 2 := by rw [size_flatK, hs] at hj; exact hj
  obtain ⟨h1, h2⟩ := h j hj'
  rw [get_flatK _ _ _ _ (by rw [hs]; exact hj'), Nat.zero_add]
  refine ⟨?_, h2⟩
  rw [h1]
  obtain ⟨e1, e2⟩ := get_rowP g n (j / 2) (by omega) hn
  unfold cellP encP
  rw [if_pos hj']
  unfold atP at e1
  have hm : j % 2 = 0 ∨ j % 2 = 1 := by omega
  rcases hm with hm | hm
  · rw [if_pos hm, hm]; show _ = some (Value.int .i64 _); rw [e1]
  · rw [if_neg (by omega), hm]; show _ = some (Value.int .i64 _); rw [e2]
/-- Within the first loop: what the call's own blocks hold. -/
structure SpS (w0 W : World) (bo bp bl n k : Nat) (q r : Nat → Int) (x : Int) : Prop where
  below : Below w0.heap.size w0 W
  out : RowF W bo n (fun j => if j < k then q j else 0)
  parts : RowF W bp (n * 2) (cellP r k)
  l0 : W.cell? ⟨bl, 0, none⟩ = some (.int .i64 (hiW x))
  l1 : W.cell? ⟨bl, 1, none⟩ = some (.int .u64 (loW x))
  lf : ∀ o, W.frozen? ⟨bl, o, none⟩ = false
  o0 : w0.heap.size ≤ bo
  p0 : w0.heap.size ≤ bp
  q0 : w0.heap.size ≤ bl
  op : bo ≠ bp
  ol : bo ≠ bl
  pl : bp ≠ bl
variable {w0 W : World} {bo bp bl n k : Nat} {q r : Nat → Int} {x : Int}
theorem SpS.lt (S : SpS w0 W bo bp bl n k q r x) : bl < W.heap.size := World.block_lt_of_cell? W ⟨bl, 0, none⟩ S.l0
theorem SpS.go (S : SpS w0 W bo bp bl n k q r x) {W' : World} (hb : Below W.heap.size W W') : SpS w0 W' bo bp bl n k q r x :=
  ⟨bl_call S.below hb, S.out.go hb, S.parts.go hb, (hb.cell (p := ⟨bl, 0, none⟩) S.lt).trans S.l0, (hb.cell (p := ⟨bl, 1, none⟩) S.lt).trans S.l1, fun o => (hb.frozen (p := ⟨bl, o, none⟩) S.lt).trans (S.lf o), S.o0, S.p0, S.q0, S.op, S.ol, S.pl⟩
theorem set_far {w : World} {p a : Addr} {v : Value} (h : p.block ≠ a.block) : (w.setCell p v).cell? a = w.cell? a := World.cell?_setCell_other w _ _ _ (fun e => h (by rw [e]))
/-- behind the stores of a round into the parts -/
theorem SpS.put (S : SpS w0 W bo bp bl n k q r x) (hk : k < n) : SpS w0 (((W.setCell ⟨bo, k, none⟩ (.int .i64 (q k))).setCell ⟨bp, k * 2, none⟩ (.int .i64 (k : Int))).setCell ⟨bp, k * 2 + 1, none⟩ (.int .i64 (r k))) bo bp bl n (k + 1) q r x := by
  have o1 := ((S.out.set k hk (q k)).other (p := ⟨bp, k * 2, none⟩) (Ne.symm S.op) (.int .i64 (k : Int))).other (p := ⟨bp, k * 2 + 1, none⟩) (Ne.symm S.op) (.int .i64 (r k))
  have p1 := ((S.parts.other (p := ⟨bo, k, none⟩) S.op (.int .i64 (q k))).set (k * 2) (by omega) (k : Int)).set (k * 2 + 1) (by omega) (r k)
  have c : ∀ o, (((W.setCell ⟨bo, k, none⟩ (.int .i64 (q k))).setCell ⟨bp, k * 2, none⟩ (.int .i64 (k : Int))).setCell ⟨bp, k * 2 + 1, none⟩ (.int .i64 (r k))).cell? ⟨bl, o, none⟩ = W.cell? ⟨bl, o, none⟩ := fun o => by
    rw [set_far S.pl, set_far S.pl, set_far S.ol]
  refine ⟨((S.below.setCell S.o0 _).setCell S.p0 _).setCell S.p0 _, o1.congr fun j hj => ?_, p1.congr fun t ht => ?_, (c 0).trans S.l0, (c 1).trans S.l1, fun o => by simp only [World.frozen?_setCell]; exact S.lf o, S.o0, S.p0, S.q0, S.op, S.ol, S.pl⟩
  · by_cases e : j = k
    · subst e; simp
    · by_cases h : j < k
      · simp [e, h, show j < k + 1 by omega]
      · simp [e, h, show ¬ j < k + 1 by omega]
  · unfold cellP
    by_cases h0 : t < k * 2
    · simp [h0, show t < (k + 1) * 2 by omega, show t ≠ k * 2 by omega, show t ≠ k * 2 + 1 by omega]
    · by_cases h1 : t = k * 2
      · subst h1; simp [show k * 2 < (k + 1) * 2 by omega]
      · by_cases h2 : t = k * 2 + 1
        · subst h2; simp [show k * 2 + 1 < (k + 1) * 2 by omega, show (k * 2 + 1) / 2 = k by omega]
        · simp [h0, h1, h2, show ¬ t < (k + 1) * 2 by omega]
/-- behind the store into what is left -/
theorem SpS.left (S : SpS w0 W bo bp bl n k q r x) (y : Int) : SpS w0 ((W.setCell ⟨bl, 0, none⟩ (.int .i64 (hiW y))).setCell ⟨bl, 1, none⟩ (.int .u64 (loW y))) bo bp bl n k q r y :=
  ⟨(S.below.setCell S.q0 _).setCell S.q0 _, (S.out.other (p := ⟨bl, 0, none⟩) (Ne.symm S.ol) _).other (p := ⟨bl, 1, none⟩) (Ne.symm S.ol) _, (S.parts.other (p := ⟨bl, 0, none⟩) (Ne.symm S.pl) _).other (p := ⟨bl, 1, none⟩) (Ne.symm S.pl) _,
    by rw [World.cell?_setCell_other _ _ _ _ (fun h => by cases h)]; exact World.cell?_setCell_same _ _ _ S.l0,
    World.cell?_setCell_same _ _ _ (u := .int .u64 (loW x)) (by rw [World.cell?_setCell_other _ _ _ _ (fun h => by cases h)]; exact S.l1),
    fun o => by simp only [World.frozen?_setCell]; exact S.lf o, S.o0, S.p0, S.q0, S.op, S.ol, S.pl⟩
theorem wadd_fit (x y : Int) (w : World) (hx : InW x) (hy : InW y) (h : InW (x + y)) :
    Calls Try.prog 51 #[wideA x, wideA y] w fun e w' => e = .returned (.tuple #[wideA (x + y), .int .i64 0]) ∧ Below w.heap.size w w' := by
  have := wadd_any x y w hx hy
  obtain ⟨h1, h2⟩ := capW_of h
  rwa [h1, h2] at this
theorem wneg_fit (x : Int) (w : World) (hx : InW x) (h : InW (-x)) :
    Calls Try.prog 50 #[wideA x] w fun e w' => e = .returned (.tuple #[wideA (-x), .int .i64 0]) ∧ Below w.heap.size w w' := by
  have := wneg_any x w hx
  obtain ⟨h1, h2⟩ := capW_of h
  rwa [h1, h2] at this
theorem wfit_fit (x : Int) (w : World) (h : In x) :
    Calls Try.prog 52 #[wideA x] w fun e w' => e = .returned (.tuple #[.int .i64 x, .int .i64 0]) ∧ Below w.heap.size w w' := by
  have := wfit_any x w (InW_of_In h)
  have hf : fitB x = true := by unfold fitB; exact decide_eq_true h
  unfold capN errN at this
  rwa [if_pos hf, if_pos hf] at this
theorem muldiv_fit (a x c : Int) (w : World) (ha : In a) (hx : In x) (hc : In c) (h0 : 0 < c) (h : In (a * x / c)) :
    Calls Try.prog 28 #[.int .i64 a, .int .i64 x, .int .i64 c] w fun e w' => e = .returned (.tuple #[.int .i64 (a * x / c), .int .i64 (a * x % c), .int .i64 0]) ∧ Below w.heap.size w w' := by
  have := muldiv_any a x c w ha hx hc
  have hf : fitB (a * x / c) = true := by unfold fitB; exact decide_eq_true h
  unfold mdQ mdR mdE errN at this
  rwa [if_pos ⟨h0, hf⟩, if_pos ⟨h0, hf⟩, if_pos h0, if_pos hf] at this
/-- what is left over behind k -/
def leftI (a : Int) (ws : List Int) (k : Nat) : Int := a - sumI ((shQ a ws).take k)
set_option maxHeartbeats 1000000 in
theorem split_no (a : Int) (ws : List Int) (ad : Option Addr) (cap : Nat) (w : World) (hn : ws.length ≤ 9223372036854775807) (hx : ∀ k, k < ws.length → In (ws.getD k 0)) (hs : SlI .i64 w ad ws) (hE : allE ws ≠ 0) :
    Calls Try.prog 26 #[.int .i64 a, .slice ad ws.length cap] w fun e w' => e = .returned (.tuple #[.slice none 0 0, .int .i64 (allE ws)]) ∧ Below w.heap.size w w' := by
  have A := Lib.hid (all_any ws ad cap w hn hx hs)
  clear hx hs
  have hz : (allE ws == 0) = false := by simpa using hE
  generalize allE ws = u at *
  generalize allN ws = v at *
  generalize ws.length = n at *
  go_enter Try.func26, Try.ntmps26
  go_wp2_with fail
  refine A.out.mono ?_
  rintro e w1 ⟨rfl, hb1⟩
  go_wp2
  refine bodyPost_ret (v := .tuple #[.slice none 0 0, .int .i64 u]) (by simp [results, Try.results26, go_sem]) rfl ⟨rfl, hb1⟩
theorem sum_take_bd (xs : List Int) (h : ∀ k, k < xs.length → In (xs.getD k 0)) (k : Nat) (hk : k ≤ xs.length) : -(9223372036854775808 * (k : Int)) ≤ sumI (xs.take k) ∧ sumI (xs.take k) ≤ 9223372036854775808 * (k : Int) := by
  induction k with
  | zero => simp [sumI]
  | succ k ih =>
    have h1 := ih (by omega)
    have h2 := h k (by omega)
    rw [sumI_take_succ xs k (by omega)]
    unfold In at h2
    omega
theorem leftI_zero (a : Int) (ws : List Int) : leftI a ws 0 = a := by unfold leftI; simp [sumI]
theorem leftI_succ (a : Int) (ws : List Int) (k : Nat) (hk : k < ws.length) : leftI a ws (k + 1) = leftI a ws k + -(a * ws.getD k 0 / sumI ws) := by
  unfold leftI
  rw [sumI_take_succ _ k (by simpa using hk), at_shQ hk]
  omega
theorem leftI_all (a : Int) (ws : List Int) : leftI a ws ws.length = shM a ws := by
  unfold leftI shM
  rw [List.take_of_length_le (by simp)]
theorem leftI_bd {a : Int} {ws : List Int} (h : WOk ws) (ha : In a) (k : Nat) (hk : k ≤ ws.length) : InW (leftI a ws k) := by
  have h1 := sum_take_bd (shQ a ws) (fun j hj => h.q_in ha (by simpa using hj)) k (by simpa using hk)
  have := h.len
  unfold leftI InW
  unfold In at ha
  omega
/-- What Split returns, where weights may be. -/
def SplitOk (a : Int) (ws : List Int) (w : World) (e : Ending) (w' : World) : Prop :=
  ∃ b, w.heap.size ≤ b ∧ e = .returned (.tuple #[.slice (some ⟨b, 0, none⟩) ws.length ws.length, .int .i64 0]) ∧ RowF w' b ws.length (fun j => (shL a ws).getD j 0) ∧ Below w.heap.size w w'
theorem info_part : (Try.prog.info? 73).map (fun i => (i.zero, i.size, i.bytes)) = some (some (.agg #[.int .i64 0, .int .i64 0]), 2, 16) := by kernel_rfl
theorem info_i64 : (Try.prog.info? 2).map (fun i => (i.zero, i.size, i.bytes)) = some (some (.int .i64 0), 1, 8) := by kernel_rfl
theorem make_i64 (n : Nat) (hn : n ≤ 4096) (w : World) : (Instr.makeSlice 41 (.int .i64 (n : Int)) (.int .i64 (n : Int))).run Try.prog w = .ok (.slice (some ⟨w.heap.size, 0, none⟩) n n) (w.alloc (.cells (Array.replicate n (.int .i64 0)) 2)) := by
  obtain ⟨i, hi, h1, h2, h3⟩ := info_parts info_i64
  have := run_makeSlice (P := Try.prog) w 41 2 i (.int .i64 0) Try.underlying41 hi h1 .i64 .i64 n n (by omega) (by omega) (by rw [h2]; omega) (by rw [h3]; omega) (by omega)
  rw [this, h2]
  show _ = Result.ok _ _
  rw [← made_row]
  simp [Value.cells]
theorem make_part (n : Nat) (hn : n ≤ 4096) (w : World) : (Instr.makeSlice 70 (.int .i64 (n : Int)) (.int .i64 (n : Int))).run Try.prog w = .ok (.slice (some ⟨w.heap.size, 0, none⟩) n n) (w.alloc (.cells (Array.replicate (n * 2) (.int .i64 0)) 73)) := by
  obtain ⟨i, hi, h1, h2, h3⟩ := info_parts info_part
  have := run_makeSlice (P := Try.prog) w 70 73 i (.agg #[.int .i64 0, .int .i64 0]) Try.underlying70 hi h1 .i64 .i64 n n (by omega) (by omega) (by rw [h2]; omega) (by rw [h3]; omega) (by omega)
  rw [this, h2]
  show _ = Result.ok _ _
  rw [← made_pair]
  simp [Value.cells]
end Go.Proofs.Ytkejohmghacdhaa
