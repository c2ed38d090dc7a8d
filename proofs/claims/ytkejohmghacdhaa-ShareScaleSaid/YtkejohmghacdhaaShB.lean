/- The parts sorted: slices.SortStableFunc at share's closure. -/
import Derived.Test.YtkejohmghacdhaaSrtE
import Derived.Test.YtkejohmghacdhaaShM
namespace Go.Proofs.Ytkejohmghacdhaa
set_option linter.unusedVariables false
set_option linter.unusedSimpArgs false
open Go Go.Shelf Go.RowKit Go.Lib Go.Sort
/-- which one, and how far its exact share lies above -/
abbrev PartI := Fin 4096 × Int
def encP (x : PartI) : List Value := [.int .i64 (x.1.val : Int), .int .i64 x.2]
def cfP (x y : PartI) : Int := cmpI y.2 x.2
def keyP (x : PartI) : Int := (x.1.val : Int) - x.2 * 4096
def atP (x : PartI) : Nat := x.1.val
theorem crP (x y : PartI) (h : atP x < atP y) : Cr cfP keyP x y := by
  unfold atP at h
  have h1 := x.1.isLt
  have h2 := y.1.isLt
  unfold Cr cfP keyP cmpI
  constructor
  · constructor
    · intro h3; split at h3
      · omega
      · split at h3 <;> omega
    · intro h3; rw [if_pos (by omega)]; omega
  · omega
theorem aggP (w : World) : (isAgg 73).run Try.prog w = .ok true w := by kernel_rfl
theorem sizeP (w : World) : (Go.sizeOf 73).run Try.prog w = .ok 2 w := by kernel_rfl
set_option maxHeartbeats 1000000 in
theorem closure_any (x y : PartI) (W : World) : Calls Try.prog 54 #[.agg #[.int .i64 (x.1.val : Int), .int .i64 x.2], .agg #[.int .i64 (y.1.val : Int), .int .i64 y.2]] W fun e w' => e = .returned (.int .i64 (cfP x y)) ∧ ∃ q os', w' = grow (W.drewN q) os' := by
  have C := fun w => cmp_i64 y.2 x.2 w
  have e : cfP x y = cmpI y.2 x.2 := rfl
  rw [e]
  clear e
  generalize cmpI y.2 x.2 = r at C ⊢
  go_enter Try.func54, Try.ntmps54
  go_wp2_with fail
  refine (C _).mono ?_
  rintro e w' ⟨rfl, rfl⟩
  go_wp2
  go_ret
  exact ⟨rfl, 0, _, by rw [alloc_eq_grow, alloc_eq_grow, grow_grow]; rfl⟩
theorem cmpLaysP (blk off size : Nat) (w : World) : CmpLays Try.prog 54 #[] encP 2 cfP blk off size w :=
  fun _ _ _ _ x y => closure_any x y _
set_option maxHeartbeats 1000000 in
theorem sort_any (blk cap n : Nat) (d0 : Array PartI) (w : World) (hn : d0.size = n) (hsz : n ≤ 4096) (hA : ∀ i, i < n → atP d0[i]! = i) (hH : HoldsK encP 2 w blk 0 d0) (hb : blk < w.heap.size) :
    Calls Try.prog 53 #[.slice (some ⟨blk, 0, none⟩) n cap, .func (.func 54) #[] #[]] w fun e w' => e = .returned (.tuple #[]) ∧ ∃ d', d'.size = n ∧ SWK encP 2 w blk 0 d' w' ∧ PermIn 0 n d0 d' ∧ Inc keyP 0 n d' := by
  have eg : ∀ args w, (callFunc 54 args).run Try.prog w = .ok (.enter 54 args) w := enters_of Try.func54 (by kernel_rfl) rfl
  have C := stable_any 2 aggP sizeP encP cfP keyP atP 54 #[] blk 0 cap n d0 w eg hn (cmpLaysP _ _ _ _) ⟨fun _ => rfl, fun x v hv => by simp [encP] at hv; rcases hv with rfl | rfl <;> rfl, hH, hb⟩ hsz hA crP w (SWK.start hH)
  have C := Lib.hid C
  clear hH hA eg
  go_enter Try.func53, Try.ntmps53
  go_wp2_with fail
  refine C.out.mono ?_
  rintro e w' ⟨rfl, d', h1, h2, h3, h4⟩
  have H := Lib.hid (And.intro h1 (And.intro h2 (And.intro h3 h4)))
  clear h1 h2 h3 h4
  go_wp2
  go_end0
  exact ⟨rfl, d', H.out.1, H.out.2.1, H.out.2.2.1, H.out.2.2.2⟩
/-- What the sort leaves, told of places: who comes t-th. -/
structure Sorted (rs : List Int) (n : Nat) (d' : Array PartI) : Prop where
  size : d'.size = n
  at_ : ∀ t, t < n → atP d'[t]! < n ∧ rank rs (atP d'[t]!) = t
theorem extract_whole (d : Array PartI) (n : Nat) (h : d.size = n) : (d.extract 0 n).toList = d.toList := by
  subst h; simp
theorem toList_get (d : Array PartI) (t : Nat) (h : t < d.size) : d.toList[t]? = some d[t]! := by
  rw [Array.getElem?_toList, Array.getElem?_eq_getElem h, getElem!_pos d t h]
theorem sorted_of (rs : List Int) (n : Nat) (d0 d' : Array PartI) (hl : rs.length = n) (h0 : d0.size = n) (hA : ∀ i, i < n → atP d0[i]! = i ∧ d0[i]!.2 = rs.getD i 0) (P : PermIn 0 n d0 d') (I : Inc keyP 0 n d') : Sorted rs n d' := by
  have hs : d'.size = n := P.1.trans h0
  have hk : ∀ t, t < n → atP d'[t]! < n ∧ keyP d'[t]! = key rs (atP d'[t]!) := fun t ht =>
    permIn_all d0 d' 0 n (fun x => atP x < n ∧ keyP x = key rs (atP x)) (by omega) P (fun i _ hi => by
      obtain ⟨h1, h2⟩ := hA i hi
      rw [h1]
      refine ⟨hi, ?_⟩
      show (atP d0[i]! : Int) - d0[i]!.2 * 4096 = _
      rw [h1, h2]; rfl) t (Nat.zero_le _) ht
  have hp : (d'.toList.map atP).Perm (List.range rs.length) := by
    have p := P.2.2
    rw [extract_whole _ _ hs, extract_whole _ _ h0] at p
    refine (p.map atP).trans ?_
    have : d0.toList.map atP = List.range rs.length := by
      apply List.ext_getElem?
      intro i
      rw [List.getElem?_map]
      by_cases hi : i < n
      · rw [toList_get _ _ (by omega), Option.map_some, (hA i hi).1, List.getElem?_range (by omega)]
      · rw [List.getElem?_eq_none (by simp; omega), List.getElem?_eq_none (by simp; omega)]; rfl
    rw [this]
  have hsrt : (d'.toList.map atP).Pairwise fun i j => key rs i < key rs j := by
    rw [List.pairwise_iff_getElem]
    intro i j hi hj hij
    have hi' : i < n := by simp at hi; omega
    have hj' : j < n := by simp at hj; omega
    have e : ∀ t (ht : t < n) (hq : t < (d'.toList.map atP).length), (d'.toList.map atP)[t] = atP d'[t]! := fun t ht hq => by
      rw [List.getElem_map, Array.getElem_toList, getElem!_pos d' t (by omega)]
    rw [e i hi', e j hj', ← (hk i hi').2, ← (hk j hj').2]
    exact I i j (Nat.zero_le _) hij hj'
  refine ⟨hs, fun t ht => ⟨(hk t ht).1, rank_at hp hsrt ?_⟩⟩
  rw [List.getElem?_map, toList_get _ _ (by omega)]
  rfl
end Go.Proofs.Ytkejohmghacdhaa
