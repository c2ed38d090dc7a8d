/- slices' stable sort at the slice of parts: insertionSort. -/
import Derived.Test.YtkejohmghacdhaaSrtB
namespace Go.Proofs.Ytkejohmghacdhaa
set_option linter.unusedVariables false
set_option linter.unusedSimpArgs false
open Go Go.Shelf Go.RowKit Go.Lib Go.Sort
variable {α : Type} [Inhabited α]
/-- Inside the inner loop: what moves lies at j. -/
structure InsS (cf : α → α → Int) (K : α → Int) (a i j : Nat) (d dj : Array α) : Prop where
  perm : PermIn a (i + 1) d dj
  rest : ∀ p q, a ≤ p → p < q → q ≤ i → p ≠ j → q ≠ j → K dj[p]! < K dj[q]!
  right : ∀ q, j < q → q ≤ i → K dj[j]! < K dj[q]!
  cross : ∀ q, a ≤ q → q ≤ i → q ≠ j → Cr cf K dj[q]! dj[j]!
theorem InsS.start {cf : α → α → Int} {K : α → Int} {a i : Nat} {d dk : Array α} (hi : i < d.size) (hX : ∀ x y, a ≤ x → x < y → y ≤ i → Cr cf K d[x]! d[y]!) (P : PermIn a i d dk) (hI : Inc K a i dk) (ha : a ≤ i) : InsS cf K a i i d dk := by
  refine ⟨permIn_mono _ _ _ _ _ _ (Nat.le_refl _) (Nat.le_succ _) hi P, fun p q h1 h2 h3 _ h5 => hI p q h1 h2 (by omega), fun q h1 h2 => by omega, fun q h1 h2 h3 => ?_⟩
  have e : dk[i]! = d[i]! := P.2.1 i (.inr (Nat.le_refl _))
  rw [e]
  exact permIn_all d dk a i (fun x => Cr cf K x d[i]!) (by omega) P (fun x h4 h5 => hX x i h4 h5 (Nat.le_refl _)) q h1 (by omega)
theorem InsS.step {cf : α → α → Int} {K : α → Int} {a i j : Nat} {d dj : Array α} (S : InsS cf K a i (j + 1) d dj) (hi : i < d.size) (ha : a ≤ j) (hj : j + 1 ≤ i) (hc : cf dj[j + 1]! dj[j]! < 0) : InsS cf K a i j d (swp dj (j + 1) j) := by
  have hsz : dj.size = d.size := S.perm.1
  have g := fun k => swp_get dj (i := j + 1) (j := j) (by omega) (by omega) k
  have hlt : K dj[j + 1]! < K dj[j]! := (S.cross j ha (by omega) (by omega)).1.1 hc
  refine ⟨permIn_trans _ _ _ _ _ S.perm (swp_permIn dj a (i + 1) _ _ (by omega) (by omega) ha (by omega) (by omega)), fun p q h1 h2 h3 h4 h5 => ?_, fun q h1 h2 => ?_, fun q h1 h2 h3 => ?_⟩
  · rw [g p, g q, if_neg h4, if_neg h5]
    by_cases hp : p = j + 1
    · rw [if_pos hp, if_neg (by omega)]; exact S.rest j q ha (by omega) h3 (by omega) (by omega)
    · rw [if_neg hp]
      by_cases hq : q = j + 1
      · rw [if_pos hq]; exact S.rest p j h1 (by omega) (by omega) hp (by omega)
      · rw [if_neg hq]; exact S.rest p q h1 h2 h3 hp hq
  · rw [g j, g q, if_pos rfl, if_neg (by omega)]
    by_cases hq : q = j + 1
    · rw [if_pos hq]; exact hlt
    · rw [if_neg hq]; exact S.right q (by omega) h2
  · rw [g j, g q, if_pos rfl, if_neg h3]
    by_cases hq : q = j + 1
    · rw [if_pos hq]; exact S.cross j ha (by omega) (by omega)
    · rw [if_neg hq]; exact S.cross q h1 h2 hq
theorem InsS.stop {cf : α → α → Int} {K : α → Int} {a i j : Nat} {d dj : Array α} (S : InsS cf K a i j d dj) (ha : a ≤ j) (hj : j ≤ i) (hs : j ≤ a ∨ ¬ cf dj[j]! dj[j - 1]! < 0) : PermIn a (i + 1) d dj ∧ Inc K a (i + 1) dj := by
  refine ⟨S.perm, fun p q h1 h2 h3 => ?_⟩
  by_cases hq : q = j
  · subst hq
    rcases hs with hs | hs
    · omega
    · have c := S.cross (q - 1) (by omega) (by omega) (by omega)
      have k1 : K dj[q - 1]! < K dj[q]! := by
        have := c.2
        have : ¬ K dj[q]! < K dj[q - 1]! := fun h => hs (c.1.2 h)
        omega
      by_cases hp : p = q - 1
      · rw [hp]; exact k1
      · have := S.rest p (q - 1) h1 (by omega) (by omega) (by omega) (by omega); omega
  · by_cases hp : p = j
    · subst hp; exact S.right q h2 (by omega)
    · exact S.rest p q h1 h2 (by omega) hp hq
set_option maxHeartbeats 8000000 in
set_option maxRecDepth 1000000 in
theorem insertion_any (k : Nat) (aE : ∀ w, (isAgg 73).run Try.prog w = .ok true w) (zE : ∀ w, (Go.sizeOf 73).run Try.prog w = .ok k w) (enc : α → List Value) (cf : α → α → Int) (K : α → Int) (g : Nat) (cb : Array Value) (blk off cap : Nat) (d0 : Array α) (w0 : World)
    (eg : ∀ args w, (callFunc g args).run Try.prog w = .ok (.enter g args) w) (hcmp : CmpLays Try.prog g cb enc k cf blk off d0.size w0) (R : RowK enc k w0 blk off d0) (hsz : d0.size < 4611686018427387904)
    (a b : Nat) (d : Array α) (w : World) (hs : d0.size = d.size) (S : SWK enc k w0 blk off d w) (hab : a ≤ b) (hb : b ≤ d.size) (hX : ∀ i j, a ≤ i → i < j → j < b → Cr cf K d[i]! d[j]!) :
    Calls Try.prog 86 #[.slice (some ⟨blk, off, none⟩) d.size cap, .int .i64 a, .int .i64 b, .func (.func g) #[] cb] w fun e w' => e = .returned (.tuple #[]) ∧ ∃ d', d'.size = d.size ∧ SWK enc k w0 blk off d' w' ∧ PermIn a b d d' ∧ Inc K a b d' := by
  have mixed : Try.prog.follows .mixedOrders = true := by kernel_rfl
  have HC : Aside (CmpLays Try.prog g cb enc k cf blk off d0.size w0) := hcmp
  have S0 : Aside (SWK enc k w0 blk off d w) := S
  have HX : Aside (∀ i j, a ≤ i → i < j → j < b → Cr cf K d[i]! d[j]!) := hX
  clear hcmp S hX
  go_enter Try.func86, Try.ntmps86
  go_wp2
  go_loopg [8] (b - a) (fun kx s8 wr => ∃ (i : Nat) (dk : Array α), s8 = .int .i64 i ∧ a < i ∧ i ≤ b + 1 ∧ b + 1 - i ≤ kx + 1 ∧ dk.size = d.size ∧ Aside (SWK enc k w0 blk off dk wr) ∧ Aside (PermIn a (min i b) d dk) ∧ Aside (Inc K a (min i b) dk))
  case atStart => exact ⟨a + 1, d, by first | rfl | simp, by omega, by omega, by omega, rfl, S0, permIn_refl _ _ _, fun x y h1 h2 h3 => by omega⟩
  case round =>
    clear S0
    obtain ⟨i, dk, rfl, hai, hib, hkx, hds, S1, HP, HI⟩ := hrel
    by_cases hlt : i < b
    · have hltz : (i : Int) < (b : Int) := by omega
      have I0 : Aside (InsS cf K a i i d dk) := InsS.start (by omega) (fun x y h1 h2 h3 => HX.out x y h1 h2 (by omega)) (by have := HP.out; rwa [Nat.min_eq_left (by omega)] at this) (by have := HI.out; rwa [Nat.min_eq_left (by omega)] at this) (by omega)
      clear HP HI
      go_wp2
      go_loopg [9] i (fun ky s9 wr2 => ∃ (j : Nat) (dj : Array α), s9 = .int .i64 j ∧ a ≤ j ∧ j ≤ i ∧ j ≤ ky ∧ dj.size = d.size ∧ Aside (SWK enc k w0 blk off dj wr2) ∧ Aside (InsS cf K a i j d dj))
      case atStart => exact ⟨i, dk, rfl, by omega, Nat.le_refl _, Nat.le_refl _, hds, S1, I0⟩
      case round =>
        clear S1 I0
        obtain ⟨j, dj, rfl, haj, hji, hky, hdj, S1, IS⟩ := hrel
        by_cases hja : a < j
        · have hjaz : (a : Int) < (j : Int) := by omega
          obtain ⟨jp, rfl⟩ : ∃ jp, j = jp + 1 := ⟨j - 1, by omega⟩
          have hwp : IntKind.i64.wrap (jp : Int) = (jp : Int) := by rw [IntKind.wrap_i64]; omega
          have hjaz' : (a : Int) < (jp : Int) + 1 := by omega
          by_cases hv : cf dj[jp + 1]! dj[jp]! < 0
          · have I2 : Aside (InsS cf K a i jp d (swp dj (jp + 1) jp)) := IS.out.step (by omega) (by omega) hji hv
            have HV := Lib.hid hv
            clear hv IS
            have eas : ((jp : Int) + 1).toNat = jp + 1 := by omega
            have pas : (0 : Int) ≤ (jp : Int) + 1 := by omega
            have bas : (jp : Int) + 1 < (d.size : Int) := by omega
            have ecs : ((jp : Int)).toNat = jp := by omega
            have pcs : (0 : Int) ≤ (jp : Int) := by omega
            have bcs : (jp : Int) < (d.size : Int) := by omega
            obtain ⟨xs, hxs⟩ : ∃ x, x = dj[jp + 1]! := ⟨_, rfl⟩
            obtain ⟨ys, hys⟩ : ∃ x, x = dj[jp]! := ⟨_, rfl⟩
            have las := S1.out.ld R (by omega) Try.prog (jp + 1) (by omega)
            have lbs := S1.out.ld R (by omega) Try.prog (jp) (by omega)
            rw [← hxs] at las
            rw [← hys] at lbs
            have hcs := S1.out.cmp HC.out (by omega) xs ys
            have hvs : cf xs ys < 0 := by rw [hxs, hys]; exact HV.out
            have hds : decide (cf xs ys < 0) = true := decide_eq_true hvs
            clear hxs hys
            go_wp2_with fail
            go_quiet_grown (first | (go_at_fn g; refine Calls.grown_of (hcs _ _)))
            have S2 : Aside (SWK enc k w0 blk off dj (grow (wr.drewN nq) osq)) := S1.out.grown nq osq
            clear las lbs hcs S1
            generalize grow (wr.drewN nq) osq = wq at S2 ⊢
            clear nq osq
            have eau : ((jp : Int) + 1).toNat = jp + 1 := by omega
            have pau : (0 : Int) ≤ (jp : Int) + 1 := by omega
            have bau : (jp : Int) + 1 < (d.size : Int) := by omega
            have rau : IntKind.i64.wrap ((jp : Int) + 1) = (jp : Int) + 1 := by rw [IntKind.wrap_i64]; omega
            have ecu : ((jp : Int)).toNat = jp := by omega
            have pcu : (0 : Int) ≤ (jp : Int) := by omega
            have bcu : (jp : Int) < (d.size : Int) := by omega
            have rcu : IntKind.i64.wrap ((jp : Int)) = (jp : Int) := by rw [IntKind.wrap_i64]; omega
            have S3 : Aside (SWK enc k w0 blk off (swp dj (jp + 1) (jp)) ((wq.drew.setCells blk (off + (jp + 1) * k) (enc dj[jp]!)).setCells blk (off + (jp) * k) (enc dj[jp + 1]!))) := S2.out.swapped R (jp + 1) (jp) (by omega) (by omega)
            have lau := S2.out.ld1 R (by omega) Try.prog (jp + 1) (by omega)
            have lbu := S2.out.ld1 R (by omega) Try.prog (jp) (by omega)
            have sau := S2.out.st1 R (by omega) Try.prog (jp + 1) (by omega) dj[jp]!
            have sbu := S2.out.st2 R (by omega) Try.prog (jp + 1) (jp) (by omega) (by omega) dj[jp]! dj[jp + 1]!
            have nau : (enc dj[jp + 1]!).length = k := R.hk _
            have nbu : (enc dj[jp]!).length = k := R.hk _
            generalize enc dj[jp + 1]! = cI at S3 lau sbu nau
            generalize enc dj[jp]! = cJ at S3 lbu sau sbu nbu
            clear S2
            go_wp2_with fail
            go_big_region_o
            clear lau lbu sau sbu
            generalize (wq.drew.setCells blk (off + (jp + 1) * k) cJ).setCells blk (off + (jp) * k) cI = wz at S3 ⊢
            go_wp2
            go_roundg jp
            case measure => omega
            case rel => exact ⟨jp, swp dj (jp + 1) jp, by first | rfl | go_num | (congr 1; omega), by omega, by omega, Nat.le_refl _, by rw [size_swp]; exact hdj, S3, I2⟩
          · have I2 := Lib.hid (IS.out.stop (by omega) hji (.inr (by simpa using hv)))
            have HV := Lib.hid hv
            clear hv IS
            have eas : ((jp : Int) + 1).toNat = jp + 1 := by omega
            have pas : (0 : Int) ≤ (jp : Int) + 1 := by omega
            have bas : (jp : Int) + 1 < (d.size : Int) := by omega
            have ecs : ((jp : Int)).toNat = jp := by omega
            have pcs : (0 : Int) ≤ (jp : Int) := by omega
            have bcs : (jp : Int) < (d.size : Int) := by omega
            obtain ⟨xs, hxs⟩ : ∃ x, x = dj[jp + 1]! := ⟨_, rfl⟩
            obtain ⟨ys, hys⟩ : ∃ x, x = dj[jp]! := ⟨_, rfl⟩
            have las := S1.out.ld R (by omega) Try.prog (jp + 1) (by omega)
            have lbs := S1.out.ld R (by omega) Try.prog (jp) (by omega)
            rw [← hxs] at las
            rw [← hys] at lbs
            have hcs := S1.out.cmp HC.out (by omega) xs ys
            have hvs : ¬ cf xs ys < 0 := by rw [hxs, hys]; exact HV.out
            have hds : decide (cf xs ys < 0) = false := decide_eq_false hvs
            clear hxs hys
            go_wp2_with fail
            go_quiet_grown (first | (go_at_fn g; refine Calls.grown_of (hcs _ _)))
            have S2 : Aside (SWK enc k w0 blk off dj (grow (wr.drewN nq) osq)) := S1.out.grown nq osq
            clear las lbs hcs S1
            generalize grow (wr.drewN nq) osq = wq at S2 ⊢
            clear nq osq
            go_wp2
            go_roundg (b - (i + 1))
            case measure => omega
            case rel => exact ⟨i + 1, dj, by first | rfl | go_num | simp, by omega, by omega, by omega, hdj, S2, by rw [Nat.min_eq_left (by omega)]; exact I2.out.1, by rw [Nat.min_eq_left (by omega)]; exact I2.out.2⟩
        · have hjaz : decide ((j : Int) > (a : Int)) = false := decide_eq_false (by omega)
          have hjaz' : ¬ (a : Int) < (j : Int) := by omega
          have I2 := Lib.hid (IS.out.stop (by omega) hji (.inl (by omega)))
          have S2 : Aside (SWK enc k w0 blk off dj wr.drew) := S1.out.drew
          clear IS S1
          go_wp2_with fail
          go_big_region_o
          all_goals go_wp2
          go_roundg (b - (i + 1))
          case measure => omega
          case rel => exact ⟨i + 1, dj, by first | rfl | go_num | simp, by omega, by omega, by omega, hdj, S2, by rw [Nat.min_eq_left (by omega)]; exact I2.out.1, by rw [Nat.min_eq_left (by omega)]; exact I2.out.2⟩
    · have hltz : ¬ (i : Int) < (b : Int) := by omega
      go_wp2
      go_end0
      exact ⟨rfl, dk, hds, S1.out, by have := HP.out; rwa [Nat.min_eq_right (by omega)] at this, by have := HI.out; rwa [Nat.min_eq_right (by omega)] at this⟩
end Go.Proofs.Ytkejohmghacdhaa
