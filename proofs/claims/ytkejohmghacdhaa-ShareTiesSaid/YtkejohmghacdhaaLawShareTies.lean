import Derived.Test.YtkejohmghacdhaaLawShareSum
namespace Go.Proofs.Ytkejohmghacdhaa
set_option linter.unusedVariables false
set_option linter.unusedSimpArgs false
open Go Go.RowKit
theorem WOk.ties {ws : List Int} (h : WOk ws) (a : Int) {i j : Nat} (hi : i < ws.length) (hj : j < ws.length) (h1 : (shL a ws).getD i 0 = (shQ a ws).getD i 0 + 1) (h2 : (shL a ws).getD j 0 = (shQ a ws).getD j 0) :
    (shR a ws).getD j 0 < (shR a ws).getD i 0 ∨ ((shR a ws).getD i 0 = (shR a ws).getD j 0 ∧ i < j) := by
  rw [at_shL hi] at h1
  rw [at_shL hj] at h2
  have t1 : rank (shR a ws) i < (shM a ws).toNat := by
    unfold took at h1; split at h1
    · assumption
    · omega
  have t2 : ¬ rank (shR a ws) j < (shM a ws).toNat := by
    unfold took at h2; split at h2
    · omega
    · assumption
  have k := key_of_rank (rs := shR a ws) (i := i) (j := j) (by omega)
  have := h.len
  unfold key at k
  omega
set_option maxRecDepth 100000 in
set_option maxHeartbeats 4000000 in
theorem shareTies_any (a : Int) (xs : List Int) (ad : Option Addr) (cap : Nat) (w : World) (ha : In a) (hn : xs.length ≤ 9223372036854775807) (hx : ∀ k, k < xs.length → In (xs.getD k 0)) (hs : SlI .i64 w ad xs) :
    Calls Try.prog 7 #[.int .i64 a, .slice ad xs.length cap] w fun e w' => e = .returned (.bool true) ∧ Below w.heap.size w w' := by
  by_cases h : 60 < xs.length
  · have hz : (60 : Int) < (xs.length : Int) := by omega
    clear hx hs
    generalize xs.length = n at *
    go_enter Try.func7, Try.ntmps7
    go_wp2_with fail
    refine (live4 _).mono ?_
    rintro e w1 ⟨rfl, hb1⟩
    go_wp2_with fail
    go_ret
    exact ⟨rfl, (by repeat (with_reducible (first | exact Below.refl _ _ | assumption | refine bl_alloc ?_ _ | refine bl_drewN ?_ _ | refine bl_drew ?_ | refine bl_call ?_ (by assumption) | (refine bl_setCell ?_ _ (Nat.le_refl _)) | (refine bl_setCell ?_ _ (by first | omega | (simp; done) | (simp; omega))))))⟩
  have hz : ¬ (60 : Int) < (xs.length : Int) := by omega
  by_cases hE : allE xs = 0
  · obtain ⟨WO, hN⟩ := wok_of hE
    obtain ⟨sb, so, rfl, hsb, hcell⟩ := hs.at 0 WO.nonempty
    have C1 := Lib.hid (fun w hs => split_yes a xs (some ⟨sb, so, none⟩) cap w hn hx hs ha hE)
    have C2 := Lib.hid (fun w hs => wsum_ok xs (some ⟨sb, so, none⟩) cap w hn hx hs WO.inS)
    have CM := Lib.hid (fun k W hk => WO.muldiv ha hx k W hk)
    have D := Lib.hid (fun k hk => WO.parts a (k := k) hk)
    have TI := Lib.hid (fun i j hi hj => WO.ties a (i := i) (j := j) hi hj)
    have HS := Lib.hid hs
    have HC := Lib.hid hcell
    unfold SplitOk at C1
    clear hx hs hcell WO hN hE
    generalize shL a xs = L at *
    generalize sumI xs = s at *
    generalize hq : (fun k => (shQ a xs).getD k 0) = q
    generalize hr : (fun k => (shR a xs).getD k 0) = r
    generalize hl : (fun k => L.getD k 0) = l
    have eq : ∀ k, (shQ a xs).getD k 0 = q k := fun k => by rw [← hq]
    have er : ∀ k, (shR a xs).getD k 0 = r k := fun k => by rw [← hr]
    have el : ∀ k, L.getD k 0 = l k := fun k => by rw [← hl]
    have CM : Hid (∀ k W, k < xs.length → Calls Try.prog 28 #[.int .i64 a, .int .i64 (xs.getD k 0), .int .i64 s] W fun e w' => e = .returned (.tuple #[.int .i64 (q k), .int .i64 (r k), .int .i64 0]) ∧ Below W.heap.size W w') := fun k W hk => by
      have := CM.out k W hk; rwa [eq, er] at this
    have D : Hid (∀ k, k < xs.length → l k = q k ∨ (l k = q k + 1 ∧ 0 < r k)) := fun k hk => by have := D.out k hk; rwa [eq, er, el] at this
    have TI : Hid (∀ i j, i < xs.length → j < xs.length → l i = q i + 1 → l j = q j → r j < r i ∨ (r i = r j ∧ i < j)) := fun i j hi hj => by have := TI.out i j hi hj; rwa [eq, er, el, eq, er, el] at this
    have RW : Hid (∀ W b, RowF W b xs.length (fun j => L.getD j 0) → RowF W b xs.length l) := fun W b h => h.congr fun j _ => (el j).symm
    clear eq er el hq hr hl
    generalize xs.length = n at *
    go_enter Try.func7, Try.ntmps7
    go_wp2_with fail
    refine (live4 _).mono ?_
    rintro e w1 ⟨rfl, hb1⟩
    have s1 := Lib.hid (HS.out.go hb1)
    go_wp2_with fail
    refine (C1.out _ s1.out).mono ?_
    rintro e w2 ⟨b, hb, rfl, hr, hb2⟩
    have s2 := Lib.hid (s1.out.go hb2)
    have R2 := Lib.hid (RW.out _ _ hr)
    have B2 := Lib.hid (bl_call hb1 hb2)
    clear hb hr hb1 hb2
    go_wp2_with fail
    refine (C2.out _ s2.out).mono ?_
    rintro e w3 ⟨rfl, hb3⟩
    have R3 := Lib.hid (R2.out.go hb3)
    have B3 := Lib.hid (bl_call B2.out hb3)
    clear hb3
    go_wp2
    go_loopw [49] (fun i wr => ∃ k : Nat, k ≤ n ∧ i = .int .i64 k ∧ Aside (Below w.heap.size w wr) ∧ Aside (RowF wr b n l)) (fun i _ => n - (intOf i).toNat)
    case atStart => exact ⟨0, by omega, rfl, B3, R3⟩
    case round =>
      obtain ⟨i, hi, rfl, HB, HR⟩ := hrel
      by_cases hlt : i < n
      · have hzk : (i : Int) < (n : Int) := by omega
        have c1 : wr.cell? ⟨sb, so + i, none⟩ = some (.int .i64 (xs.getD i 0)) := (HB.out.cell (p := ⟨sb, so + i, none⟩) hsb).trans (HC.out i hlt)
        have M := CM.out i
        generalize xs.getD i 0 = x at c1 M
        go_wp2_with fail
        refine (M _ hlt).mono ?_
        rintro e w5 ⟨rfl, hb5⟩
        have HR5 := Lib.hid (HR.out.go hb5)
        have HB5 := Lib.hid (bl_call HB.out hb5)
        clear hb5 c1 M HB HR
        go_wp2
        go_loopw [65] (fun s wq => ∃ k : Nat, k ≤ n ∧ s = .int .i64 k ∧ Aside (Below w.heap.size w wq) ∧ Aside (RowF wq b n l)) (fun s _ => n - (intOf s).toNat)
        case atStart => exact ⟨0, by omega, rfl, HB5, HR5⟩
        case round =>
          clear HB5 HR5
          obtain ⟨j, hj, rfl, HB, HR⟩ := hrel
          by_cases hlj : j < n
          · have hzj : (j : Int) < (n : Int) := by omega
            have c1 : wr.cell? ⟨sb, so + j, none⟩ = some (.int .i64 (xs.getD j 0)) := (HB.out.cell (p := ⟨sb, so + j, none⟩) hsb).trans (HC.out j hlj)
            have M := CM.out j
            generalize xs.getD j 0 = y at c1 M
            go_wp2_with fail
            refine (M _ hlj).mono ?_
            rintro e w6 ⟨rfl, hb6⟩
            have HR6 := Lib.hid (HR.out.go hb6)
            have HB6 := Lib.hid (bl_call HB.out hb6)
            clear hb6 c1 M HB HR
            have c2 := (HR6.out i hlt).1
            have c3 := (HR6.out j hlj).1
            have di := D.out i hlt
            have dj := D.out j hlj
            have tt := TI.out i j hlt hlj
            rcases di with di | ⟨di, _⟩
            · have t1 : ¬ q i < q i := by omega
              have t1' : decide (q i < q i) = false := decide_eq_false t1
              rw [di] at c2
              clear tt dj di
              go_wp2
              go_roundw
              case rel => exact ⟨j + 1, by omega, by go_num, HB6, HR6⟩
              case measure => simp [intOf]; omega
            · have t1 : q i < q i + 1 := by omega
              have t1' : decide (q i < q i + 1) = true := decide_eq_true t1
              rw [di] at c2
              rcases dj with dj | ⟨dj, _⟩
              · have tt := tt di dj
                have t3 : ¬ r i < r j := by omega
                have t3' : decide (r i < r j) = false := decide_eq_false t3
                rw [dj] at c3
                clear di dj
                by_cases e : r i = r j
                · have t4 : ¬ (j : Int) < (i : Int) := by omega
                  have t4' : decide ((j : Int) < (i : Int)) = false := decide_eq_false t4
                  have t4'' : decide (j < i) = false := decide_eq_false (by omega)
                  have t5 : (r i == r j) = true := by simpa using e
                  clear tt e t3 t4 t1
                  go_wp2
                  go_roundw
                  case rel => exact ⟨j + 1, by omega, by go_num, HB6, HR6⟩
                  case measure => simp [intOf]; omega
                · have t4 : (r i == r j) = false := by simpa using e
                  clear tt e t3 t1
                  go_wp2
                  go_roundw
                  case rel => exact ⟨j + 1, by omega, by go_num, HB6, HR6⟩
                  case measure => simp [intOf]; omega
              · have t2 : (q j + 1 == q j) = false := by simp; omega
                rw [dj] at c3
                clear tt di dj t1
                go_wp2
                go_roundw
                case rel => exact ⟨j + 1, by omega, by go_num, HB6, HR6⟩
                case measure => simp [intOf]; omega
          · have hzj : ¬ (j : Int) < (n : Int) := by omega
            go_wp2
            go_roundw
            case rel => exact ⟨i + 1, by omega, by go_num, HB, HR⟩
            case measure => simp [intOf]; omega
      · have hzk : ¬ (i : Int) < (n : Int) := by omega
        go_wp2
        go_ret
        exact ⟨rfl, HB.out⟩
  · have C1 := Lib.hid (fun w hs => split_no a xs ad cap w hn hx hs hE)
    have C2 := Lib.hid (fun w hs => wsum_any xs ad cap w hn hx hs)
    have HS := Lib.hid hs
    have he : (allE xs == 0) = false := by simpa using hE
    clear hx hs
    generalize allE xs = u at *
    generalize capN (sumI xs) = v at *
    generalize errN (sumI xs) = v2 at *
    generalize xs.length = n at *
    go_enter Try.func7, Try.ntmps7
    go_wp2_with fail
    refine (live4 _).mono ?_
    rintro e w1 ⟨rfl, hb1⟩
    have s1 := Lib.hid (HS.out.go hb1)
    go_wp2_with fail
    refine (C1.out _ s1.out).mono ?_
    rintro e w2 ⟨rfl, hb2⟩
    have s2 := Lib.hid (s1.out.go hb2)
    go_wp2_with fail
    refine (C2.out _ s2.out).mono ?_
    rintro e w3 ⟨rfl, hb3⟩
    go_wp2
    go_ret
    exact ⟨rfl, (by repeat (with_reducible (first | exact Below.refl _ _ | assumption | refine bl_alloc ?_ _ | refine bl_drewN ?_ _ | refine bl_drew ?_ | refine bl_call ?_ (by assumption) | (refine bl_setCell ?_ _ (Nat.le_refl _)) | (refine bl_setCell ?_ _ (by first | omega | (simp; done) | (simp; omega))))))⟩
end Go.Proofs.Ytkejohmghacdhaa
