import Derived.Test.YtkejohmghacdhaaShF
namespace Go.Proofs.Ytkejohmghacdhaa
set_option linter.unusedVariables false
set_option linter.unusedSimpArgs false
open Go Go.RowKit
theorem wsum_ok (xs : List Int) (a : Option Addr) (cap : Nat) (w : World) (hn : xs.length ≤ 9223372036854775807) (hx : ∀ k, k < xs.length → In (xs.getD k 0)) (hs : SlI .i64 w a xs) (h : In (sumI xs)) :
    Calls Try.prog 27 #[.slice a xs.length cap] w fun e w' => e = .returned (.tuple #[.int .i64 (sumI xs), .int .i64 0]) ∧ Below w.heap.size w w' := by
  have := wsum_any xs a cap w hn hx hs
  have hf : fitB (sumI xs) = true := by unfold fitB; exact decide_eq_true h
  unfold capN errN at this
  rwa [if_pos hf, if_pos hf] at this
theorem WOk.inS {ws : List Int} (h : WOk ws) : In (sumI ws) := ⟨by have := h.sum; omega, h.fit⟩
theorem WOk.muldiv {ws : List Int} (h : WOk ws) {a : Int} (ha : In a) (hx : ∀ k, k < ws.length → In (ws.getD k 0)) (k : Nat) (W : World) (hk : k < ws.length) :
    Calls Try.prog 28 #[.int .i64 a, .int .i64 (ws.getD k 0), .int .i64 (sumI ws)] W fun e w' => e = .returned (.tuple #[.int .i64 ((shQ a ws).getD k 0), .int .i64 ((shR a ws).getD k 0), .int .i64 0]) ∧ Below W.heap.size W w' := by
  rw [at_shQ hk, at_shR hk]
  exact muldiv_fit a _ _ W ha (hx k hk) h.inS h.sum (by rw [← at_shQ hk]; exact h.q_in ha hk)
theorem WOk.parts {ws : List Int} (h : WOk ws) (a : Int) {k : Nat} (hk : k < ws.length) : (shL a ws).getD k 0 = (shQ a ws).getD k 0 ∨ ((shL a ws).getD k 0 = (shQ a ws).getD k 0 + 1 ∧ 0 < (shR a ws).getD k 0) := by
  rw [at_shL hk]
  by_cases ht : rank (shR a ws) k < (shM a ws).toNat
  · exact .inr ⟨by unfold took; rw [if_pos ht], took_pos h a hk ht⟩
  · exact .inl (by unfold took; rw [if_neg ht]; omega)
set_option maxRecDepth 100000 in
set_option maxHeartbeats 2000000 in
theorem shareSum_any (a : Int) (xs : List Int) (ad : Option Addr) (cap : Nat) (w : World) (ha : In a) (hn : xs.length ≤ 9223372036854775807) (hx : ∀ k, k < xs.length → In (xs.getD k 0)) (hs : SlI .i64 w ad xs) :
    Calls Try.prog 6 #[.int .i64 a, .slice ad xs.length cap] w fun e w' => e = .returned (.bool true) ∧ Below w.heap.size w w' := by
  by_cases h : 200 < xs.length
  · have hz : (200 : Int) < (xs.length : Int) := by omega
    clear hx hs
    generalize xs.length = n at *
    go_enter Try.func6, Try.ntmps6
    go_wp2_with fail
    refine (live4 _).mono ?_
    rintro e w1 ⟨rfl, hb1⟩
    go_wp2_with fail
    go_ret
    exact ⟨rfl, (by repeat (with_reducible (first | exact Below.refl _ _ | assumption | refine bl_alloc ?_ _ | refine bl_drewN ?_ _ | refine bl_drew ?_ | refine bl_call ?_ (by assumption) | (refine bl_setCell ?_ _ (Nat.le_refl _)) | (refine bl_setCell ?_ _ (by first | omega | (simp; done) | (simp; omega))))))⟩
  have hz : ¬ (200 : Int) < (xs.length : Int) := by omega
  by_cases hE : allE xs = 0
  · obtain ⟨WO, hN⟩ := wok_of hE
    obtain ⟨sb, so, rfl, hsb, hcell⟩ := hs.at 0 WO.nonempty
    have C1 := Lib.hid (fun w hs => split_yes a xs (some ⟨sb, so, none⟩) cap w hn hx hs ha hE)
    have C2 := Lib.hid (fun w hs => wsum_ok xs (some ⟨sb, so, none⟩) cap w hn hx hs WO.inS)
    have hl := len_shL a xs
    have C3 := Lib.hid (fun (b : Nat) w hs => by
      have := wsum_ok (shL a xs) (some ⟨b, 0, none⟩) xs.length w (by rw [hl]; exact hn) (fun k hk => WO.l_in ha (by rw [hl] at hk; exact hk)) hs (by rw [WO.sumL]; exact ha)
      rwa [hl, WO.sumL] at this)
    have CM := Lib.hid (fun k W hk => WO.muldiv ha hx k W hk)
    have D := Lib.hid (fun k hk => WO.parts a (k := k) hk)
    have QI := Lib.hid (fun k hk => WO.q_in ha (i := k) hk)
    have LI := Lib.hid (fun k hk => WO.l_in ha (i := k) hk)
    have HS := Lib.hid hs
    have HC := Lib.hid hcell
    have SL : Hid (∀ b W, RowF W b xs.length (fun j => (shL a xs).getD j 0) → SlI .i64 W (some ⟨b, 0, none⟩) (shL a xs)) := fun b W h => RowF.sl (by rw [hl]; exact h)
    unfold SplitOk at C1
    clear hx hs hcell WO hN hE hl
    generalize shL a xs = L at *
    generalize sumI xs = s at *
    generalize hq : (fun k => (shQ a xs).getD k 0) = q
    generalize hr : (fun k => (shR a xs).getD k 0) = r
    have eq : ∀ k, (shQ a xs).getD k 0 = q k := fun k => by rw [← hq]
    have er : ∀ k, (shR a xs).getD k 0 = r k := fun k => by rw [← hr]
    have CM : Hid (∀ k W, k < xs.length → Calls Try.prog 28 #[.int .i64 a, .int .i64 (xs.getD k 0), .int .i64 s] W fun e w' => e = .returned (.tuple #[.int .i64 (q k), .int .i64 (r k), .int .i64 0]) ∧ Below W.heap.size W w') := fun k W hk => by
      have := CM.out k W hk; rwa [eq, er] at this
    have D : Hid (∀ k, k < xs.length → L.getD k 0 = q k ∨ (L.getD k 0 = q k + 1 ∧ 0 < r k)) := fun k hk => by have := D.out k hk; rwa [eq, er] at this
    have QI : Hid (∀ k, k < xs.length → In (q k)) := fun k hk => by have := QI.out k hk; rwa [eq] at this
    clear eq er hq hr
    generalize xs.length = n at *
    go_enter Try.func6, Try.ntmps6
    go_wp2_with fail
    refine (live4 _).mono ?_
    rintro e w1 ⟨rfl, hb1⟩
    have s1 := Lib.hid (HS.out.go hb1)
    go_wp2_with fail
    refine (C1.out _ s1.out).mono ?_
    rintro e w2 ⟨b, hb, rfl, hr, hb2⟩
    have s2 := Lib.hid (s1.out.go hb2)
    have R2 := Lib.hid hr
    have B2 := Lib.hid (bl_call hb1 hb2)
    clear hb hr hb1 hb2
    go_wp2_with fail
    refine (C2.out _ s2.out).mono ?_
    rintro e w3 ⟨rfl, hb3⟩
    have R3 := Lib.hid (R2.out.go hb3)
    have B3 := Lib.hid (bl_call B2.out hb3)
    clear hb3
    go_wp2_with fail
    refine (C3.out b _ (SL.out b _ R3.out)).mono ?_
    rintro e w4 ⟨rfl, hb4⟩
    have R4 := Lib.hid (R3.out.go hb4)
    have B4 := Lib.hid (bl_call B3.out hb4)
    clear hb4
    go_wp2
    go_loopw [62] (fun i wr => ∃ k : Nat, k ≤ n ∧ i = .int .i64 k ∧ Aside (Below w.heap.size w wr) ∧ Aside (RowF wr b n (fun j => L.getD j 0))) (fun i _ => n - (intOf i).toNat)
    case atStart => exact ⟨0, by omega, rfl, B4, R4⟩
    case round =>
      obtain ⟨k, hk, rfl, HB, HR⟩ := hrel
      by_cases hlt : k < n
      · have hzk : (k : Int) < (n : Int) := by omega
        have c1 : wr.cell? ⟨sb, so + k, none⟩ = some (.int .i64 (xs.getD k 0)) := (HB.out.cell (p := ⟨sb, so + k, none⟩) hsb).trans (HC.out k hlt)
        have M := CM.out k
        have dk := D.out k hlt
        have qk := QI.out k hlt
        generalize xs.getD k 0 = x at c1 M
        go_wp2_with fail
        refine (M _ hlt).mono ?_
        rintro e w5 ⟨rfl, hb5⟩
        have c2 := ((HR.out.go hb5) k hlt).1
        have HR5 := Lib.hid (HR.out.go hb5)
        have HB5 := Lib.hid (bl_call HB.out hb5)
        clear hb5 c1 M HB HR
        generalize L.getD k 0 = l at *
        generalize q k = qq at *
        generalize r k = rr at *
        rcases dk with rfl | ⟨rfl, hrr⟩
        · have t1 : (l != l) = false := by simp
          go_wp2
          go_roundw
          case rel => exact ⟨k + 1, by omega, by go_num, HB5, HR5⟩
          case measure => simp [intOf]; omega
        · have t1 : (qq + 1 != qq) = true := by simp; omega
          have t2 : (rr == 0) = false := by simp; omega
          unfold In at qk
          have t3 : IntKind.i64.wrap (qq + 1 - 1) = qq := by rw [IntKind.wrap_i64]; omega
          have t4 : (qq != qq) = false := by simp
          go_wp2
          go_roundw
          case rel => exact ⟨k + 1, by omega, by go_num, HB5, HR5⟩
          case measure => simp [intOf]; omega
      · have hzk : ¬ (k : Int) < (n : Int) := by omega
        go_wp2
        go_ret
        exact ⟨rfl, HB.out⟩
  · have C1 := Lib.hid (fun w hs => split_no a xs ad cap w hn hx hs hE)
    have C2 := Lib.hid (fun w hs => wsum_any xs ad cap w hn hx hs)
    have HS := Lib.hid hs
    have he : (allE xs == 0) = false := by simpa using hE
    clear hx hs
    generalize allE xs = u at *
    generalize capN (sumI xs) = v at *
    generalize errN (sumI xs) = v2 at *
    generalize xs.length = n at *
    go_enter Try.func6, Try.ntmps6
    go_wp2_with fail
    refine (live4 _).mono ?_
    rintro e w1 ⟨rfl, hb1⟩
    have s1 := Lib.hid (HS.out.go hb1)
    go_wp2_with fail
    refine (C1.out _ s1.out).mono ?_
    rintro e w2 ⟨rfl, hb2⟩
    have s2 := Lib.hid (s1.out.go hb2)
    go_wp2_with fail
    refine (C2.out _ s2.out).mono ?_
    rintro e w3 ⟨rfl, hb3⟩
    go_wp2
    go_ret
    exact ⟨rfl, (by repeat (with_reducible (first | exact Below.refl _ _ | assumption | refine bl_alloc ?_ _ | refine bl_drewN ?_ _ | refine bl_drew ?_ | refine bl_call ?_ (by assumption) | (refine bl_setCell ?_ _ (Nat.le_refl _)) | (refine bl_setCell ?_ _ (by first | omega | (simp; done) | (simp; omega))))))⟩
end Go.Proofs.Ytkejohmghacdhaa
