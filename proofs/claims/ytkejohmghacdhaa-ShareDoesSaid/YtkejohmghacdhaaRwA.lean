/- Contracts of the reference's chapter 2: digits. -/
import Derived.Test.YtkejohmghacdhaaWideD
import Derived.Test.YtkejohmghacdhaaMathY
namespace Go.Proofs.Ytkejohmghacdhaa
set_option linter.unusedVariables false
set_option linter.unusedSimpArgs false
open Go.RowKit
abbrev numA (b : Bool) (n : Int) : Value := .agg #[.bool b, .int .u64 (dg n 0), .int .u64 (dg n 1), .int .u64 (dg n 2), .int .u64 (dg n 3), .int .u64 (dg n 4), .int .u64 (dg n 5), .int .u64 (dg n 6), .int .u64 (dg n 7)]
/-- eight numbers from offset o on -/
def Digs (w : World) (b o : Nat) (f : Nat → Int) : Prop := ∀ j, j < 8 → w.cell? ⟨b, o + j, none⟩ = some (.int .u64 (f j))
theorem Digs.go {w w' : World} {b o : Nat} {f : Nat → Int} (h : Digs w b o f) (hb : Below w.heap.size w w') (hl : b < w.heap.size) : Digs w' b o f := fun j hj => (hb.cell (p := ⟨b, o + j, none⟩) hl).trans (h j hj)
theorem Digs.set {w : World} {b o : Nat} {f g : Nat → Int} (h : Digs w b o f) (k : Nat) (hk : k < 8) (v : Int) (hv : g k = v) (hg : ∀ j, j < 8 → j ≠ k → g j = f j) : Digs (w.setCell ⟨b, o + k, none⟩ (.int .u64 v)) b o g := fun j hj => by
  by_cases e : j = k
  · subst e; rw [hv]; exact World.cell?_setCell_same _ _ _ (h j hj)
  · rw [World.cell?_setCell_other _ _ _ _ (fun e' => e (by injection e' with _ e2 _; omega)), hg j hj e]; exact h j hj
theorem Digs.other {w : World} {b o : Nat} {f : Nat → Int} (h : Digs w b o f) {p : Addr} (hp : p.block ≠ b) (v : Value) : Digs (w.setCell p v) b o f := fun j hj => by
  rw [World.cell?_setCell_other _ _ _ _ (fun e => hp (by rw [e]))]; exact h j hj
/-- the digits that put has laid after k rounds -/
def putF (h l : Int) (k : Nat) (j : Nat) : Int := if j < 4 then (if j < k then l / pw j % 65536 else 0) else (if j < 4 + k then h / pw (j - 4) % 65536 else 0)
theorem set9 {w : World} {b : Nat} {o0 o1 o2 o3 o4 o5 o6 o7 o8 : Value} (x0 x1 x2 x3 x4 x5 x6 x7 x8 : Value) (q0 : w.cell? ⟨b, 0, none⟩ = some o0) (q1 : w.cell? ⟨b, 1, none⟩ = some o1) (q2 : w.cell? ⟨b, 2, none⟩ = some o2) (q3 : w.cell? ⟨b, 3, none⟩ = some o3) (q4 : w.cell? ⟨b, 4, none⟩ = some o4) (q5 : w.cell? ⟨b, 5, none⟩ = some o5) (q6 : w.cell? ⟨b, 6, none⟩ = some o6) (q7 : w.cell? ⟨b, 7, none⟩ = some o7) (q8 : w.cell? ⟨b, 8, none⟩ = some o8) :
    (w.setCell ⟨b, 0, none⟩ x0).cell? ⟨b, 0, none⟩ = some x0 ∧ ((w.setCell ⟨b, 0, none⟩ x0).setCell ⟨b, 1, none⟩ x1).cell? ⟨b, 1, none⟩ = some x1 ∧ (((w.setCell ⟨b, 0, none⟩ x0).setCell ⟨b, 1, none⟩ x1).setCell ⟨b, 2, none⟩ x2).cell? ⟨b, 2, none⟩ = some x2 ∧ ((((w.setCell ⟨b, 0, none⟩ x0).setCell ⟨b, 1, none⟩ x1).setCell ⟨b, 2, none⟩ x2).setCell ⟨b, 3, none⟩ x3).cell? ⟨b, 3, none⟩ = some x3 ∧ (((((w.setCell ⟨b, 0, none⟩ x0).setCell ⟨b, 1, none⟩ x1).setCell ⟨b, 2, none⟩ x2).setCell ⟨b, 3, none⟩ x3).setCell ⟨b, 4, none⟩ x4).cell? ⟨b, 4, none⟩ = some x4 ∧ ((((((w.setCell ⟨b, 0, none⟩ x0).setCell ⟨b, 1, none⟩ x1).setCell ⟨b, 2, none⟩ x2).setCell ⟨b, 3, none⟩ x3).setCell ⟨b, 4, none⟩ x4).setCell ⟨b, 5, none⟩ x5).cell? ⟨b, 5, none⟩ = some x5 ∧ (((((((w.setCell ⟨b, 0, none⟩ x0).setCell ⟨b, 1, none⟩ x1).setCell ⟨b, 2, none⟩ x2).setCell ⟨b, 3, none⟩ x3).setCell ⟨b, 4, none⟩ x4).setCell ⟨b, 5, none⟩ x5).setCell ⟨b, 6, none⟩ x6).cell? ⟨b, 6, none⟩ = some x6 ∧ ((((((((w.setCell ⟨b, 0, none⟩ x0).setCell ⟨b, 1, none⟩ x1).setCell ⟨b, 2, none⟩ x2).setCell ⟨b, 3, none⟩ x3).setCell ⟨b, 4, none⟩ x4).setCell ⟨b, 5, none⟩ x5).setCell ⟨b, 6, none⟩ x6).setCell ⟨b, 7, none⟩ x7).cell? ⟨b, 7, none⟩ = some x7 ∧ (((((((((w.setCell ⟨b, 0, none⟩ x0).setCell ⟨b, 1, none⟩ x1).setCell ⟨b, 2, none⟩ x2).setCell ⟨b, 3, none⟩ x3).setCell ⟨b, 4, none⟩ x4).setCell ⟨b, 5, none⟩ x5).setCell ⟨b, 6, none⟩ x6).setCell ⟨b, 7, none⟩ x7).setCell ⟨b, 8, none⟩ x8).cell? ⟨b, 8, none⟩ = some x8 := by
  refine ⟨?_, ?_, ?_, ?_, ?_, ?_, ?_, ?_, ?_⟩
  · refine World.cell?_setCell_same (u := o0) _ _ _ ?_
    exact q0
  · refine World.cell?_setCell_same (u := o1) _ _ _ ?_
    rw [World.cell?_setCell_other _ _ _ _ (by simp)]; exact q1
  · refine World.cell?_setCell_same (u := o2) _ _ _ ?_
    rw [World.cell?_setCell_other _ _ _ _ (by simp), World.cell?_setCell_other _ _ _ _ (by simp)]; exact q2
  · refine World.cell?_setCell_same (u := o3) _ _ _ ?_
    rw [World.cell?_setCell_other _ _ _ _ (by simp), World.cell?_setCell_other _ _ _ _ (by simp), World.cell?_setCell_other _ _ _ _ (by simp)]; exact q3
  · refine World.cell?_setCell_same (u := o4) _ _ _ ?_
    rw [World.cell?_setCell_other _ _ _ _ (by simp), World.cell?_setCell_other _ _ _ _ (by simp), World.cell?_setCell_other _ _ _ _ (by simp), World.cell?_setCell_other _ _ _ _ (by simp)]; exact q4
  · refine World.cell?_setCell_same (u := o5) _ _ _ ?_
    rw [World.cell?_setCell_other _ _ _ _ (by simp), World.cell?_setCell_other _ _ _ _ (by simp), World.cell?_setCell_other _ _ _ _ (by simp), World.cell?_setCell_other _ _ _ _ (by simp), World.cell?_setCell_other _ _ _ _ (by simp)]; exact q5
  · refine World.cell?_setCell_same (u := o6) _ _ _ ?_
    rw [World.cell?_setCell_other _ _ _ _ (by simp), World.cell?_setCell_other _ _ _ _ (by simp), World.cell?_setCell_other _ _ _ _ (by simp), World.cell?_setCell_other _ _ _ _ (by simp), World.cell?_setCell_other _ _ _ _ (by simp), World.cell?_setCell_other _ _ _ _ (by simp)]; exact q6
  · refine World.cell?_setCell_same (u := o7) _ _ _ ?_
    rw [World.cell?_setCell_other _ _ _ _ (by simp), World.cell?_setCell_other _ _ _ _ (by simp), World.cell?_setCell_other _ _ _ _ (by simp), World.cell?_setCell_other _ _ _ _ (by simp), World.cell?_setCell_other _ _ _ _ (by simp), World.cell?_setCell_other _ _ _ _ (by simp), World.cell?_setCell_other _ _ _ _ (by simp)]; exact q7
  · refine World.cell?_setCell_same (u := o8) _ _ _ ?_
    rw [World.cell?_setCell_other _ _ _ _ (by simp), World.cell?_setCell_other _ _ _ _ (by simp), World.cell?_setCell_other _ _ _ _ (by simp), World.cell?_setCell_other _ _ _ _ (by simp), World.cell?_setCell_other _ _ _ _ (by simp), World.cell?_setCell_other _ _ _ _ (by simp), World.cell?_setCell_other _ _ _ _ (by simp), World.cell?_setCell_other _ _ _ _ (by simp)]; exact q8
set_option maxRecDepth 100000 in
set_option maxHeartbeats 1000000 in
theorem put_any (b : Bool) (h l : Int) (w : World) (hh : InU h) (hl : InU l) :
    Calls Try.prog 67 #[.bool b, .int .u64 h, .int .u64 l] w fun e w' => e = .returned (numA b (h * 18446744073709551616 + l)) ∧ Below w.heap.size w w' := by
  have HH := Lib.hid hh
  have HL := Lib.hid hl
  clear hh hl
  generalize hN : h * 18446744073709551616 + l = n
  have HN := Lib.hid hN
  clear hN
  go_enter Try.func67, Try.ntmps67
  go_wp2
  go_loopw [1, 2, 11] (fun hi lo i wr => ∃ k : Nat, k ≤ 4 ∧ i = .int .i64 k ∧ hi = .int .u64 (h / pw k) ∧ lo = .int .u64 (l / pw k) ∧ Below w.heap.size w wr ∧ w.heap.size + 1 < wr.heap.size ∧ wr.cell? ⟨w.heap.size + 1, 0, none⟩ = some (.bool b) ∧ Digs wr (w.heap.size + 1) 1 (putF h l k) ∧ (∀ o, wr.frozen? ⟨w.heap.size + 1, o, none⟩ = false) ∧ wr.cell? ⟨w.heap.size, 0, none⟩ = some (.bool false) ∧ Digs wr w.heap.size 1 (fun _ => 0) ∧ (∀ o, wr.frozen? ⟨w.heap.size, o, none⟩ = false)) (fun _ _ i _ => 4 - (intOf i).toNat)
  case atStart => 
    refine ⟨0, by omega, rfl, by simp [pw], by simp [pw], (by repeat (with_reducible (first | exact Below.refl _ _ | assumption | refine bl_alloc ?_ _ | refine bl_drewN ?_ _ | refine bl_drew ?_ | refine bl_call ?_ (by assumption) | (refine bl_setCell ?_ _ (Nat.le_refl _)) | (refine bl_setCell ?_ _ (by simp))))), by simp, by simp, ?_, by simp, by simp, ?_, by simp⟩
    · intro j hj; rcases lt8 hj with rfl | rfl | rfl | rfl | rfl | rfl | rfl | rfl <;> simp [putF]
    · intro j hj; rcases lt8 hj with rfl | rfl | rfl | rfl | rfl | rfl | rfl | rfl <;> simp
  case round =>
    obtain ⟨k, hk, rfl, rfl, rfl, hbr, hz, q0, qd, qf, r0, rd, rf⟩ := hrel
    by_cases hlt : k < 4
    · have c1 := qd k (by omega)
      have c2 := qd (4 + k) (by omega)
      obtain ⟨a1, a2⟩ := quot_bd HH.out.1 HH.out.2 k (by omega)
      obtain ⟨a3, a4⟩ := quot_bd HL.out.1 HL.out.2 k (by omega)
      have D1 := Lib.hid (word_div (x := h) k (by omega))
      have D2 := Lib.hid (word_div (x := l) k (by omega))
      go_wp2
      go_roundw
      case rel =>
        refine ⟨k + 1, by omega, by go_num, by rw [D1.out], by rw [D2.out], (by repeat (with_reducible (first | exact Below.refl _ _ | assumption | refine bl_alloc ?_ _ | refine bl_drewN ?_ _ | refine bl_drew ?_ | refine bl_call ?_ (by assumption) | (refine bl_setCell ?_ _ (Nat.le_refl _)) | (refine bl_setCell ?_ _ (by simp))))), by simpa using hz, ?_, ?_, by simpa using qf, ?_, ?_, by simpa using rf⟩
        · rw [World.cell?_setCell_other _ _ _ _ (by simp), World.cell?_setCell_other _ _ _ _ (by simp)]; exact q0
        · refine Digs.set (f := fun j => if j = k then l / pw k % 65536 else putF h l k j) (Digs.set qd k (by omega) _ (by simp) (fun j _ hj => by simp [hj])) (4 + k) (by omega) _ ?_ ?_
          · unfold putF; rw [if_neg (by omega), if_pos (by omega), show 4 + k - 4 = k by omega]
          · intro j hj hn
            unfold putF
            by_cases e : j = k
            · subst e; simp only [if_true]; rw [if_pos (by omega), if_pos (by omega)]
            · simp only [if_neg e]
              by_cases j4 : j < 4
              · simp only [if_pos j4]; by_cases hjk : j < k
                · rw [if_pos (by omega), if_pos hjk]
                · rw [if_neg (by omega), if_neg hjk]
              · simp only [if_neg j4]; by_cases hjk : j < 4 + k
                · rw [if_pos (by omega), if_pos hjk]
                · rw [if_neg (by omega), if_neg hjk]
        · rw [World.cell?_setCell_other _ _ _ _ (by simp), World.cell?_setCell_other _ _ _ _ (by simp)]; exact r0
        · exact (rd.other (by simp) _).other (by simp) _
      case measure => simp [intOf]; omega
    · obtain rfl : k = 4 := by omega
      have W := fun j (hj : j < 4) => dg_words (h := h) (l := l) HH.out.1 HL.out.1 (by have := HL.out.2; omega) j hj
      have qs : ∀ j, j < 8 → wr.cell? ⟨w.heap.size + 1, 1 + j, none⟩ = some (.int .u64 (dg n j)) := fun j hj => by
        rw [← HN.out]
        rw [qd j hj]; unfold putF
        by_cases j4 : j < 4
        · rw [if_pos j4, if_pos j4, (W j j4).1]
        · have e := (W (j - 4) (by omega)).2
          rw [show 4 + (j - 4) = j by omega] at e
          rw [if_neg j4, if_pos (by omega), e]
      clear W qd hk
      have s0 := qs 0 (by omega)
      have s1 := qs 1 (by omega)
      have s2 := qs 2 (by omega)
      have s3 := qs 3 (by omega)
      have s4 := qs 4 (by omega)
      have s5 := qs 5 (by omega)
      have s6 := qs 6 (by omega)
      have s7 := qs 7 (by omega)
      have t0 := rd 0 (by omega)
      have t1 := rd 1 (by omega)
      have t2 := rd 2 (by omega)
      have t3 := rd 3 (by omega)
      have t4 := rd 4 (by omega)
      have t5 := rd 5 (by omega)
      have t6 := rd 6 (by omega)
      have t7 := rd 7 (by omega)
      clear qs rd
      go_wp2
      obtain ⟨u0, u1, u2, u3, u4, u5, u6, u7, u8⟩ := set9 (.bool b) (.int .u64 (dg n 0)) (.int .u64 (dg n 1)) (.int .u64 (dg n 2)) (.int .u64 (dg n 3)) (.int .u64 (dg n 4)) (.int .u64 (dg n 5)) (.int .u64 (dg n 6)) (.int .u64 (dg n 7)) r0 t0 t1 t2 t3 t4 t5 t6 t7
      refine bodyPost_ret (v := numA b n) (by simp [results, Try.results67, go_sem, u0, u1, u2, u3, u4, u5, u6, u7, u8]) rfl ⟨rfl, ?_⟩
      exact (by repeat (with_reducible (first | exact Below.refl _ _ | assumption | refine bl_alloc ?_ _ | refine bl_drewN ?_ _ | refine bl_drew ?_ | refine bl_call ?_ (by assumption) | (refine bl_setCell ?_ _ (Nat.le_refl _)) | (refine bl_setCell ?_ _ (by simp)))))
theorem digs_num (w : World) (b : Bool) (n : Int) : Digs (w.alloc (.cells #[.bool b, .int .u64 (dg n 0), .int .u64 (dg n 1), .int .u64 (dg n 2), .int .u64 (dg n 3), .int .u64 (dg n 4), .int .u64 (dg n 5), .int .u64 (dg n 6), .int .u64 (dg n 7)] 90)) w.heap.size 1 (dg n) := by
  intro j hj; rcases lt8 hj with rfl | rfl | rfl | rfl | rfl | rfl | rfl | rfl <;> simp
theorem words_step {n : Int} (h0 : 0 ≤ n) (k : Nat) (hk : k < 4) : n % 18446744073709551616 / pw (k + 1) * 65536 + dg n k = n % 18446744073709551616 / pw k ∧ n / 18446744073709551616 / pw (k + 1) * 65536 + dg n (4 + k) = n / 18446744073709551616 / pw k := by
  unfold dg
  rcases lt4 hk with rfl | rfl | rfl | rfl <;> simp only [pw] <;> omega
set_option maxRecDepth 100000 in
set_option maxHeartbeats 1000000 in
theorem words_any (b : Bool) (n : Int) (w : World) (h0 : 0 ≤ n) (h1 : n < 340282366920938463463374607431768211456) :
    Calls Try.prog 79 #[numA b n] w fun e w' => e = .returned (.tuple #[.int .u64 (n / 18446744073709551616), .int .u64 (n % 18446744073709551616)]) ∧ Below w.heap.size w w' := by
  have H0 := Lib.hid h0
  obtain ⟨x, hx⟩ : ∃ x, x = n / 18446744073709551616 := ⟨_, rfl⟩
  obtain ⟨y, hy⟩ : ∃ y, y = n % 18446744073709551616 := ⟨_, rfl⟩
  have bx : 0 ≤ x ∧ x ≤ 18446744073709551615 := by omega
  have by' : 0 ≤ y ∧ y ≤ 18446744073709551615 := by omega
  have BX := Lib.hid bx
  have BY := Lib.hid by'
  have S := Lib.hid (show ∀ k, k < 4 → y / pw (k + 1) * 65536 + dg n k = y / pw k ∧ x / pw (k + 1) * 65536 + dg n (4 + k) = x / pw k from fun k hk => by rw [hx, hy]; exact words_step h0 k hk)
  have D := Lib.hid (digs_num w b n)
  have X4 := Lib.hid (show x / pw 4 = 0 by simp only [pw]; omega)
  have Y4 := Lib.hid (show y / pw 4 = 0 by simp only [pw]; omega)
  have X0 := Lib.hid (show x / pw 0 = x by simp only [pw]; omega)
  have Y0 := Lib.hid (show y / pw 0 = y by simp only [pw]; omega)
  have HX := Lib.hid hx
  have HY := Lib.hid hy
  clear hx hy bx by' h0 h1
  go_enter Try.func79, Try.ntmps79
  go_wp2
  go_loop [4, 5, 6] (fun hi lo i => (∃ m : Nat, m < 4 ∧ i = .int .i64 m ∧ hi = .int .u64 (x / pw (m + 1)) ∧ lo = .int .u64 (y / pw (m + 1))) ∨ (i = .int .i64 (-1) ∧ hi = .int .u64 x ∧ lo = .int .u64 y)) (fun _ _ i => (intOf i + 1).toNat)
  case atStart => exact .inl ⟨3, by omega, rfl, by rw [X4.out], by rw [Y4.out]⟩
  case round =>
    rcases hrel with ⟨m, hm, rfl, rfl, rfl⟩ | ⟨rfl, rfl, rfl⟩
    · have s := S.out m hm
      have c1 := D.out m (by omega)
      have c2 := D.out (4 + m) (by omega)
      have g1 := dg_bd n m
      have g2 := dg_bd n (4 + m)
      have bx := quot_bd BX.out.1 BX.out.2 m (by omega)
      have byy := quot_bd BY.out.1 BY.out.2 m (by omega)
      have X' := Lib.hid s
      have i1 : 0 ≤ x / pw (m + 1) ∧ x / pw (m + 1) * 65536 ≤ 18446744073709551615 ∧ x / pw (m + 1) * 65536 + dg n (4 + m) ≤ 18446744073709551615 := by omega
      have i2 : 0 ≤ y / pw (m + 1) ∧ y / pw (m + 1) * 65536 ≤ 18446744073709551615 ∧ y / pw (m + 1) * 65536 + dg n m ≤ 18446744073709551615 := by omega
      obtain ⟨i3, i4, i5⟩ := i1
      obtain ⟨i6, i7, i8⟩ := i2
      obtain ⟨i9, i10⟩ := g1
      obtain ⟨i11, i12⟩ := g2
      clear s bx byy
      generalize x / pw (m + 1) = P at *
      generalize y / pw (m + 1) = R at *
      generalize dg n m = d1 at *
      generalize dg n (4 + m) = d2 at *
      go_wp2
      go_round
      case rel =>
        by_cases e : m = 0
        · subst e
          refine .inr ⟨by go_num, by rw [X'.out.2, X0.out], by rw [X'.out.1, Y0.out]⟩
        · refine .inl ⟨m - 1, by omega, by go_num, by rw [show m - 1 + 1 = m by omega, X'.out.2], by rw [show m - 1 + 1 = m by omega, X'.out.1]⟩
      case measure => simp [intOf]
    · go_wp2
      go_ret2
      exact ⟨ret_uu HX.out HY.out, (by repeat (with_reducible (first | exact Below.refl _ _ | assumption | refine bl_alloc ?_ _ | refine bl_drewN ?_ _ | refine bl_drew ?_ | refine bl_call ?_ (by assumption) | (refine bl_setCell ?_ _ (Nat.le_refl _)) | (refine bl_setCell ?_ _ (by simp)))))⟩
end Go.Proofs.Ytkejohmghacdhaa
