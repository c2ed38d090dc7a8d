/- The library's division of two words by one: the walk. -/
import Derived.Test.YtkejohmghacdhaaDoorDivA
namespace Go.Proofs.YtkejohmghacdhaaDoor
set_option linter.unusedVariables false
set_option linter.unusedSimpArgs false
open Go.RowKit
/-- what a round of a digit's loop comes to -/
theorem dig_ways {u d Y y1 y0 Q R : Int} (h : Dig u d Y y1 y0) (e : Q * y1 + R = u) (hQ : digQ u d Y ≤ Q) (h0 : 0 ≤ Q) (h1 : Q ≤ 4294967297) (r0 : 0 ≤ R) (r1 : R < 4294967296) :
    (4294967296 ≤ Q ∧ R + y1 < 4294967296 ∧ digQ u d Y ≤ Q - 1 ∧ 0 ≤ Q - 1 ∧ (Q - 1) * y1 + (R + y1) = u) ∨
    (Q < 4294967296 ∧ 4294967296 * R + d < Q * y0 ∧ R + y1 < 4294967296 ∧ digQ u d Y ≤ Q - 1 ∧ 0 ≤ Q - 1 ∧ (Q - 1) * y1 + (R + y1) = u) ∨
    (4294967296 ≤ Q ∧ 4294967296 ≤ R + y1 ∧ Q - 1 = digQ u d Y ∧ 0 ≤ Q - 1) ∨
    (Q < 4294967296 ∧ 4294967296 * R + d < Q * y0 ∧ 4294967296 ≤ R + y1 ∧ Q - 1 = digQ u d Y ∧ 0 ≤ Q - 1) ∨
    (Q < 4294967296 ∧ Q * y0 ≤ 4294967296 * R + d ∧ Q = digQ u d Y) := by
  have l := h.qlt
  have e2 : (Q - 1) * y1 + (R + y1) = u := by rw [Int.sub_mul, Int.one_mul]; omega
  by_cases cB : 4294967296 ≤ Q
  · have st := h.step e (.inl cB) hQ
    by_cases cD : 4294967296 ≤ R + y1
    · exact .inr (.inr (.inl ⟨cB, cD, h.done e2 (h.brk e2 (by omega) (by omega) cD) st, by omega⟩))
    · exact .inl ⟨cB, by omega, st, by omega, e2⟩
  · by_cases cC : 4294967296 * R + d < Q * y0
    · have st := h.step e (.inr cC) hQ
      by_cases cD : 4294967296 ≤ R + y1
      · exact .inr (.inr (.inr (.inl ⟨by omega, cC, cD, h.done e2 (h.brk e2 (by omega) (by omega) cD) st, by omega⟩)))
      · exact .inr (.inl ⟨by omega, cC, by omega, st, by omega, e2⟩)
    · exact .inr (.inr (.inr (.inr ⟨by omega, by omega, h.done e (by omega) hQ⟩)))
theorem ret_uu' {a b c d : Int} (h1 : a = c) (h2 : b = d) : Ending.returned (.tuple #[.int .u64 a, .int .u64 b]) = .returned (.tuple #[.int .u64 c, .int .u64 d]) := by rw [h1, h2]
set_option maxRecDepth 100000 in
set_option maxHeartbeats 4000000 in
theorem div64_any (hi lo y : Int) (w : World) (h0 : 0 ≤ hi) (h1 : hi < y) (hy : y ≤ 18446744073709551615) (hl : InU lo) :
    Calls Tryd.prog 79 #[.int .u64 hi, .int .u64 lo, .int .u64 y] w fun e w' => e = .returned (.tuple #[.int .u64 ((hi * 18446744073709551616 + lo) / y), .int .u64 ((hi * 18446744073709551616 + lo) % y)]) ∧ Below w.heap.size w w' := by
  unfold InU at hl
  by_cases hz : hi = 0
  · subst hz
    have hyz : (y == 0) = false := by simp; omega
    go_enter Tryd.func79, Tryd.ntmps79
    go_wp2_with fail
    go_quiet (fail)
    go_wp2
    go_ret2
    exact ⟨ret_uu (by rw [Int.zero_mul, Int.zero_add]) (by rw [Int.zero_mul, Int.zero_add]), (by repeat (with_reducible (first | exact Below.refl _ _ | assumption | refine bl_alloc ?_ _ | refine bl_drewN ?_ _ | refine bl_drew ?_ | refine bl_call ?_ (by assumption) | (refine bl_setCell ?_ _ (Nat.le_refl _)) | (refine bl_setCell ?_ _ (by simp)))))⟩
  have hz' : (hi == 0) = false := by simpa using hz
  have hyz : (y == 0) = false := by simp; omega
  obtain ⟨s, s1, s2, s3, s4⟩ := shift_up y (by omega) hy
  obtain ⟨u, u1, u2, u3, u4⟩ := shifted_words hi lo y s s1 h0 h1 (by omega) s4
  have LZ := Tryd.bits_LeadingZeros64 y
  rw [s2] at LZ
  have LZ := Lib.hid LZ
  clear s2
  have es : (64 - (s : Int)).toNat = 64 - s := by omega
  rw [es] at u1
  clear es
  have hS : (0 : Int) < 2 ^ s := Int.pow_pos (by decide)
  have vb : InU (IntKind.u64.wrap (lo * 2 ^ s)) := InU_wrap _
  obtain ⟨v, hv⟩ : ∃ v, IntKind.u64.wrap (lo * 2 ^ s) = v := ⟨_, rfl⟩
  obtain ⟨Y, hY⟩ : ∃ Y, y * 2 ^ s = Y := ⟨_, rfl⟩
  rw [hv] at u4 vb
  rw [hY] at s3 s4 u3
  have a1 := and_u64_low v vb
  have a2 := and_u64_low Y (by unfold InU; omega)
  unfold InU at vb
  have D1 : Dig u (v / 4294967296) Y (Y / 4294967296) (Y % 4294967296) := ⟨by omega, by omega, by omega, ⟨u2, u3⟩, by omega⟩
  have D2 : Dig (digR u (v / 4294967296) Y) (v % 4294967296) Y (Y / 4294967296) (Y % 4294967296) := ⟨by omega, by omega, by omega, D1.rem.2, by omega⟩
  have W1 := wrap_digR D1 s4
  have W2 := wrap_digR D2 s4
  have FIN := div64_all hi lo y (2 ^ s) hS h0 h1 (by omega) u (v / 4294967296) (v % 4294967296) Y hY.symm (by omega) (by omega) (by omega) (by omega)
  have S2 := D2.start
  have S1 := D1.start
  have ql1 := D1.qlt
  have ql2 := D2.qlt
  have rl1 := D1.rem.2
  have hyb : 0 ≤ (hi * 18446744073709551616 + lo) % y := Int.emod_nonneg _ (by omega)
  have hyl : (hi * 18446744073709551616 + lo) % y < y := Int.emod_lt_of_pos _ (by omega)
  have shr : (hi * 18446744073709551616 + lo) % y * 2 ^ s / 2 ^ s = (hi * 18446744073709551616 + lo) % y := Int.mul_ediv_cancel _ (by omega)
  have DH1 := Lib.hid D1
  have DH2 := Lib.hid D2
  have FH := Lib.hid FIN
  have SH := Lib.hid shr
  clear D1 D2 FIN shr
  generalize hA : v / 4294967296 = a at *
  generalize hB : v % 4294967296 = b at *
  generalize hy1 : Y / 4294967296 = y1 at *
  generalize hy0 : Y % 4294967296 = y0 at *
  generalize hR1 : digR u a Y = R1 at *
  generalize hR2 : digR R1 b Y = R2 at *
  generalize hN : (hi * 18446744073709551616 + lo) / y = Nq at *
  generalize hM : (hi * 18446744073709551616 + lo) % y = Nr at *
  obtain ⟨p1, p2, p3, p4, p5, p6, p7, p8, p9⟩ := S1
  have P4 := Lib.hid p4
  have y1b : 2147483648 ≤ y1 ∧ y1 < 4294967296 := DH1.out.hi
  have y0b : 0 ≤ y0 ∧ y0 < 4294967296 := DH1.out.lo
  have ab : 0 ≤ a ∧ a < 4294967296 := DH1.out.d
  have bb : 0 ≤ b ∧ b < 4294967296 := DH2.out.d
  have WH1 := Lib.hid W1
  have WH2 := Lib.hid W2
  have UH := Lib.hid u4
  have HN := Lib.hid hN
  have HM := Lib.hid hM
  clear p4 W1 W2 u4 hB hy0 hR1 hR2 hN hM
  go_enter Tryd.func79, Tryd.ntmps79
  go_wp2_with fail
  refine (LZ.out w (by omega) hy).mono ?_
  rintro e w1 ⟨rfl, rfl⟩
  go_wp2_with fail
  go_loop [15, 16] (fun q r => ∃ Q R : Int, 0 ≤ Q ∧ Q ≤ 4294967297 ∧ 0 ≤ R ∧ R < 4294967296 ∧ Hid (Q * y1 + R = u) ∧ digQ u a Y ≤ Q ∧ q = .int .u64 Q ∧ r = .int .u64 R) (fun q _ => (intOf q).toNat)
  case atStart => exact ⟨u / y1, u % y1, p2, p3, p5, p6, P4, p1, rfl, rfl⟩
  case round =>
    obtain ⟨Q, R, q0, q1, r0, r1, HE, hQ, rfl, rfl⟩ := hrel
    obtain ⟨m0, m1⟩ := Dig.low q0 q1 y0b
    clear p1 p2 p3 p5 p6 p7 p8 p9 P4
    rcases dig_ways DH1.out HE.out hQ q0 q1 r0 r1 with ⟨c1, c2, c3, c4, c5⟩ | ⟨c1, c2, c3, c4, c5, c6⟩ | ⟨c1, c2, c3, c4⟩ | ⟨c1, c2, c3, c4, c5⟩ | ⟨c1, c2, c3⟩
    · have C5 := Lib.hid c5
      clear c5
      go_wp2
      go_round
      case rel => exact ⟨Q - 1, R + y1, c4, by omega, by omega, c2, C5, c3, rfl, rfl⟩
      case measure => simp [intOf]; omega
    · have C5 := Lib.hid c6
      clear c6
      go_wp2
      go_round
      case rel => exact ⟨Q - 1, R + y1, c5, by omega, by omega, c3, C5, c4, rfl, rfl⟩
      case measure => simp [intOf]; omega
    case' inr.inr.inl =>
      obtain ⟨q, hq⟩ : ∃ q, Q - 1 = q := ⟨_, rfl⟩
      rw [hq] at c3 c4
    case' inr.inr.inr.inl =>
      obtain ⟨q, hq⟩ : ∃ q, Q - 1 = q := ⟨_, rfl⟩
      rw [hq] at c4 c5
      have c6 := c3
      replace c3 := c4
      clear c4
    case' inr.inr.inr.inr =>
      obtain ⟨q, hq⟩ : ∃ q, q = Q := ⟨_, rfl⟩
      subst hq
    all_goals
      have DG := Lib.hid c3
      clear c3
      clear hQ HE
      have w1' : IntKind.u64.wrap (IntKind.u64.wrap (IntKind.u64.wrap (u * 4294967296) + a) - IntKind.u64.wrap (q * Y)) = R1 := by rw [DG.out]; exact WH1.out
      obtain ⟨p1, p2, p3, p4, p5, p6, p7, p8, p9⟩ := S2
      have P4 := Lib.hid p4
      clear p4
      go_wp2_with fail
      go_loop [18, 16] (fun t r => ∃ T R : Int, 0 ≤ T ∧ T ≤ 4294967297 ∧ 0 ≤ R ∧ R < 4294967296 ∧ Hid (T * y1 + R = R1) ∧ digQ R1 b Y ≤ T ∧ t = .int .u64 T ∧ r = .int .u64 R) (fun t _ => (intOf t).toNat)
      case atStart => exact ⟨R1 / y1, R1 % y1, p2, p3, p5, p6, P4, p1, rfl, rfl⟩
      case round =>
        clear w1'
        obtain ⟨T, R, t0, t1, r0, r1, HE, hT, rfl, rfl⟩ := hrel
        obtain ⟨m0, m1⟩ := Dig.low t0 t1 y0b
        clear p1 p2 p3 p5 p6 p7 p8 p9 P4
        rcases dig_ways DH2.out HE.out hT t0 t1 r0 r1 with ⟨c1, c2, c3, c4, c5⟩ | ⟨c1, c2, c3, c4, c5, c6⟩ | ⟨c1, c2, c3, c4⟩ | ⟨c1, c2, c3, c4, c5⟩ | ⟨c1, c2, c3⟩
        · have C5 := Lib.hid c5
          clear c5
          go_wp2
          go_round
          case rel => exact ⟨T - 1, R + y1, c4, by omega, by omega, c2, C5, c3, rfl, rfl⟩
          case measure => simp [intOf]; omega
        · have C5 := Lib.hid c6
          clear c6
          go_wp2
          go_round
          case rel => exact ⟨T - 1, R + y1, c5, by omega, by omega, c3, C5, c4, rfl, rfl⟩
          case measure => simp [intOf]; omega
        case' inr.inr.inl =>
          obtain ⟨t, ht⟩ : ∃ t, T - 1 = t := ⟨_, rfl⟩
          rw [ht] at c3 c4
        case' inr.inr.inr.inl =>
          obtain ⟨t, ht⟩ : ∃ t, T - 1 = t := ⟨_, rfl⟩
          rw [ht] at c4 c5
          have c6 := c3
          replace c3 := c4
          clear c4
        case' inr.inr.inr.inr =>
          obtain ⟨t, ht⟩ : ∃ t, t = T := ⟨_, rfl⟩
          subst ht
        all_goals
          have DT := Lib.hid c3
          clear c3
          clear hT HE
          have w2' : IntKind.u64.wrap (IntKind.u64.wrap (IntKind.u64.wrap (R1 * 4294967296) + b) - IntKind.u64.wrap (t * Y)) = R2 := by rw [DT.out]; exact WH2.out
          have r2e : R2 / 2 ^ s = Nr := by rw [FH.out.2]; exact SH.out
          have q2e : q * 4294967296 + t = Nq := by rw [DG.out, DT.out]; exact FH.out.1
          have tb : 0 ≤ t ∧ t < 4294967296 := by rw [DT.out]; exact ql2
          have qb : 0 ≤ q ∧ q < 4294967296 := by rw [DG.out]; exact ql1
          go_wp2
          go_ret2
          exact ⟨ret_uu (by first | rfl | omega | rw [HN.out]) (by first | rfl | omega | rw [HM.out]), (by repeat (with_reducible (first | exact Below.refl _ _ | assumption | refine bl_alloc ?_ _ | refine bl_drewN ?_ _ | refine bl_drew ?_ | refine bl_call ?_ (by assumption) | (refine bl_setCell ?_ _ (Nat.le_refl _)) | (refine bl_setCell ?_ _ (by simp)))))⟩
end Go.Proofs.YtkejohmghacdhaaDoor
