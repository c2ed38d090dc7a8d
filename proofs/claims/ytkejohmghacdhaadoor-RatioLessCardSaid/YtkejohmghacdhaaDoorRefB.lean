/- Contracts of the reference's chapter 1: Div, Mul. -/
import Derived.Test.YtkejohmghacdhaaDoorRefA
import Derived.Test.YtkejohmghacdhaaDoorMathV
namespace Go.Proofs.YtkejohmghacdhaaDoor
set_option linter.unusedVariables false
set_option linter.unusedSimpArgs false
open Go.RowKit
theorem keep2 {a b : Int} (h0 : b ≠ 0) (h : a.tmod b = 0 ∨ (a.tmod b < 0 ∧ b < 0) ∨ (0 ≤ a.tmod b ∧ 0 < b)) : a.fdiv b = a.tdiv b ∧ a.fmod b = a.tmod b := by
  obtain ⟨e, e1, e2, h3, h4⟩ := tmod_bd a b h0
  exact fdiv_of h0 _ _ e (by omega)
theorem step2 {a b : Int} (h0 : b ≠ 0) (h : (a.tmod b < 0 ∧ 0 < b) ∨ (0 < a.tmod b ∧ b < 0)) : a.fdiv b = a.tdiv b - 1 ∧ a.fmod b = a.tmod b + b := by
  obtain ⟨e, e1, e2, h3, h4⟩ := tmod_bd a b h0
  exact fdiv_of h0 _ _ (by rw [Int.mul_sub]; omega) (by omega)
theorem fmod_rng {a b : Int} (hb0 : -9223372036854775808 ≤ b) (hb1 : b ≤ 9223372036854775807) (h0 : b ≠ 0) : -9223372036854775808 ≤ a.fmod b ∧ a.fmod b ≤ 9223372036854775807 := by
  have := fmod_sign (a := a) h0
  omega
theorem ret_ov {a b : Int} (h : ¬ In (a * b)) : Ending.returned (.tuple #[.int .i64 0, .int .i64 2]) = .returned (.tuple #[.int .i64 (capN (a * b)), .int .i64 (errN (a * b))]) := ret_over h
theorem big_prod {a b : Int} (h : 18446744073709551616 ≤ absI a * absI b) : ¬ In (a * b) := by
  unfold absI at h
  rw [← Int.natCast_mul, ← Int.natAbs_mul] at h
  unfold In; omega
theorem sgn_prod {a b : Int} : sgn (decide (a < 0) != decide (b < 0)) (absI a * absI b) = a * b := by
  unfold absI
  rcases Int.lt_or_le a 0 with ha | ha <;> rcases Int.lt_or_le b 0 with hb | hb
  · rw [show (a.natAbs : Int) = -a by omega, show (b.natAbs : Int) = -b by omega]; simp [ha, hb, sgn, Int.neg_mul_neg]
  · rw [show (a.natAbs : Int) = -a by omega, show (b.natAbs : Int) = b by omega]; simp [ha, Int.not_lt.2 hb, sgn, Int.neg_mul]
  · rw [show (a.natAbs : Int) = a by omega, show (b.natAbs : Int) = -b by omega]; simp [Int.not_lt.2 ha, hb, sgn, Int.mul_neg]
  · rw [show (a.natAbs : Int) = a by omega, show (b.natAbs : Int) = b by omega]; simp [Int.not_lt.2 ha, Int.not_lt.2 hb, sgn]
theorem prod_halves (x y : Int) : x * y = x / 4294967296 * (y / 4294967296) * 18446744073709551616 + (x / 4294967296 * (y % 4294967296) + x % 4294967296 * (y / 4294967296)) * 4294967296 + x % 4294967296 * (y % 4294967296) := by
  have hx := Int.mul_ediv_add_emod x 4294967296
  have hy := Int.mul_ediv_add_emod y 4294967296
  generalize x / 4294967296 = a at *
  generalize x % 4294967296 = b at *
  generalize y / 4294967296 = c at *
  generalize y % 4294967296 = d at *
  subst hx hy
  rw [Int.add_mul, Int.mul_add, Int.mul_add]
  have e1 : 4294967296 * a * (4294967296 * c) = a * c * 18446744073709551616 := by
    rw [Int.mul_assoc, Int.mul_left_comm a 4294967296 c, ← Int.mul_assoc]; omega
  have e2 : 4294967296 * a * d = a * d * 4294967296 := by rw [Int.mul_assoc, Int.mul_comm]
  have e3 : b * (4294967296 * c) = b * c * 4294967296 := by rw [Int.mul_left_comm, Int.mul_comm]
  rw [e1, e2, e3, Int.add_mul]
  omega
theorem half_bd {a b : Int} (ha : 0 ≤ a) (ha1 : a ≤ 4294967295) (hb : 0 ≤ b) (hb1 : b ≤ 4294967295) : 0 ≤ a * b ∧ a * b ≤ 18446744065119617025 := by
  refine ⟨Int.mul_nonneg ha hb, ?_⟩
  have : a * b ≤ 4294967295 * 4294967295 := Int.mul_le_mul ha1 hb1 hb (by decide)
  omega
set_option maxRecDepth 100000 in
set_option maxHeartbeats 4000000 in
theorem r1mul (a b : Int) (w : World) (ha : In a) (hb : In b) :
    Calls Tryd.prog 66 #[.int .i64 a, .int .i64 b] w fun e w' => e = .returned (.tuple #[.int .i64 (capN (a * b)), .int .i64 (errN (a * b))]) ∧ w = w' := by
  have sa := fun w => r1size a w ha
  have sb := fun w => r1size b w hb
  have SA := Lib.hid sa
  have SB := Lib.hid sb
  have lx := absI_le ha
  have ly := absI_le hb
  have x0 := absI_nonneg a
  have y0 := absI_nonneg b
  have BP := Lib.hid (big_prod (a := a) (b := b))
  have SP := sgn_prod (a := a) (b := b)
  have PH := Lib.hid (prod_halves (absI a) (absI b))
  clear sa sb ha hb
  generalize hx : absI a = x at *
  generalize hy : absI b = y at *
  clear hx hy
  generalize hs : decide (a < 0) = s at *
  generalize ht : decide (b < 0) = t at *
  have m1 : bits .and .u64 x 4294967295 = x % 4294967296 := and_u64_low x ⟨x0, by omega⟩
  have m2 : bits .and .u64 y 4294967295 = y % 4294967296 := and_u64_low y ⟨y0, by omega⟩
  obtain ⟨H1, e1⟩ : ∃ H, x / 4294967296 = H := ⟨_, rfl⟩
  obtain ⟨L1, e2⟩ : ∃ H, x % 4294967296 = H := ⟨_, rfl⟩
  obtain ⟨H2, e3⟩ : ∃ H, y / 4294967296 = H := ⟨_, rfl⟩
  obtain ⟨L2, e4⟩ : ∃ H, y % 4294967296 = H := ⟨_, rfl⟩
  have PH := PH.out
  rw [e1, e2, e3, e4] at PH
  have h10 : 0 ≤ H1 ∧ H1 ≤ 2147483648 := by omega
  have h20 : 0 ≤ H2 ∧ H2 ≤ 2147483648 := by omega
  have l10 : 0 ≤ L1 ∧ L1 ≤ 4294967295 := by omega
  have l20 : 0 ≤ L2 ∧ L2 ≤ 4294967295 := by omega
  have bA := half_bd h10.1 (by omega) l20.1 l20.2
  have bB := half_bd l10.1 l10.2 h20.1 (by omega)
  have bD := half_bd l10.1 l10.2 l20.1 l20.2
  rw [e2] at m1
  rw [e4] at m2
  have SG := fun n w hn => r1signed n (s != t) w hn
  have SG := Lib.hid SG
  have w1 : IntKind.u64.wrap (H1 * L2) = H1 * L2 := by rw [IntKind.wrap_u64]; omega
  have w2 : IntKind.u64.wrap (L1 * H2) = L1 * H2 := by rw [IntKind.wrap_u64]; omega
  have w3 : IntKind.u64.wrap (L1 * L2) = L1 * L2 := by rw [IntKind.wrap_u64]; omega
  obtain ⟨a0, a1⟩ := bA
  obtain ⟨b0, b1⟩ := bB
  obtain ⟨d0, d1⟩ := bD
  obtain ⟨p1, p2⟩ := h10
  obtain ⟨p3, p4⟩ := h20
  by_cases hb : H1 ≠ 0 ∧ H2 ≠ 0
  · obtain ⟨n1, n2⟩ := hb
    have hp : 1 ≤ H1 * H2 := by
      have : 1 * 1 ≤ H1 * H2 := Int.mul_le_mul (by omega) (by omega) (by decide) (by omega)
      omega
    have OV := Lib.hid (BP.out (by rw [PH]; omega))
    have f1 : (H1 == 0) = false := by simpa using n1
    have f2 : (H2 == 0) = false := by simpa using n2
    clear PH SP BP hp n1 n2 l10 l20
    go_enter Tryd.func66, Tryd.ntmps66
    go_wp2_with fail
    refine (SA.out _).mono ?_
    rintro e5 w4 ⟨rfl, rfl⟩
    go_wp2_with fail
    refine (SB.out _).mono ?_
    rintro e5 w4 ⟨rfl, rfl⟩
    go_wp2
    go_ret2
    exact ⟨ret_ov OV.out, rfl⟩
  · have hz : H1 * H2 = 0 ∧ (H1 * L2 = 0 ∨ L1 * H2 = 0) := by
      by_cases z : H1 = 0
      · subst z; simp
      · have : H2 = 0 := Classical.byContradiction fun h => hb ⟨z, h⟩
        subst this; simp
    obtain ⟨z1, z2⟩ := hz
    have f1 : ((H1 != 0) && (H2 != 0)) = false := by
      rw [← Bool.not_eq_true]; intro h; simp at h; exact hb h
    have f2 : (H1 != 0) = false ∨ ((H1 != 0) = true ∧ (H2 != 0) = false) := by
      by_cases z : H1 = 0
      · exact .inl (by simpa using z)
      · exact .inr ⟨by simpa using z, by simp; exact Classical.byContradiction fun h => hb ⟨z, h⟩⟩
    have s0 : H1 * L2 + L1 * H2 ≤ 18446744065119617025 := by omega
    have s1 : 0 ≤ H1 * L2 + L1 * H2 := by omega
    have w4 : IntKind.u64.wrap (H1 * L2 + L1 * H2) = H1 * L2 + L1 * H2 := by rw [IntKind.wrap_u64]; omega
    rw [z1] at PH
    clear z1 z2 f1 hb l10 l20
    obtain ⟨S, eS⟩ : ∃ S, H1 * L2 + L1 * H2 = S := ⟨_, rfl⟩
    obtain ⟨D, eD⟩ : ∃ D, L1 * L2 = D := ⟨_, rfl⟩
    rw [eS, eD] at PH
    rw [eS] at s0 s1 w4
    rw [eD] at d0 d1 w3
    have PH := Lib.hid PH
    have PP := PH.out
    have C : (4294967296 ≤ S ∧ ¬ In (a * b)) ∨ (S < 4294967296 ∧ 18446744073709551616 ≤ S * 4294967296 + D ∧ ¬ In (a * b)) ∨ (S < 4294967296 ∧ S * 4294967296 + D < 18446744073709551616 ∧ S * 4294967296 + D = x * y) := by
      by_cases c1 : 4294967296 ≤ S
      · exact .inl ⟨c1, BP.out (by have := PP; have := d0; omega)⟩
      · by_cases c2 : 18446744073709551616 ≤ S * 4294967296 + D
        · exact .inr (.inl ⟨by omega, c2, BP.out (by have := PP; have := d0; omega)⟩)
        · exact .inr (.inr ⟨by omega, by omega, by have := PP; omega⟩)
    have SP := Lib.hid SP
    clear PP BP PH
    rcases C with ⟨c1, c2⟩ | ⟨c1, c3, c2⟩ | ⟨c1, c3, c2⟩ <;> rcases f2 with f2 | ⟨f2, f3⟩
    · have C2 := Lib.hid c2
      have g1 : (S / 4294967296 != 0) = true := by simp; omega
      clear c2
      go_enter Tryd.func66, Tryd.ntmps66
      go_wp2_with fail
      refine (SA.out _).mono ?_
      rintro e5 w4 ⟨rfl, rfl⟩
      go_wp2_with fail
      refine (SB.out _).mono ?_
      rintro e5 w4 ⟨rfl, rfl⟩
      go_wp2
      go_ret2
      exact ⟨ret_ov C2.out, rfl⟩
    · have C2 := Lib.hid c2
      have g1 : (S / 4294967296 != 0) = true := by simp; omega
      clear c2
      go_enter Tryd.func66, Tryd.ntmps66
      go_wp2_with fail
      refine (SA.out _).mono ?_
      rintro e5 w4 ⟨rfl, rfl⟩
      go_wp2_with fail
      refine (SB.out _).mono ?_
      rintro e5 w4 ⟨rfl, rfl⟩
      go_wp2
      go_ret2
      exact ⟨ret_ov C2.out, rfl⟩
    · have C2 := Lib.hid c2
      have g1 : (S / 4294967296 != 0) = false := by simp; omega
      have g2 : IntKind.u64.wrap (S * 4294967296) = S * 4294967296 := by rw [IntKind.wrap_u64]; omega
      have g3 : IntKind.u64.wrap (S * 4294967296 + D) = S * 4294967296 + D - 18446744073709551616 := by rw [IntKind.wrap_u64]; omega
      have g4 : S * 4294967296 + D - 18446744073709551616 < D := by omega
      clear c2 c3
      go_enter Tryd.func66, Tryd.ntmps66
      go_wp2_with fail
      refine (SA.out _).mono ?_
      rintro e5 w4 ⟨rfl, rfl⟩
      go_wp2_with fail
      refine (SB.out _).mono ?_
      rintro e5 w4 ⟨rfl, rfl⟩
      go_wp2
      go_ret2
      exact ⟨ret_ov C2.out, rfl⟩
    · have C2 := Lib.hid c2
      have g1 : (S / 4294967296 != 0) = false := by simp; omega
      have g2 : IntKind.u64.wrap (S * 4294967296) = S * 4294967296 := by rw [IntKind.wrap_u64]; omega
      have g3 : IntKind.u64.wrap (S * 4294967296 + D) = S * 4294967296 + D - 18446744073709551616 := by rw [IntKind.wrap_u64]; omega
      have g4 : S * 4294967296 + D - 18446744073709551616 < D := by omega
      clear c2 c3
      go_enter Tryd.func66, Tryd.ntmps66
      go_wp2_with fail
      refine (SA.out _).mono ?_
      rintro e5 w4 ⟨rfl, rfl⟩
      go_wp2_with fail
      refine (SB.out _).mono ?_
      rintro e5 w4 ⟨rfl, rfl⟩
      go_wp2
      go_ret2
      exact ⟨ret_ov C2.out, rfl⟩
    · have C2 := Lib.hid c2
      have g1 : (S / 4294967296 != 0) = false := by simp; omega
      have g2 : IntKind.u64.wrap (S * 4294967296) = S * 4294967296 := by rw [IntKind.wrap_u64]; omega
      have g3 : IntKind.u64.wrap (S * 4294967296 + D) = S * 4294967296 + D := by rw [IntKind.wrap_u64]; omega
      have g4 : ¬ S * 4294967296 + D < D := by omega
      have SG2 := Lib.hid (fun w => SG.out (S * 4294967296 + D) w ⟨by omega, by omega⟩)
      clear c2
      go_enter Tryd.func66, Tryd.ntmps66
      go_wp2_with fail
      refine (SA.out _).mono ?_
      rintro e5 w4 ⟨rfl, rfl⟩
      go_wp2_with fail
      refine (SB.out _).mono ?_
      rintro e5 w4 ⟨rfl, rfl⟩
      go_wp2_with fail
      refine (SG2.out _).mono ?_
      rintro e5 w4 ⟨rfl, rfl⟩
      go_wp2
      go_ret2
      exact ⟨ret_ii (by rw [C2.out, SP.out]) (by rw [C2.out, SP.out]), rfl⟩
    · have C2 := Lib.hid c2
      have g1 : (S / 4294967296 != 0) = false := by simp; omega
      have g2 : IntKind.u64.wrap (S * 4294967296) = S * 4294967296 := by rw [IntKind.wrap_u64]; omega
      have g3 : IntKind.u64.wrap (S * 4294967296 + D) = S * 4294967296 + D := by rw [IntKind.wrap_u64]; omega
      have g4 : ¬ S * 4294967296 + D < D := by omega
      have SG2 := Lib.hid (fun w => SG.out (S * 4294967296 + D) w ⟨by omega, by omega⟩)
      clear c2
      go_enter Tryd.func66, Tryd.ntmps66
      go_wp2_with fail
      refine (SA.out _).mono ?_
      rintro e5 w4 ⟨rfl, rfl⟩
      go_wp2_with fail
      refine (SB.out _).mono ?_
      rintro e5 w4 ⟨rfl, rfl⟩
      go_wp2_with fail
      refine (SG2.out _).mono ?_
      rintro e5 w4 ⟨rfl, rfl⟩
      go_wp2
      go_ret2
      exact ⟨ret_ii (by rw [C2.out, SP.out]) (by rw [C2.out, SP.out]), rfl⟩
end Go.Proofs.YtkejohmghacdhaaDoor
