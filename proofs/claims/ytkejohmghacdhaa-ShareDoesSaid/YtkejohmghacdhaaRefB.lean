/- Contracts of the reference's chapter 1: Div, Mul. -/
import Derived.Test.YtkejohmghacdhaaRefA
import Derived.Test.YtkejohmghacdhaaMathV
namespace Go.Proofs.Ytkejohmghacdhaa
set_option linter.unusedVariables false
set_option linter.unusedSimpArgs false
open Go.RowKit
theorem keep2 {a b : Int} (h0 : b ≠ 0) (h : a.tmod b = 0 ∨ (a.tmod b < 0 ∧ b < 0) ∨ (0 ≤ a.tmod b ∧ 0 < b)) : a.fdiv b = a.tdiv b ∧ a.fmod b = a.tmod b := by
  obtain ⟨e, e1, e2, h3, h4⟩ := tmod_bd a b h0
  exact fdiv_of h0 _ _ e (by omega)
theorem step2 {a b : Int} (h0 : b ≠ 0) (h : (a.tmod b < 0 ∧ 0 < b) ∨ (0 < a.tmod b ∧ b < 0)) : a.fdiv b = a.tdiv b - 1 ∧ a.fmod b = a.tmod b + b := by
  obtain ⟨e, e1, e2, h3, h4⟩ := tmod_bd a b h0
  exact fdiv_of h0 _ _ (by rw [Int.mul_sub]; omega) (by omega)
theorem fmod_rng {a b : Int} (hb0 : -9223372036854775808 ≤ b) (hb1 : b ≤ 9223372036854775807) (h0 : b ≠ 0) : -9223372036854775808 ≤ a.fmod b ∧ a.fmod b ≤ 9223372036854775807 := by
  have := fmod_sign (a := a) h0
  omega
set_option maxHeartbeats 2000000 in
theorem r1div (a b : Int) (w : World) (ha : In a) (hb : In b) :
    Calls Try.prog 47 #[.int .i64 a, .int .i64 b] w fun e w' => e = .returned (.tuple #[.int .i64 (dvQ a b), .int .i64 (dvR a b), .int .i64 (dvE a b)]) ∧ Below w.heap.size w w' := by
  by_cases h0 : b = 0
  · subst h0
    go_enter Try.func47, Try.ntmps47
    go_wp2
    go_ret3
    exact ⟨rfl, Below.refl _ _⟩
  have h0' : (b == 0) = false := by simpa using h0
  by_cases hl : a = -9223372036854775808 ∧ b = -1
  · obtain ⟨rfl, rfl⟩ := hl
    have D : dvQ (-9223372036854775808) (-1) = 0 ∧ dvR (-9223372036854775808) (-1) = 0 ∧ dvE (-9223372036854775808) (-1) = 2 := by decide
    have D := Lib.hid D
    go_enter Try.func47, Try.ntmps47
    go_wp2
    go_ret3
    exact ⟨ret_iii D.out.1.symm D.out.2.1.symm D.out.2.2.symm, Below.refl _ _⟩
  have hq : In (a.tdiv b) := by
    by_cases h1 : b = -1
    · subst h1; rw [Int.tdiv_neg, Int.tdiv_one]; unfold In at *; omega
    · exact tdiv_range ha h0 h1
  have hr : In (a.tmod b) := tmod_range hb h0
  have hf : In (a.fdiv b) := by
    by_cases h1 : b = -1
    · subst h1; rw [(fdiv_neg_one a).1]; unfold In at *; omega
    · exact fdiv_range ha hb h0 h1
  obtain ⟨e, e1, e2, h3, h4⟩ := tmod_bd a b h0
  have W := wrap64_of hq
  have DV := Lib.hid (dv_of h0 ⟨rfl, rfl⟩ hf)
  have hl1 : ((a == -9223372036854775808) && (b == -1)) = false := by
    rw [← Bool.not_eq_true]; intro h; simp at h; exact hl h
  have hl2 : (a == -9223372036854775808) = false ∨ ((a == -9223372036854775808) = true ∧ (b == -1) = false) := by
    by_cases h : a = -9223372036854775808
    · exact .inr ⟨by simpa using h, by simp; intro h'; exact hl ⟨h, h'⟩⟩
    · exact .inl (by simpa using h)
  have hf2 := hf
  have hin := hr
  unfold In at hq hr hf2 hb
  clear e e1 e2
  have C : (a.tmod b = 0 ∧ a.fdiv b = a.tdiv b ∧ a.fmod b = a.tmod b) ∨ (a.tmod b < 0 ∧ b < 0 ∧ a.fdiv b = a.tdiv b ∧ a.fmod b = a.tmod b) ∨ (0 < a.tmod b ∧ 0 < b ∧ a.fdiv b = a.tdiv b ∧ a.fmod b = a.tmod b) ∨
      (a.tmod b < 0 ∧ 0 < b ∧ a.fdiv b = a.tdiv b - 1 ∧ a.fmod b = a.tmod b + b) ∨ (0 < a.tmod b ∧ b < 0 ∧ a.fdiv b = a.tdiv b - 1 ∧ a.fmod b = a.tmod b + b) := by
    by_cases z : a.tmod b = 0
    · exact .inl ⟨z, keep2 h0 (.inl z)⟩
    · by_cases n : a.tmod b < 0 <;> by_cases m : b < 0
      · exact .inr (.inl ⟨n, m, keep2 h0 (.inr (.inl ⟨n, m⟩))⟩)
      · exact .inr (.inr (.inr (.inl ⟨n, by omega, step2 h0 (.inl ⟨n, by omega⟩)⟩)))
      · exact .inr (.inr (.inr (.inr ⟨by omega, m, step2 h0 (.inr ⟨by omega, m⟩)⟩)))
      · exact .inr (.inr (.inl ⟨by omega, by omega, keep2 h0 (.inr (.inr ⟨by omega, by omega⟩))⟩))
  have h00 := h0
  clear hl hl1 h3 h4 hf ha hin h0
  have W2 : IntKind.i64.wrap (a.tdiv b) = a.tdiv b := by
    have := IntWalk.i64_in (a.tdiv b) hq
    exact this
  obtain ⟨hq0, hq1⟩ := hq
  obtain ⟨hr0, hr1⟩ := hr
  obtain ⟨hb0, hb1⟩ := hb
  have C : (((a.tmod b == 0) = true ∧ True) ∧ a.fdiv b = a.tdiv b ∧ a.fmod b = a.tmod b) ∨ (((a.tmod b == 0) = false ∧ decide (a.tmod b < 0) = true ∧ decide (b < 0) = true) ∧ a.fdiv b = a.tdiv b ∧ a.fmod b = a.tmod b) ∨
      (((a.tmod b == 0) = false ∧ decide (a.tmod b < 0) = false ∧ decide (b < 0) = false) ∧ a.fdiv b = a.tdiv b ∧ a.fmod b = a.tmod b) ∨
      (((a.tmod b == 0) = false ∧ decide (a.tmod b < 0) = true ∧ decide (b < 0) = false) ∧ a.fdiv b = a.tdiv b - 1 ∧ a.fmod b = a.tmod b + b) ∨ (((a.tmod b == 0) = false ∧ decide (a.tmod b < 0) = false ∧ decide (b < 0) = true) ∧ a.fdiv b = a.tdiv b - 1 ∧ a.fmod b = a.tmod b + b) := by
    rcases C with ⟨c1, c2, c3⟩ | ⟨c1, c4, c2, c3⟩ | ⟨c1, c4, c2, c3⟩ | ⟨c1, c4, c2, c3⟩ | ⟨c1, c4, c2, c3⟩
    · exact .inl ⟨⟨by simpa using c1, trivial⟩, c2, c3⟩
    · exact .inr (.inl ⟨⟨by simp; omega, by simpa using c1, by simpa using c4⟩, c2, c3⟩)
    · exact .inr (.inr (.inl ⟨⟨by simp; omega, by simp; omega, by simp; omega⟩, c2, c3⟩))
    · exact .inr (.inr (.inr (.inl ⟨⟨by simp; omega, by simpa using c1, by simp; omega⟩, c2, c3⟩)))
    · exact .inr (.inr (.inr (.inr ⟨⟨by simp; omega, by simp; omega, by simpa using c4⟩, c2, c3⟩)))
  have RB := Lib.hid (fmod_rng (a := a) (b := b) hb0 hb1 h00)
  rcases C with ⟨⟨f1, f2⟩, c2, c3⟩ | ⟨⟨f1, f2, f3⟩, c2, c3⟩ | ⟨⟨f1, f2, f3⟩, c2, c3⟩ | ⟨⟨f1, f2, f3⟩, c2, c3⟩ | ⟨⟨f1, f2, f3⟩, c2, c3⟩
  all_goals
    have RB := RB.out
    rw [c2] at hf2
    rw [c3] at RB
    obtain ⟨hf20, hf21⟩ := hf2
    obtain ⟨rb0, rb1⟩ := RB
    have C2 := Lib.hid c2
    have C3 := Lib.hid c3
    clear c2 c3
  case' inl =>
    have fz : a.tmod b = 0 := by simpa using f1
    have FZ := Lib.hid fz
    clear fz
  case' inr.inl | inr.inr.inl | inr.inr.inr.inl | inr.inr.inr.inr =>
    have fz : ¬ a.tmod b = 0 := by simpa using f1
  all_goals rcases hl2 with hl2 | ⟨hl2, hl3⟩
  all_goals
    go_enter Try.func47, Try.ntmps47
    go_wp2_with fail
    go_quiet (fail)
    go_wp2
  all_goals
    go_ret3
  all_goals
    first
    | (have h : ¬ a.tmod b = 0 := by assumption
       have := FZ.out
       exact absurd this h)
    | (have h : a.tmod b = 0 := by assumption
       refine ⟨ret_iii ?_ ?_ DV.out.2.2.symm, (by repeat (with_reducible (first | exact Below.refl _ _ | assumption | refine bl_alloc ?_ _ | refine bl_drewN ?_ _ | refine bl_drew ?_ | refine bl_call ?_ (by assumption) | (refine bl_setCell ?_ _ (Nat.le_refl _)) | (refine bl_setCell ?_ _ (by simp)))))⟩
       · rw [DV.out.1, C2.out]
       · rw [DV.out.2.1, C3.out, h])
    | (refine ⟨ret_iii ?_ ?_ DV.out.2.2.symm, (by repeat (with_reducible (first | exact Below.refl _ _ | assumption | refine bl_alloc ?_ _ | refine bl_drewN ?_ _ | refine bl_drew ?_ | refine bl_call ?_ (by assumption) | (refine bl_setCell ?_ _ (Nat.le_refl _)) | (refine bl_setCell ?_ _ (by simp)))))⟩
       · rw [DV.out.1, C2.out]
       · rw [DV.out.2.1, C3.out])
theorem ret_ov {a b : Int} (h : ¬ In (a * b)) : Ending.returned (.tuple #[.int .i64 0, .int .i64 2]) = .returned (.tuple #[.int .i64 (capN (a * b)), .int .i64 (errN (a * b))]) := ret_over h
theorem big_prod {a b : Int} (h : 18446744073709551616 ≤ absI a * absI b) : ¬ In (a * b) := by
  unfold absI at h
  rw [← Int.natCast_mul, ← Int.natAbs_mul] at h
  unfold In; omega
theorem sgn_prod {a b : Int} : sgn (decide (a < 0) != decide (b < 0)) (absI a * absI b) = a * b := by
  unfold absI
  rcases Int.lt_or_le a 0 with ha | ha <;> rcases Int.lt_or_le b 0 with hb | hb
  · rw [show (a.natAbs : Int) = -a by omega, show (b.natAbs : Int) = -b by omega]; simp [ha, hb, sgn, Int.neg_mul_neg]
  · rw [show (a.natAbs : Int) = -a by omega, show (b.natAbs : Int) = b by omega]; simp [ha, Int.not_lt.2 hb, sgn, Int.neg_mul]
  · rw [show (a.natAbs : Int) = a by omega, show (b.natAbs : Int) = -b by omega]; simp [Int.not_lt.2 ha, hb, sgn, Int.mul_neg]
  · rw [show (a.natAbs : Int) = a by omega, show (b.natAbs : Int) = b by omega]; simp [Int.not_lt.2 ha, Int.not_lt.2 hb, sgn]
theorem prod_halves (x y : Int) : x * y = x / 4294967296 * (y / 4294967296) * 18446744073709551616 + (x / 4294967296 * (y % 4294967296) + x % 4294967296 * (y / 4294967296)) * 4294967296 + x % 4294967296 * (y % 4294967296) := by
  have hx := Int.mul_ediv_add_emod x 4294967296
  have hy := Int.mul_ediv_add_emod y 4294967296
  generalize x / 4294967296 = a at *
  generalize x % 4294967296 = b at *
  generalize y / 4294967296 = c at *
  generalize y % 4294967296 = d at *
  subst hx hy
  rw [Int.add_mul, Int.mul_add, Int.mul_add]
  have e1 : 4294967296 * a * (4294967296 * c) = a * c * 18446744073709551616 := by
    rw [Int.mul_assoc, Int.mul_left_comm a 4294967296 c, ← Int.mul_assoc]; omega
  have e2 : 4294967296 * a * d = a * d * 4294967296 := by rw [Int.mul_assoc, Int.mul_comm]
  have e3 : b * (4294967296 * c) = b * c * 4294967296 := by rw [Int.mul_left_comm, Int.mul_comm]
  rw [e1, e2, e3, Int.add_mul]
  omega
theorem half_bd {a b : Int} (ha : 0 ≤ a) (ha1 : a ≤ 4294967295) (hb : 0 ≤ b) (hb1 : b ≤ 4294967295) : 0 ≤ a * b ∧ a * b ≤ 18446744065119617025 := by
  refine ⟨Int.mul_nonneg ha hb, ?_⟩
  have : a * b ≤ 4294967295 * 4294967295 := Int.mul_le_mul ha1 hb1 hb (by decide)
  omega
set_option maxRecDepth 100000 in
set_option maxHeartbeats 4000000 in
theorem r1mul (a b : Int) (w : World) (ha : In a) (hb : In b) :
    Calls Try.prog 89 #[.int .i64 a, .int .i64 b] w fun e w' => e = .returned (.tuple #[.int .i64 (capN (a * b)), .int .i64 (errN (a * b))]) ∧ w = w' := by
  have sa := fun w => r1size a w ha
  have sb := fun w => r1size b w hb
  have SA := Lib.hid sa
  have SB := Lib.hid sb
  have lx := absI_le ha
  have ly := absI_le hb
  have x0 := absI_nonneg a
  have y0 := absI_nonneg b
  have BP := Lib.hid (big_prod (a := a) (b := b))
  have SP := sgn_prod (a := a) (b := b)
  have PH := Lib.hid (prod_halves (absI a) (absI b))
  clear sa sb ha hb
  generalize hx : absI a = x at *
  generalize hy : absI b = y at *
  clear hx hy
  generalize hs : decide (a < 0) = s at *
  generalize ht : decide (b < 0) = t at *
  have m1 : bits .and .u64 x 4294967295 = x % 4294967296 := and_u64_low x ⟨x0, by omega⟩
  have m2 : bits .and .u64 y 4294967295 = y % 4294967296 := and_u64_low y ⟨y0, by omega⟩
  obtain ⟨H1, e1⟩ : ∃ H, x / 4294967296 = H := ⟨_, rfl⟩
  obtain ⟨L1, e2⟩ : ∃ H, x % 4294967296 = H := ⟨_, rfl⟩
  obtain ⟨H2, e3⟩ : ∃ H, y / 4294967296 = H := ⟨_, rfl⟩
  obtain ⟨L2, e4⟩ : ∃ H, y % 4294967296 = H := ⟨_, rfl⟩
  have PH := PH.out
  rw [e1, e2, e3, e4] at PH
  have h10 : 0 ≤ H1 ∧ H1 ≤ 2147483648 := by omega
  have h20 : 0 ≤ H2 ∧ H2 ≤ 2147483648 := by omega
  have l10 : 0 ≤ L1 ∧ L1 ≤ 4294967295 := by omega
  have l20 : 0 ≤ L2 ∧ L2 ≤ 4294967295 := by omega
  have bA := half_bd h10.1 (by omega) l20.1 l20.2
  have bB := half_bd l10.1 l10.2 h20.1 (by omega)
  have bD := half_bd l10.1 l10.2 l20.1 l20.2
  rw [e2] at m1
  rw [e4] at m2
  have SG := fun n w hn => r1signed n (s != t) w hn
  have SG := Lib.hid SG
  have w1 : IntKind.u64.wrap (H1 * L2) = H1 * L2 := by rw [IntKind.wrap_u64]; omega
  have w2 : IntKind.u64.wrap (L1 * H2) = L1 * H2 := by rw [IntKind.wrap_u64]; omega
  have w3 : IntKind.u64.wrap (L1 * L2) = L1 * L2 := by rw [IntKind.wrap_u64]; omega
  obtain ⟨a0, a1⟩ := bA
  obtain ⟨b0, b1⟩ := bB
  obtain ⟨d0, d1⟩ := bD
  obtain ⟨p1, p2⟩ := h10
  obtain ⟨p3, p4⟩ := h20
  by_cases hb : H1 ≠ 0 ∧ H2 ≠ 0
  · obtain ⟨n1, n2⟩ := hb
    have hp : 1 ≤ H1 * H2 := by
      have : 1 * 1 ≤ H1 * H2 := Int.mul_le_mul (by omega) (by omega) (by decide) (by omega)
      omega
    have OV := Lib.hid (BP.out (by rw [PH]; omega))
    have f1 : (H1 == 0) = false := by simpa using n1
    have f2 : (H2 == 0) = false := by simpa using n2
    clear PH SP BP hp n1 n2 l10 l20
    go_enter Try.func89, Try.ntmps89
    go_wp2_with fail
    refine (SA.out _).mono ?_
    rintro e5 w4 ⟨rfl, rfl⟩
    go_wp2_with fail
    refine (SB.out _).mono ?_
    rintro e5 w4 ⟨rfl, rfl⟩
    go_wp2
    go_ret2
    exact ⟨ret_ov OV.out, rfl⟩
  · have hz : H1 * H2 = 0 ∧ (H1 * L2 = 0 ∨ L1 * H2 = 0) := by
      by_cases z : H1 = 0
      · subst z; simp
      · have : H2 = 0 := Classical.byContradiction fun h => hb ⟨z, h⟩
        subst this; simp
    obtain ⟨z1, z2⟩ := hz
    have f1 : ((H1 != 0) && (H2 != 0)) = false := by
      rw [← Bool.not_eq_true]; intro h; simp at h; exact hb h
    have f2 : (H1 != 0) = false ∨ ((H1 != 0) = true ∧ (H2 != 0) = false) := by
      by_cases z : H1 = 0
      · exact .inl (by simpa using z)
      · exact .inr ⟨by simpa using z, by simp; exact Classical.byContradiction fun h => hb ⟨z, h⟩⟩
    have s0 : H1 * L2 + L1 * H2 ≤ 18446744065119617025 := by omega
    have s1 : 0 ≤ H1 * L2 + L1 * H2 := by omega
    have w4 : IntKind.u64.wrap (H1 * L2 + L1 * H2) = H1 * L2 + L1 * H2 := by rw [IntKind.wrap_u64]; omega
    rw [z1] at PH
    clear z1 z2 f1 hb l10 l20
    obtain ⟨S, eS⟩ : ∃ S, H1 * L2 + L1 * H2 = S := ⟨_, rfl⟩
    obtain ⟨D, eD⟩ : ∃ D, L1 * L2 = D := ⟨_, rfl⟩
    rw [eS, eD] at PH
    rw [eS] at s0 s1 w4
    rw [eD] at d0 d1 w3
    have PH := Lib.hid PH
    have PP := PH.out
    have C : (4294967296 ≤ S ∧ ¬ In (a * b)) ∨ (S < 4294967296 ∧ 18446744073709551616 ≤ S * 4294967296 + D ∧ ¬ In (a * b)) ∨ (S < 4294967296 ∧ S * 4294967296 + D < 18446744073709551616 ∧ S * 4294967296 + D = x * y) := by
      by_cases c1 : 4294967296 ≤ S
      · exact .inl ⟨c1, BP.out (by have := PP; have := d0; omega)⟩
      · by_cases c2 : 18446744073709551616 ≤ S * 4294967296 + D
        · exact .inr (.inl ⟨by omega, c2, BP.out (by have := PP; have := d0; omega)⟩)
        · exact .inr (.inr ⟨by omega, by omega, by have := PP; omega⟩)
    have SP := Lib.hid SP
    clear PP BP PH
    rcases C with ⟨c1, c2⟩ | ⟨c1, c3, c2⟩ | ⟨c1, c3, c2⟩ <;> rcases f2 with f2 | ⟨f2, f3⟩
    · have C2 := Lib.hid c2
      have g1 : (S / 4294967296 != 0) = true := by simp; omega
      clear c2
      go_enter Try.func89, Try.ntmps89
      go_wp2_with fail
      refine (SA.out _).mono ?_
      rintro e5 w4 ⟨rfl, rfl⟩
      go_wp2_with fail
      refine (SB.out _).mono ?_
      rintro e5 w4 ⟨rfl, rfl⟩
      go_wp2
      go_ret2
      exact ⟨ret_ov C2.out, rfl⟩
    · have C2 := Lib.hid c2
      have g1 : (S / 4294967296 != 0) = true := by simp; omega
      clear c2
      go_enter Try.func89, Try.ntmps89
      go_wp2_with fail
      refine (SA.out _).mono ?_
      rintro e5 w4 ⟨rfl, rfl⟩
      go_wp2_with fail
      refine (SB.out _).mono ?_
      rintro e5 w4 ⟨rfl, rfl⟩
      go_wp2
      go_ret2
      exact ⟨ret_ov C2.out, rfl⟩
    · have C2 := Lib.hid c2
      have g1 : (S / 4294967296 != 0) = false := by simp; omega
      have g2 : IntKind.u64.wrap (S * 4294967296) = S * 4294967296 := by rw [IntKind.wrap_u64]; omega
      have g3 : IntKind.u64.wrap (S * 4294967296 + D) = S * 4294967296 + D - 18446744073709551616 := by rw [IntKind.wrap_u64]; omega
      have g4 : S * 4294967296 + D - 18446744073709551616 < D := by omega
      clear c2 c3
      go_enter Try.func89, Try.ntmps89
      go_wp2_with fail
      refine (SA.out _).mono ?_
      rintro e5 w4 ⟨rfl, rfl⟩
      go_wp2_with fail
      refine (SB.out _).mono ?_
      rintro e5 w4 ⟨rfl, rfl⟩
      go_wp2
      go_ret2
      exact ⟨ret_ov C2.out, rfl⟩
    · have C2 := Lib.hid c2
      have g1 : (S / 4294967296 != 0) = false := by simp; omega
      have g2 : IntKind.u64.wrap (S * 4294967296) = S * 4294967296 := by rw [IntKind.wrap_u64]; omega
      have g3 : IntKind.u64.wrap (S * 4294967296 + D) = S * 4294967296 + D - 18446744073709551616 := by rw [IntKind.wrap_u64]; omega
      have g4 : S * 4294967296 + D - 18446744073709551616 < D := by omega
      clear c2 c3
      go_enter Try.func89, Try.ntmps89
      go_wp2_with fail
      refine (SA.out _).mono ?_
      rintro e5 w4 ⟨rfl, rfl⟩
      go_wp2_with fail
      refine (SB.out _).mono ?_
      rintro e5 w4 ⟨rfl, rfl⟩
      go_wp2
      go_ret2
      exact ⟨ret_ov C2.out, rfl⟩
    · have C2 := Lib.hid c2
      have g1 : (S / 4294967296 != 0) = false := by simp; omega
      have g2 : IntKind.u64.wrap (S * 4294967296) = S * 4294967296 := by rw [IntKind.wrap_u64]; omega
      have g3 : IntKind.u64.wrap (S * 4294967296 + D) = S * 4294967296 + D := by rw [IntKind.wrap_u64]; omega
      have g4 : ¬ S * 4294967296 + D < D := by omega
      have SG2 := Lib.hid (fun w => SG.out (S * 4294967296 + D) w ⟨by omega, by omega⟩)
      clear c2
      go_enter Try.func89, Try.ntmps89
      go_wp2_with fail
      refine (SA.out _).mono ?_
      rintro e5 w4 ⟨rfl, rfl⟩
      go_wp2_with fail
      refine (SB.out _).mono ?_
      rintro e5 w4 ⟨rfl, rfl⟩
      go_wp2_with fail
      refine (SG2.out _).mono ?_
      rintro e5 w4 ⟨rfl, rfl⟩
      go_wp2
      go_ret2
      exact ⟨ret_ii (by rw [C2.out, SP.out]) (by rw [C2.out, SP.out]), rfl⟩
    · have C2 := Lib.hid c2
      have g1 : (S / 4294967296 != 0) = false := by simp; omega
      have g2 : IntKind.u64.wrap (S * 4294967296) = S * 4294967296 := by rw [IntKind.wrap_u64]; omega
      have g3 : IntKind.u64.wrap (S * 4294967296 + D) = S * 4294967296 + D := by rw [IntKind.wrap_u64]; omega
      have g4 : ¬ S * 4294967296 + D < D := by omega
      have SG2 := Lib.hid (fun w => SG.out (S * 4294967296 + D) w ⟨by omega, by omega⟩)
      clear c2
      go_enter Try.func89, Try.ntmps89
      go_wp2_with fail
      refine (SA.out _).mono ?_
      rintro e5 w4 ⟨rfl, rfl⟩
      go_wp2_with fail
      refine (SB.out _).mono ?_
      rintro e5 w4 ⟨rfl, rfl⟩
      go_wp2_with fail
      refine (SG2.out _).mono ?_
      rintro e5 w4 ⟨rfl, rfl⟩
      go_wp2
      go_ret2
      exact ⟨ret_ii (by rw [C2.out, SP.out]) (by rw [C2.out, SP.out]), rfl⟩
end Go.Proofs.Ytkejohmghacdhaa
