/- Contracts of the package whole. -/
import Derived.Test.YtkejohmghacdhaaDoorKit
import Derived.Test.YtkejohmghacdhaaDoorMathA
import Derived.Test.YtkejohmghacdhaaDoorShelf
namespace Go.Proofs.YtkejohmghacdhaaDoor
set_option linter.unusedVariables false
set_option linter.unusedSimpArgs false
open Go.RowKit
set_option maxHeartbeats 400000 in
theorem whole_sub (a b : Int) (w : World) (ha : In a) (hb : In b) :
    Calls Tryd.prog 87 #[.int .i64 a, .int .i64 b] w fun e w' => e = .returned (.tuple #[.int .i64 (capN (a - b)), .int .i64 (errN (a - b))]) ∧ w = w' := by
  go_enter Tryd.func87, Tryd.ntmps87
  go_wp2
  · have h := sub_over ha hb (by assumption)
    go_ret2
    exact ⟨ret_ii (capN_over h).symm (errN_over h).symm, rfl⟩
  · have h := sub_fit ha hb (by assumption)
    go_ret2
    exact ⟨ret_ii (by rw [capN_fit h, wrap64_fit h]) (errN_fit h).symm, rfl⟩
set_option maxHeartbeats 400000 in
theorem whole_neg (a : Int) (w : World) (ha : In a) :
    Calls Tryd.prog 75 #[.int .i64 a] w fun e w' => e = .returned (.tuple #[.int .i64 (capN (-a)), .int .i64 (errN (-a))]) ∧ w = w' := by
  go_enter Tryd.func75, Tryd.ntmps75
  go_wp2_with (go_at_call 87; refine (whole_sub _ _ _ ⟨by decide, by decide⟩ ha).mono ?_; rintro e w' ⟨rfl, rfl⟩)
  go_ret2
  exact ⟨rfl, rfl⟩
/-- a number without its sign -/
def absI (a : Int) : Int := (a.natAbs : Int)
theorem absI_nonneg (a : Int) : 0 ≤ absI a := by unfold absI; omega
theorem absI_le {a : Int} (h : In a) : absI a ≤ 9223372036854775808 := by unfold In at h; unfold absI; omega
set_option maxHeartbeats 400000 in
theorem whole_size (a : Int) (w : World) (ha : In a) :
    Calls Tryd.prog 76 #[.int .i64 a] w fun e w' => e = .returned (.int .u64 (absI a)) ∧ w = w' := by
  go_enter Tryd.func76, Tryd.ntmps76
  go_wp2
  · have h : a < 0 := by assumption
    go_ret
    exact ⟨ret_u (by unfold In at ha; unfold absI; simp only [IntKind.wrap_u64]; omega), rfl⟩
  · have h : 0 ≤ a := by assumption
    go_ret
    exact ⟨ret_u (by unfold In at ha; unfold absI; simp only [IntKind.wrap_u64]; omega), rfl⟩
set_option maxHeartbeats 400000 in
theorem whole_div (a b : Int) (w : World) (ha : In a) (hb : In b) :
    Calls Tryd.prog 51 #[.int .i64 a, .int .i64 b] w fun e w' => e = .returned (.tuple #[.int .i64 (dvQ a b), .int .i64 (dvR a b), .int .i64 (dvE a b)]) ∧ Below w.heap.size w w' := by
  by_cases h0 : b = 0
  · subst h0
    go_enter Tryd.func51, Tryd.ntmps51
    go_wp2
    go_ret3
    exact ⟨rfl, Below.refl _ _⟩
  by_cases h1 : b = -1
  · subst h1
    go_enter Tryd.func51, Tryd.ntmps51
    go_wp2_with (go_at_call 75; refine (whole_neg _ _ ha).mono ?_; rintro e w' ⟨rfl, rfl⟩)
    go_ret3
    obtain ⟨e1, e2, e3⟩ := dv_neg_one a
    exact ⟨ret_iii e1.symm e2.symm e3.symm, Below.refl _ _⟩
  go_enter Tryd.func51, Tryd.ntmps51
  go_wp2_with fail
  go_quiet (fail)
  go_wp2
  · have h : a.tmod b = 0 := by assumption
    have hk := div_keep h0 (.inl h) ha hb
    obtain ⟨e1, e2, e3⟩ := dv_of h0 ⟨rfl, rfl⟩ (fdiv_range ha hb h0 h1)
    go_ret3
    exact ⟨ret_iii (by rw [e1, hk.1, wrap64_of (tdiv_range ha h0 h1)]) (by rw [e2, hk.2, h]) e3.symm, (by repeat (with_reducible (first | exact Below.refl _ _ | assumption | refine bl_alloc ?_ _ | refine bl_drewN ?_ _ | refine bl_drew ?_ | refine bl_call ?_ (by assumption) | (refine bl_setCell ?_ _ (Nat.le_refl _)) | (refine bl_setCell ?_ _ (by simp)))))⟩
  · have h : ¬ a.tmod b = 0 := by assumption
    have h' : (a.tmod b != 0) = true ∧ bits .xor .i64 (a.tmod b) b < 0 := by assumption
    have hk := div_step h0 h h'.2 ha hb
    obtain ⟨e1, e2, e3⟩ := dv_of h0 ⟨rfl, rfl⟩ (fdiv_range ha hb h0 h1)
    have hr := fdiv_range ha hb h0 h1
    have hm := fmod_sign (a := a) h0
    go_ret3
    exact ⟨ret_iii (by rw [e1, wrap64_of (tdiv_range ha h0 h1), ← hk.1, wrap64_of hr]) (by rw [e2, ← hk.2]; exact wrap64_of (by unfold In at *; omega)) e3.symm, (by repeat (with_reducible (first | exact Below.refl _ _ | assumption | refine bl_alloc ?_ _ | refine bl_drewN ?_ _ | refine bl_drew ?_ | refine bl_call ?_ (by assumption) | (refine bl_setCell ?_ _ (Nat.le_refl _)) | (refine bl_setCell ?_ _ (by simp)))))⟩
  · have h : ¬ a.tmod b = 0 := by assumption
    have h' : (a.tmod b != 0) = false ∨ 0 ≤ bits .xor .i64 (a.tmod b) b := by assumption
    have hk := div_keep h0 (by rcases h' with h' | h'; simp at h'; exact absurd h' h; exact .inr h') ha hb
    obtain ⟨e1, e2, e3⟩ := dv_of h0 ⟨rfl, rfl⟩ (fdiv_range ha hb h0 h1)
    go_ret3
    exact ⟨ret_iii (by rw [e1, hk.1, wrap64_of (tdiv_range ha h0 h1)]) (by rw [e2, hk.2]) e3.symm, (by repeat (with_reducible (first | exact Below.refl _ _ | assumption | refine bl_alloc ?_ _ | refine bl_drewN ?_ _ | refine bl_drew ?_ | refine bl_call ?_ (by assumption) | (refine bl_setCell ?_ _ (Nat.le_refl _)) | (refine bl_setCell ?_ _ (by simp)))))⟩
/-- a number of a size, below 0 or not -/
def sgn (b : Bool) (v : Int) : Int := if b = true then -v else v
theorem sgn_true (v : Int) : sgn true v = -v := rfl
theorem sgn_false (v : Int) : sgn false v = v := rfl
set_option maxHeartbeats 400000 in
theorem whole_signed (x n : Int) (b : Bool) (w : World) (hh : InU x) (hn : InU n) :
    Calls Tryd.prog 77 #[.int .u64 x, .int .u64 n, .bool b] w fun e w' => e = .returned (.tuple #[.int .i64 (capN (sgn b (x * 18446744073709551616 + n))), .int .i64 (errN (sgn b (x * 18446744073709551616 + n)))]) ∧ w = w' := by
  unfold InU at hh hn
  have over : ∀ v : Int, ¬ In v → Ending.returned (.tuple #[.int .i64 0, .int .i64 2]) = .returned (.tuple #[.int .i64 (capN v), .int .i64 (errN v)]) := fun v h => ret_ii (capN_over (fitB_not h)).symm (errN_over (fitB_not h)).symm
  have fit : ∀ r v : Int, In v → r = v → Ending.returned (.tuple #[.int .i64 r, .int .i64 0]) = .returned (.tuple #[.int .i64 (capN v), .int .i64 (errN v)]) := fun r v h e => ret_ii (by rw [capN_fit (fitB_of h), e]) (errN_fit (fitB_of h)).symm
  have OV := Lib.hid over
  have FI := Lib.hid fit
  clear over fit
  cases b
  all_goals
    go_enter Tryd.func77, Tryd.ntmps77
    go_wp2
    all_goals
      go_ret2
      first
        | exact ⟨OV.out _ (by simp only [sgn_true, sgn_false, In]; omega), rfl⟩
        | exact ⟨FI.out _ _ (by simp only [sgn_true, sgn_false, In]; omega) (by simp only [sgn_true, sgn_false, wrap64, IntKind.wrap_u64]; omega), rfl⟩
theorem mul64_split (a b : Int) (x y : Nat) (hx : (x : Int) = absI a) (hy : (y : Int) = absI b) :
    sgn (decide (a < 0) != decide (b < 0)) (((x * y / 18446744073709551616 : Nat) : Int) * 18446744073709551616 + ((x * y % 18446744073709551616 : Nat) : Int)) = a * b := by
  have e : ((x * y / 18446744073709551616 : Nat) : Int) * 18446744073709551616 + ((x * y % 18446744073709551616 : Nat) : Int) = (x : Int) * (y : Int) := by
    rw [← Int.natCast_mul]; generalize x * y = z; omega
  rw [e, hx, hy]
  unfold absI
  rcases Int.lt_or_le a 0 with ha | ha <;> rcases Int.lt_or_le b 0 with hb | hb
  · rw [show (a.natAbs : Int) = -a by omega, show (b.natAbs : Int) = -b by omega]; simp [ha, hb, sgn, Int.neg_mul_neg]
  · rw [show (a.natAbs : Int) = -a by omega, show (b.natAbs : Int) = b by omega]; simp [ha, Int.not_lt.2 hb, sgn, Int.neg_mul]
  · rw [show (a.natAbs : Int) = a by omega, show (b.natAbs : Int) = -b by omega]; simp [Int.not_lt.2 ha, hb, sgn, Int.mul_neg]
  · rw [show (a.natAbs : Int) = a by omega, show (b.natAbs : Int) = b by omega]; simp [Int.not_lt.2 ha, Int.not_lt.2 hb, sgn]
set_option maxHeartbeats 400000 in
theorem whole_mul (a b : Int) (w : World) (ha : In a) (hb : In b) :
    Calls Tryd.prog 56 #[.int .i64 a, .int .i64 b] w fun e w' => e = .returned (.tuple #[.int .i64 (capN (a * b)), .int .i64 (errN (a * b))]) ∧ w = w' := by
  obtain ⟨x, hx⟩ := Int.eq_ofNat_of_zero_le (absI_nonneg a)
  obtain ⟨y, hy⟩ := Int.eq_ofNat_of_zero_le (absI_nonneg b)
  have sa := whole_size a (w := w) (ha := ha)
  have sb := whole_size b (w := w) (ha := hb)
  have la := absI_le ha
  have lb := absI_le hb
  have E := Lib.hid (mul64_split a b x y hx.symm hy.symm)
  rw [hx] at sa la
  rw [hy] at sb lb
  have hz1 : InU ((x * y / 18446744073709551616 : Nat) : Int) := by
    have : x * y ≤ 9223372036854775808 * 9223372036854775808 := Nat.mul_le_mul (by omega) (by omega)
    unfold InU; omega
  have hz2 : InU ((x * y % 18446744073709551616 : Nat) : Int) := by unfold InU; omega
  have SA := Lib.hid sa
  have SB := Lib.hid sb
  clear sa sb hx hy
  go_enter Tryd.func56, Tryd.ntmps56
  go_wp2_with fail
  refine SA.out.mono ?_; rintro e w' ⟨rfl, rfl⟩
  go_wp2_with fail
  refine SB.out.mono ?_; rintro e w' ⟨rfl, rfl⟩
  go_wp2_with fail
  refine (Tryd.bits_Mul64 x y (by omega) (by omega) w).mono ?_; rintro e w' ⟨rfl, rfl⟩
  go_wp2_with fail
  refine (whole_signed _ _ _ _ hz1 hz2).mono ?_; rintro e w' ⟨rfl, rfl⟩
  go_wp2
  go_ret2
  have h := E.out
  simp at h
  exact ⟨ret_ii (congrArg capN h) (congrArg errN h), rfl⟩
end Go.Proofs.YtkejohmghacdhaaDoor
