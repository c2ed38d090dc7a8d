/- What the statements on anchors ask, in plain numbers. -/
import Derived.Test.YteppoghpfcmhhaaAncB
import Derived.Test.YteppoghpfcmhhaaMathF
namespace Go.Proofs.Yteppoghpfcmhhaa
set_option linter.unusedVariables false
set_option linter.unusedSimpArgs false
open Go Go.RowKit
theorem weeks_ways (c : CalI) (y : Int) : (calB c = true ∧ c.kind ≠ 6 ∧ 1601 ≤ y ∧ y ≤ 9997 ∧ weeksE c y = 0 ∧ weeksV c y = (endN c y - endN c (y - 1)) / 7 ∧ tellE c y 1601 = 0 ∧ daysV c y = endN c y - endN c (y - 1)) ∨ ((weeksE c y == 0) = false ∧ weeksV c y = 0) := by
  by_cases h : calB c = true ∧ c.kind ≠ 6
  · have e1 : weeksE c y = tellE c y 1601 := by unfold weeksE; rw [if_pos h]
    have e2 : weeksV c y = daysV c y / 7 := by unfold weeksV; rw [if_pos h]
    by_cases t : tellE c y 1601 = 0
    · obtain ⟨a, b, d⟩ := tell_zero t
      have e3 : daysV c y = endN c y - endN c (y - 1) := by unfold daysV; rw [if_pos t]
      exact .inl ⟨h.1, h.2, b, d, by rw [e1, t], by rw [e2, e3], t, e3⟩
    · have e3 : daysV c y = 0 := by unfold daysV; rw [if_neg t]
      exact .inr ⟨by rw [e1]; exact (tell_not t).1, by rw [e2, e3]; rfl⟩
  · exact .inr ⟨by unfold weeksE; rw [if_neg h]; rfl, by unfold weeksV; rw [if_neg h]⟩
/-- a year of weeks -/
theorem week_year (c : CalI) (y : Int) (h : calB c = true) (k : c.kind ≠ 6) (h1 : 1601 ≤ y) (h2 : y ≤ 9997) :
    (endN c y - endN c (y - 1) = 364 ∨ endN c y - endN c (y - 1) = 371) ∧ wdI (endN c (y - 1) + 1) = c.day % 7 + 1 ∧ dateE (isB (endN c (y - 1) + 1)) = 0 ∧ wdI (endN c y) = c.day ∧ dateE (isB (endN c y)) = 0 ∧ 1 ≤ c.day ∧ c.day ≤ 7 := by
  have s := end_step c h (y - 1) (by omega) (by omega)
  rw [show y - 1 + 1 = y by omega] at s
  obtain ⟨a1, a2, _⟩ := end_facts c h y (by omega) h2
  obtain ⟨b1, b2, _⟩ := end_facts c h (y - 1) (by omega) (by omega)
  obtain ⟨_, _, _, _, _, _, r7, _⟩ := cal_rule c h
  have w := b2 k
  have u := a2 k
  obtain ⟨d1, d2⟩ := r7 k
  have s' : endN c y - endN c (y - 1) = 364 ∨ endN c y - endN c (y - 1) = 371 := by
    rcases s with ⟨_, s⟩ | ⟨s, _⟩
    · exact s
    · exact absurd s k
  clear s a2 b2 r7
  generalize endN c y = P at *
  generalize endN c (y - 1) = R at *
  have i1 := (isB_iff _).1 a1
  have i2 := (isB_iff _).1 b1
  have i3 : isB (R + 1) = true := (isB_iff _).2 (by omega)
  have w1 := wd_of b1
  have w2 := wd_of i3
  rw [w1] at w
  rw [w2]
  exact ⟨s', by clear u a1 b1 i3 w1 w2; omega, dateE_true i3, u, dateE_true a1, d1, d2⟩
/-- by words -/
theorem words_facts (c : CalI) (y : Int) (h : calB c = true) (h1 : 1600 ≤ y) (h2 : y ≤ 9997) :
    dateE (isB (endN c y)) = 0 ∧ dateE (thereB (y + c.shift) c.month) = 0 ∧ lenV (y + c.shift) c.month = mlen (y + c.shift) c.month ∧ dayV (y + c.shift) c.month (mlen (y + c.shift) c.month) = eomI (y + c.shift) c.month ∧ dateE (validB (y + c.shift) c.month (mlen (y + c.shift) c.month)) = 0 ∧
    28 ≤ mlen (y + c.shift) c.month ∧ mlen (y + c.shift) c.month ≤ 31 ∧ 0 ≤ eomI (y + c.shift) c.month ∧ eomI (y + c.shift) c.month < 3068037 ∧
    ((c.kind = 6 ∧ endN c y = eomI (y + c.shift) c.month) ∨
     ((c.kind == 6) = false ∧ wdI (endN c y) = c.day ∧ (c.kind = 1 ∨ c.kind = 4) ∧ ofY (endN c y) = y + c.shift ∧ ofM (endN c y) = c.month ∧ mlen (y + c.shift) c.month < ofD (endN c y) + 7 ∧ 1 ≤ ofD (endN c y) ∧ ofD (endN c y) ≤ 31) ∨
     ((c.kind == 6) = false ∧ wdI (endN c y) = c.day ∧ (c.kind == 1) = false ∧ (c.kind == 4) = false ∧ eomI (y + c.shift) c.month - 3 ≤ endN c y ∧ endN c y ≤ eomI (y + c.shift) c.month + 3)) := by
  obtain ⟨a1, a2, a3, a4, a5, a6, a7, a8, a9, a10⟩ := end_facts c h y h1 h2
  obtain ⟨r1, r2, r3, r4, r5, r6, r7, _⟩ := cal_rule c h
  obtain ⟨f1, f2, f3, f4⟩ := eom_facts _ _ a8
  have m := mlen_bd (y + c.shift) c.month
  have i := (isB_iff _).1 f3
  refine ⟨dateE_true a1, dateE_true a8, f4, f1, f2, by omega, by omega, i.1, i.2, ?_⟩
  by_cases k6 : c.kind = 6
  · exact .inl ⟨k6, by unfold endN; rw [if_neg (by omega), if_pos k6]⟩
  by_cases k1 : c.kind = 1 ∨ c.kind = 4
  · have e : endN c y = lastN (y + c.shift) c.month c.day := by unfold endN; rw [if_pos k1]
    obtain ⟨_, _, _, _, _, _, l1, l2, l3, l4, _⟩ := last_facts _ _ _ (a3 k1).2
    have v := of_ok _ a1
    have v' := (validB_iff _ _ _).1 v.1
    rw [e] at v' ⊢
    exact .inr (.inl ⟨by simpa using k6, by rw [← e]; exact a2 k6, k1, l1, l2, l3, by omega, l4⟩)
  · exact .inr (.inr ⟨by simpa using k6, a2 k6, by simp; omega, by simp; omega, a9 (by omega), a7⟩)
/-- by months -/
theorem month_year (c : CalI) (y : Int) (h : calB c = true) (k : c.kind = 6) (h1 : 1601 ≤ y) (h2 : y ≤ 9997) :
    (endN c y - endN c (y - 1) = 365 ∨ endN c y - endN c (y - 1) = 366) ∧ ofD (endN c (y - 1) + 1) = 1 ∧ ofM (endN c (y - 1) + 1) = c.month % 12 + 1 ∧ ofM (endN c y) = c.month ∧ ofY (endN c y) = y + c.shift ∧ dateE (isB (endN c (y - 1) + 1)) = 0 ∧ dateE (isB (endN c y)) = 0 ∧ 1 ≤ c.month ∧ c.month ≤ 12 := by
  have s := end_step c h (y - 1) (by omega) (by omega)
  rw [show y - 1 + 1 = y by omega] at s
  have s' : endN c y - endN c (y - 1) = 365 ∨ endN c y - endN c (y - 1) = 366 := by
    rcases s with ⟨s, _⟩ | ⟨_, s⟩
    · exact absurd k s
    · exact s
  clear s
  obtain ⟨a1, _, _, _, _, _, _, a8, _⟩ := end_facts c h y (by omega) h2
  obtain ⟨b1, _, _, _, _, _, _, b8, _⟩ := end_facts c h (y - 1) (by omega) (by omega)
  obtain ⟨r1, r2, r3, r4, r5, r6, r7, _⟩ := cal_rule c h
  have i3 : isB (endN c (y - 1) + 1) = true := by
    have i1 := (isB_iff _).1 a1
    have i2 := (isB_iff _).1 b1
    clear a1 b1 a8 b8
    generalize endN c y = P at *
    generalize endN c (y - 1) = R at *
    exact (isB_iff _).2 (by omega)
  have e1 : endN c y = dayNo (y + c.shift) c.month (mlen (y + c.shift) c.month) := by unfold endN; rw [if_neg (by omega), if_pos k]; unfold eomI dayNo; omega
  have e2 : endN c (y - 1) = dayNo (y - 1 + c.shift) c.month (mlen (y - 1 + c.shift) c.month) := by unfold endN; rw [if_neg (by omega), if_pos k]; unfold eomI dayNo; omega
  have m1 := mlen_bd (y + c.shift) c.month
  have m2 := mlen_bd (y - 1 + c.shift) c.month
  have v1 : validB (y + c.shift) c.month (mlen (y + c.shift) c.month) = true := by unfold validB; rw [a8]; simp; omega
  have v2 : validB (y - 1 + c.shift) c.month (mlen (y - 1 + c.shift) c.month) = true := by unfold validB; rw [b8]; simp; omega
  obtain ⟨o1, o2, _⟩ := of_is _ _ _ _ v1 e1.symm
  refine ⟨s', ?_, ?_, o2, o1, dateE_true i3, dateE_true a1, r3, r4⟩
  · by_cases hm : c.month < 12
    · obtain ⟨n1, n2⟩ := dayNo_next2 _ _ _ v2 rfl hm
      exact (of_is _ _ _ _ n1 (by rw [n2, ← e2])).2.2
    · obtain ⟨n1, n2⟩ := dayNo_next3 _ _ _ v2 rfl (by omega) (by omega)
      exact (of_is _ _ _ _ n1 (by rw [n2, ← e2])).2.2
  · by_cases hm : c.month < 12
    · obtain ⟨n1, n2⟩ := dayNo_next2 _ _ _ v2 rfl hm
      have o3 := (of_is _ _ _ _ n1 (by rw [n2, ← e2])).2.1
      rw [o3]
      clear o3 n1 n2 v1 v2 e1 e2 i3 s' a1 b1 o1 o2
      omega
    · obtain ⟨n1, n2⟩ := dayNo_next3 _ _ _ v2 rfl (by omega) (by omega)
      have o3 := (of_is _ _ _ _ n1 (by rw [n2, ← e2])).2.1
      rw [o3]
      clear o3 n1 n2 v1 v2 e1 e2 i3 s' a1 b1 o1 o2
      omega
/-- the Sunday nearest to a year's end, and the ISO year -/
theorem iso_end (y : Int) (h1 : 1600 ≤ y) (h2 : y ≤ 9998) : eomI y 12 + nearK y 12 7 + 1 = firstI (y + 1) ∧
    (isB (eomI y 12 + nearK y 12 7) = true → isoY (eomI y 12 + nearK y 12 7) = y ∧ isoW (eomI y 12 + nearK y 12 7) = manyV y ∧ isoD (eomI y 12 + nearK y 12 7) = 7) := by
  have h : thereB y 1 = true := by unfold thereB; simp; omega
  have ys := years_succ y h1 (by omega)
  have l1 := lpI_01 y
  have yb := years_bd y h1 (by omega)
  have yb2 := years_bd (y + 1) (by omega) (by omega)
  have as1 := ahead_succ y 12 (by omega) (by omega)
  have a13 := ahead_13 y
  rw [show (12 : Int) + 1 = 13 from rfl] at as1
  have E : eomI y 12 = yearsI (y + 1) - 1 := by unfold eomI; omega
  have i0 : isB (eomI y 12) = true := (isB_iff _).2 (by omega)
  have w0 := wd_of i0
  have K : nearK y 12 7 = (7 - wdI (eomI y 12) + 10) % 7 - 3 := rfl
  have F1 : firstI (y + 1) = yearsI (y + 1) + 3 - (yearsI (y + 1) + 3 + 5) % 7 := rfl
  have F0 : firstI y = yearsI y + 3 - (yearsI y + 3 + 5) % 7 := rfl
  have S : eomI y 12 + nearK y 12 7 + 1 = firstI (y + 1) := by omega
  refine ⟨S, fun i => ?_⟩
  have ib := (isB_iff _).1 i
  have m0 : monI (eomI y 12 + nearK y 12 7) = eomI y 12 + nearK y 12 7 - 6 := by unfold monI; omega
  obtain ⟨j, o⟩ := ofY_is (monI (eomI y 12 + nearK y 12 7) + 3) y h1 (by omega) (by rw [m0]; omega) (by rw [m0]; omega)
  have many : (manyV y = 53 ∧ firstI y + 367 < yearsI (y + 1)) ∨ (manyV y = 52 ∧ yearsI (y + 1) ≤ firstI y + 367) := by
    by_cases c3 : firstI y + 367 < yearsI (y + 1)
    · obtain ⟨i, o2⟩ := ofY_is (firstI y + 367) y h1 (by omega) (by omega) c3
      exact .inl ⟨by unfold manyV; rw [if_pos h, if_pos ⟨i, o2⟩], c3⟩
    · refine .inr ⟨?_, by omega⟩
      have : ¬ (isB (firstI y + 367) = true ∧ ofY (firstI y + 367) = y) := by
        intro ⟨i, o2⟩
        obtain ⟨v, e⟩ := of_ok _ i
        have d := day_in_year _ _ _ v
        rw [e, o2] at d
        omega
      unfold manyV; rw [if_pos h, if_neg this]
  refine ⟨by unfold isoY; rw [if_pos i, if_pos j, o], ?_, ?_⟩
  · unfold isoW; rw [if_pos i, if_pos j, o, m0]
    rcases many with ⟨m, mm⟩ | ⟨m, mm⟩ <;> rw [m] <;> omega
  · have := wd_of i
    show wdI _ = 7
    omega
theorem iso_begin (y : Int) (h1 : 1600 ≤ y) (h2 : y ≤ 9998) (i : isB (firstI y) = true) : isoY (firstI y) = y ∧ isoW (firstI y) = 1 ∧ isoD (firstI y) = 1 := by
  have ys := years_succ y h1 (by omega)
  have l1 := lpI_01 y
  have fb := first_bd y
  have m0 : monI (firstI y) = firstI y := by unfold monI; omega
  obtain ⟨j, o⟩ := ofY_is (firstI y + 3) y h1 (by omega) (by omega) (by omega)
  refine ⟨by unfold isoY; rw [if_pos i, m0, if_pos j, o], by unfold isoW; rw [if_pos i, m0, if_pos j, o]; omega, ?_⟩
  have := wd_of i
  show wdI _ = 1
  omega
end Go.Proofs.Yteppoghpfcmhhaa
