/- Calendars in plain numbers: which may be, and on which day a year ends. -/
import Derived.Test.YteppoghpfcmhhaaMathG
namespace Go.Proofs.Yteppoghpfcmhhaa
set_option linter.unusedVariables false
set_option linter.unusedSimpArgs false
open Go Go.RowKit
/-- a calendar -/
structure CalI where
  name : ByteArray
  kind : Int
  day : Int
  month : Int
  shift : Int
  shape : Int
  p0 : Int
  p1 : Int
  p2 : Int
  cycle : Int
  extra : Int
  first : Int
  last : Int
  policy : Int
def letB (b : Int) : Bool := decide (97 ≤ b ∧ b ≤ 122)
def innB (b : Int) : Bool := decide ((97 ≤ b ∧ b ≤ 122) ∨ (48 ≤ b ∧ b ≤ 57) ∨ b = 45)
/-- may it be a name -/
def nameB (s : ByteArray) : Bool := decide (1 ≤ s.size ∧ s.size ≤ 16) && (letB ((s.data.toList.getD 0 0).toNat : Int) && s.data.toList.all fun b => innB (b.toNat : Int))
def weeksB (c : CalI) : Bool := decide (1 ≤ c.extra ∧
  ((c.shape = 1 ∧ ((c.p0 = 4 ∧ c.p1 = 4 ∧ c.p2 = 5) ∨ (c.p0 = 4 ∧ c.p1 = 5 ∧ c.p2 = 4) ∨ (c.p0 = 5 ∧ c.p1 = 4 ∧ c.p2 = 4)) ∧ c.cycle = 0 ∧ c.extra ≤ 12) ∨
   (c.shape = 2 ∧ (c.p0 = 0 ∧ c.p1 = 0 ∧ c.p2 = 0) ∧ c.cycle = 0 ∧ c.extra ≤ 13) ∨
   (c.shape = 3 ∧ (c.p0 = 0 ∧ c.p1 = 0 ∧ c.p2 = 0) ∧ ((c.cycle = 1 ∧ c.extra ≤ 52) ∨ (c.cycle = 2 ∧ c.extra ≤ 26) ∨ (c.cycle = 4 ∧ c.extra ≤ 13)))))
def ruledB (c : CalI) : Bool :=
  if c.kind = 3 then decide (c.day = 6 ∧ c.month = 1 ∧ c.shift = 1 ∧ c.shape = 1 ∧ c.p0 = 4 ∧ c.p1 = 5 ∧ c.p2 = 4 ∧ c.cycle = 0 ∧ c.extra = 12)
  else if c.kind = 4 then decide (c.day = 7 ∧ c.month = 12 ∧ c.shift = 0 ∧ c.shape = 4 ∧ c.p0 = 0 ∧ c.p1 = 0 ∧ c.p2 = 0 ∧ c.cycle = 0 ∧ c.extra = 12)
  else decide (1 ≤ c.month ∧ c.month ≤ 12 ∧ 0 ≤ c.shift ∧ c.shift ≤ 1) &&
    (if c.kind = 1 ∨ c.kind = 2 then decide (1 ≤ c.day ∧ c.day ≤ 7) && weeksB c
     else if c.kind = 5 then decide (c.day = 7 ∧ c.month = 12 ∧ c.shift = 0) && weeksB c
     else if c.kind = 6 then decide (c.day = 0 ∧ c.shape = 5 ∧ c.p0 = 0 ∧ c.p1 = 0 ∧ c.p2 = 0 ∧ c.cycle = 0 ∧ c.extra = 0)
     else false)
def servB (c : CalI) : Bool := decide (1602 ≤ c.first ∧ c.last ≤ 9996 ∧ c.first ≤ c.last ∧ c.last - c.first < 400)
def polB (c : CalI) : Bool := decide (1 ≤ c.policy ∧ c.policy ≤ 4) && (decide (c.policy = 4) == decide (c.kind = 6))
/-- may it be a calendar -/
def calB (c : CalI) : Bool := servB c && (polB c && (nameB c.name && ruledB c))
def argE (b : Bool) : Int := if b = true then 0 else 1
theorem argE_true {b : Bool} (h : b = true) : argE b = 0 := by rw [h]; rfl
theorem argE_false {b : Bool} (h : b = false) : argE b = 1 := by rw [h]; rfl
/-- what a calendar's rule is -/
theorem cal_rule (c : CalI) (h : calB c = true) : 1 ≤ c.kind ∧ c.kind ≤ 6 ∧ 1 ≤ c.month ∧ c.month ≤ 12 ∧ 0 ≤ c.shift ∧ c.shift ≤ 1 ∧ (c.kind ≠ 6 → 1 ≤ c.day ∧ c.day ≤ 7) ∧ (c.kind = 3 → c.day = 6 ∧ c.month = 1 ∧ c.shift = 1) ∧ (c.kind = 4 → c.day = 7 ∧ c.month = 12 ∧ c.shift = 0) ∧ (c.kind = 5 → c.day = 7 ∧ c.month = 12 ∧ c.shift = 0) ∧
    1602 ≤ c.first ∧ c.last ≤ 9996 ∧ c.first ≤ c.last ∧ c.last - c.first < 400 := by
  unfold calB servB ruledB at h
  simp only [Bool.and_eq_true, decide_eq_true_eq] at h
  obtain ⟨h1, _, _, h2⟩ := h
  by_cases k3 : c.kind = 3
  · rw [if_pos k3] at h2; simp only [decide_eq_true_eq] at h2; omega
  rw [if_neg k3] at h2
  by_cases k4 : c.kind = 4
  · rw [if_pos k4] at h2; simp only [decide_eq_true_eq] at h2; omega
  rw [if_neg k4] at h2
  simp only [Bool.and_eq_true, decide_eq_true_eq] at h2
  obtain ⟨h2, h3⟩ := h2
  by_cases k1 : c.kind = 1 ∨ c.kind = 2
  · rw [if_pos k1] at h3; simp only [Bool.and_eq_true, decide_eq_true_eq] at h3; omega
  rw [if_neg k1] at h3
  by_cases k5 : c.kind = 5
  · rw [if_pos k5] at h3; simp only [Bool.and_eq_true, decide_eq_true_eq] at h3; omega
  rw [if_neg k5] at h3
  by_cases k6 : c.kind = 6
  · omega
  · rw [if_neg k6] at h3; cases h3
/-- the day on which a year ends -/
def endN (c : CalI) (y : Int) : Int :=
  if c.kind = 1 ∨ c.kind = 4 then lastN (y + c.shift) c.month c.day else if c.kind = 6 then eomI (y + c.shift) c.month else eomI (y + c.shift) c.month + nearK (y + c.shift) c.month c.day
theorem wkE_zero (y m d : Int) (h1 : 1600 ≤ y) (h2 : y ≤ 9999) (m1 : 1 ≤ m) (m2 : m ≤ 12) (d1 : 1 ≤ d) (d2 : d ≤ 7) : wkE y m d = 0 ∧ thereB y m = true := by
  have t : thereB y m = true := by unfold thereB; simp; omega
  exact ⟨by unfold wkE; rw [if_pos t, if_pos ⟨d1, d2⟩], t⟩
theorem near_is (y m d : Int) (h1 : 1600 ≤ y) (h2 : y ≤ 9998) (e : wkE y m d = 0) : nearE y m d = 0 ∧ nearV y m d = eomI y m + nearK y m d ∧ isB (eomI y m + nearK y m d) = true ∧ wdI (eomI y m + nearK y m d) = d := by
  obtain ⟨_, n0, _⟩ := years_apart y m d h1 h2 e
  obtain ⟨a, c1, c2, a1, a2, a3, _, _, _, _, a8, a9, a10, a11, a12⟩ := last_facts y m d e
  have n0' := n0
  unfold nearE at n0'
  rw [if_pos e] at n0'
  have ok : addOk (eomI y m) (nearK y m d) = true := by
    rcases Bool.eq_false_or_eq_true (addOk (eomI y m) (nearK y m d)) with h | h
    · exact h
    · rw [dateE_false h] at n0'; omega
  have nv : nearV y m d = eomI y m + nearK y m d := by unfold nearV addI; rw [if_pos e, if_pos ok]
  have ok' := ok
  unfold addOk at ok'
  simp only [decide_eq_true_eq] at ok'
  have i : isB (eomI y m + nearK y m d) = true := (isB_iff _).2 (by omega)
  refine ⟨n0, nv, i, ?_⟩
  have hw := wd_of i
  have i0 : isB (eomI y m) = true := (isB_iff _).2 (by omega)
  have w0 := wd_of i0
  have kd : nearK y m d = (d - wdI (eomI y m) + 10) % 7 - 3 := rfl
  omega
/-- of every calendar that may be, and every year that is told -/
theorem end_facts (c : CalI) (h : calB c = true) (y : Int) (h1 : 1600 ≤ y) (h2 : y ≤ 9997) :
    isB (endN c y) = true ∧ (c.kind ≠ 6 → wdI (endN c y) = c.day) ∧
    ((c.kind = 1 ∨ c.kind = 4) → lastV (y + c.shift) c.month c.day = endN c y ∧ wkE (y + c.shift) c.month c.day = 0) ∧
    (c.kind = 6 → lenV (y + c.shift) c.month = mlen (y + c.shift) c.month ∧ dateE (thereB (y + c.shift) c.month) = 0 ∧ dayV (y + c.shift) c.month (mlen (y + c.shift) c.month) = endN c y ∧ dateE (validB (y + c.shift) c.month (mlen (y + c.shift) c.month)) = 0) ∧
    ((c.kind = 2 ∨ c.kind = 3 ∨ c.kind = 5) → nearV (y + c.shift) c.month c.day = endN c y ∧ nearE (y + c.shift) c.month c.day = 0) ∧
    eomI (y + c.shift) c.month - 6 ≤ endN c y ∧ endN c y ≤ eomI (y + c.shift) c.month + 3 ∧ thereB (y + c.shift) c.month = true ∧
    ((c.kind = 2 ∨ c.kind = 3 ∨ c.kind = 5) → eomI (y + c.shift) c.month - 3 ≤ endN c y) ∧ ((c.kind = 1 ∨ c.kind = 4 ∨ c.kind = 6) → endN c y ≤ eomI (y + c.shift) c.month) := by
  obtain ⟨r1, r2, r3, r4, r5, r6, r7, _⟩ := cal_rule c h
  have t : thereB (y + c.shift) c.month = true := by unfold thereB; simp; omega
  obtain ⟨f1, f2, f3, f4⟩ := eom_facts _ _ t
  by_cases k6 : c.kind = 6
  · have e : endN c y = eomI (y + c.shift) c.month := by unfold endN; rw [if_neg (by omega), if_pos k6]
    rw [e]
    exact ⟨f3, by omega, by omega, fun _ => ⟨f4, dateE_true t, f1, f2⟩, by omega, by omega, by omega, t, by omega, by omega⟩
  obtain ⟨d1, d2⟩ := r7 k6
  obtain ⟨w0, _⟩ := wkE_zero (y + c.shift) c.month c.day (by omega) (by omega) r3 r4 d1 d2
  obtain ⟨a, c1, c2, a1, a2, a3, _, _, _, _, a8, a9, a10, a11, a12⟩ := last_facts _ _ _ w0
  by_cases k1 : c.kind = 1 ∨ c.kind = 4
  · have e : endN c y = lastN (y + c.shift) c.month c.day := by unfold endN; rw [if_pos k1]
    rw [e]
    exact ⟨a2, fun _ => a3, fun _ => ⟨a1, w0⟩, by omega, by omega, by omega, by omega, t, by omega, by omega⟩
  · have e : endN c y = eomI (y + c.shift) c.month + nearK (y + c.shift) c.month c.day := by unfold endN; rw [if_neg k1, if_neg k6]
    obtain ⟨n1, n2, n3, n4⟩ := near_is (y + c.shift) c.month c.day (by omega) (by omega) w0
    have kd : -3 ≤ nearK (y + c.shift) c.month c.day ∧ nearK (y + c.shift) c.month c.day ≤ 3 := by unfold nearK; omega
    rw [e]
    exact ⟨n3, fun _ => n4, by omega, by omega, fun _ => ⟨n2, n1⟩, by omega, by omega, t, by omega, by omega⟩
/-- a year is as long as it should -/
theorem end_step (c : CalI) (h : calB c = true) (y : Int) (h1 : 1600 ≤ y) (h2 : y ≤ 9996) :
    (c.kind ≠ 6 ∧ (endN c (y + 1) - endN c y = 364 ∨ endN c (y + 1) - endN c y = 371)) ∨ (c.kind = 6 ∧ (endN c (y + 1) - endN c y = 365 ∨ endN c (y + 1) - endN c y = 366)) := by
  obtain ⟨r1, r2, r3, r4, r5, r6, r7, _⟩ := cal_rule c h
  have hs : y + 1 + c.shift = y + c.shift + 1 := by omega
  by_cases k6 : c.kind = 6
  · refine .inr ⟨k6, ?_⟩
    have e : endN c y = eomI (y + c.shift) c.month := by unfold endN; rw [if_neg (by omega), if_pos k6]
    have e2 : endN c (y + 1) = eomI (y + c.shift + 1) c.month := by unfold endN; rw [if_neg (by omega), if_pos k6, hs]
    have ys := years_succ (y + c.shift) (by omega) (by omega)
    have l1 := lpI_01 (y + c.shift)
    have l2 := lpI_01 (y + c.shift + 1)
    have as1 := ahead_succ (y + c.shift) c.month r3 r4
    have as2 := ahead_succ (y + c.shift + 1) c.month r3 r4
    rw [e, e2]
    have E1 : eomI (y + c.shift) c.month = yearsI (y + c.shift) + aheadI (y + c.shift) (c.month + 1) - 1 := by unfold eomI; omega
    have E2 : eomI (y + c.shift + 1) c.month = yearsI (y + c.shift + 1) + aheadI (y + c.shift + 1) (c.month + 1) - 1 := by unfold eomI; omega
    rw [E1, E2, ys]; unfold aheadI
    by_cases hm : 2 < c.month + 1
    · rw [if_pos hm, if_pos hm]; omega
    · rw [if_neg hm, if_neg hm]; omega
  refine .inl ⟨k6, ?_⟩
  obtain ⟨d1, d2⟩ := r7 k6
  have kk : (c.kind = 1 ∨ c.kind = 4) ∨ (c.kind = 2 ∨ c.kind = 3 ∨ c.kind = 5) := by clear r7 hs d1 d2 r3 r4; omega
  have z1 : 1600 ≤ y + c.shift := by omega
  have z2 : y + c.shift ≤ 9997 := by omega
  obtain ⟨w0, _⟩ := wkE_zero (y + c.shift) c.month c.day z1 (by omega) r3 r4 d1 d2
  obtain ⟨p1, p2, p3⟩ := years_apart (y + c.shift) c.month c.day z1 (by omega) w0
  obtain ⟨_, _, q1, _, q3, _⟩ := end_facts c h y h1 (by omega)
  obtain ⟨_, _, s1, _, s3, _⟩ := end_facts c h (y + 1) (by omega) (by omega)
  rw [hs] at s1 s3
  rcases kk with k1 | k1
  · rw [← (q1 k1).1, ← (s1 k1).1]; exact p1
  · rw [← (q3 k1).1, ← (s3 k1).1]
    rcases p3 with ⟨e, _⟩ | ⟨_, p4⟩
    · rw [(s3 k1).2] at e; cases e
    · exact p4
/-- ends go up -/
theorem end_mono (c : CalI) (h : calB c = true) (y z : Int) (h1 : 1600 ≤ y) (h2 : z ≤ 9997) (hl : y ≤ z) : endN c y + 364 * (z - y) ≤ endN c z ∧ endN c z ≤ endN c y + 371 * (z - y) := by
  have key : ∀ k : Nat, y + k ≤ 9997 → endN c y + 364 * k ≤ endN c (y + k) ∧ endN c (y + k) ≤ endN c y + 371 * k := by
    intro k
    induction k with
    | zero => intro _; simp
    | succ k ih =>
      intro hk
      have i := ih (by omega)
      have s := end_step c h (y + k) (by omega) (by omega)
      rw [show y + ((k + 1 : Nat) : Int) = y + k + 1 by omega]
      omega
  have k := key (z - y).toNat (by omega)
  rw [show y + ((z - y).toNat : Int) = z by omega, show ((z - y).toNat : Int) = z - y by omega] at k
  exact k
theorem end_lt (c : CalI) (h : calB c = true) (y z : Int) (h1 : 1600 ≤ y) (h2 : z ≤ 9997) (hl : y < z) : endN c y < endN c z := by
  have := end_mono c h y z h1 h2 (by omega); omega
end Go.Proofs.Yteppoghpfcmhhaa
