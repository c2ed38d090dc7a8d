/- Structs held against each other: calendars, three numbers in a row. -/
import Derived.Test.YteppoghpfcmhhaaFieldB
namespace Go.Proofs.Yteppoghpfcmhhaa
set_option linter.unusedVariables false
set_option linter.unusedSimpArgs false
open Go.RowKit
def eq3B (a b c x y z : Int) : Bool := (a == x) && ((b == y) && (c == z))
theorem run_eq3 (d : Nat) (a b c x y z : Int) (w : World) : (Op.equalIn (d + 1 + 1) 22 (.agg #[.int .i64 a, .int .i64 b, .int .i64 c]) (.agg #[.int .i64 x, .int .i64 y, .int .i64 z])).run Try.prog w = .ok (eq3B a b c x y z) w := by
  have hs : ∀ w, (sizeOf 3).run Try.prog w = .ok 1 w := fun _ => by kernel_rfl
  have h0 : ∀ (p q r : Int) (w : World), (part 3 #[.int .i64 p, .int .i64 q, .int .i64 r] 0).run Try.prog w = .ok (.int .i64 p) w := fun _ _ _ _ => by kernel_rfl
  have h1 : ∀ (p q r : Int) (w : World), (part 3 #[.int .i64 p, .int .i64 q, .int .i64 r] 1).run Try.prog w = .ok (.int .i64 q) w := fun _ _ _ _ => by kernel_rfl
  have h2 : ∀ (p q r : Int) (w : World), (part 3 #[.int .i64 p, .int .i64 q, .int .i64 r] 2).run Try.prog w = .ok (.int .i64 r) w := fun _ _ _ _ => by kernel_rfl
  unfold Op.equalIn eq3B
  have hl : List.range' 0 3 = [0, 1, 2] := rfl
  simp only [Sem.run_bind, run_underlying Try.underlying22, Result.andThen_ok, hs, Std.Legacy.Range.forIn_eq_forIn_range', Std.Legacy.Range.size, Nat.sub_zero, Nat.add_sub_cancel, Nat.div_one, hl, List.forIn_cons, List.forIn_nil, Nat.mul_one, h0, h1, h2, run_equalIn_int _ _ _ _ _ _ _ Try.underlying3, Sem.run_ite]
  by_cases e0 : a = x <;> by_cases e1 : b = y <;> by_cases e2 : c = z <;> simp [e0, e1, e2, Result.andThen, h0, h1, h2, run_equalIn_int _ _ _ _ _ _ _ Try.underlying3]
theorem eq_step {P : Program} {d : Nat} {xs ys : Array Value} {f : Field} {fs : List Field} {w : World} {a b : Value} {r s : Bool} (hn : f.name ≠ "_") (ha : (part f.type xs f.offset).run P w = .ok a w) (hb : (part f.type ys f.offset).run P w = .ok b w)
    (hr : (Op.equalIn d f.type a b).run P w = .ok r w) (hs : (Op.eqFields d xs ys fs).run P w = .ok s w) : (Op.eqFields d xs ys (f :: fs)).run P w = .ok (r && s) w := by
  simp only [Op.eqFields, if_pos hn, Sem.run_bind, ha, hb, hr, Result.andThen_ok, Sem.run_ite, hs]
  cases r <;> simp
def calEqB (n m : ByteArray) (a0 a1 a2 a3 a4 a5 a6 a7 a8 a9 a10 a11 a12 : Int) (b0 b1 b2 b3 b4 b5 b6 b7 b8 b9 b10 b11 b12 : Int) : Bool := (n.toList == m.toList) && ((a0 == b0) && ((a1 == b1) && ((a2 == b2) && ((a3 == b3) && ((a4 == b4) && (eq3B a5 a6 a7 b5 b6 b7 && ((a8 == b8) && ((a9 == b9) && ((a10 == b10) && ((a11 == b11) && ((a12 == b12) && true)))))))))))
theorem cal_fields : (Try.prog.fieldsOf 24).toList = (match Try.prog.underlying 24 with | some (.struct fs) => fs | _ => #[]).toList := rfl
set_option maxHeartbeats 1000000 in
theorem run_calEq (n m : ByteArray) (a0 a1 a2 a3 a4 a5 a6 a7 a8 a9 a10 a11 a12 b0 b1 b2 b3 b4 b5 b6 b7 b8 b9 b10 b11 b12 : Int) (w : World) :
    (Op.equalIn 10000 24 (.agg #[.string n, .int .i64 a0, .int .i64 a1, .int .i64 a2, .int .i64 a3, .int .i64 a4, .int .i64 a5, .int .i64 a6, .int .i64 a7, .int .i64 a8, .int .i64 a9, .int .i64 a10, .int .i64 a11, .int .i64 a12]) (.agg #[.string m, .int .i64 b0, .int .i64 b1, .int .i64 b2, .int .i64 b3, .int .i64 b4, .int .i64 b5, .int .i64 b6, .int .i64 b7, .int .i64 b8, .int .i64 b9, .int .i64 b10, .int .i64 b11, .int .i64 b12])).run Try.prog w = .ok (calEqB n m a0 a1 a2 a3 a4 a5 a6 a7 a8 a9 a10 a11 a12 b0 b1 b2 b3 b4 b5 b6 b7 b8 b9 b10 b11 b12) w := by
  have hp : Try.prog.stoodInHeld 24 = false := by kernel_rfl
  have hu := Try.underlying24
  have hf : Try.prog.underlying 24 = some (.struct (Try.prog.fieldsOf 24)) := by unfold Program.fieldsOf; rw [hu]
  rw [show (10000 : Nat) = 9999 + 1 from rfl, run_equalIn_agg w 9999 _ _ _ hf hp, cal_fields, hu]
  unfold calEqB
  refine eq_step (by decide) (by kernel_rfl) (by kernel_rfl) (run_equalIn_string w 9998 _ _ _ Try.underlying9) ?_
  refine eq_step (by decide) (by kernel_rfl) (by kernel_rfl) (run_equalIn_int w 9998 _ .i64 .i64 _ _ Try.underlying3) ?_
  refine eq_step (by decide) (by kernel_rfl) (by kernel_rfl) (run_equalIn_int w 9998 _ .i64 .i64 _ _ Try.underlying3) ?_
  refine eq_step (by decide) (by kernel_rfl) (by kernel_rfl) (run_equalIn_int w 9998 _ .i64 .i64 _ _ Try.underlying3) ?_
  refine eq_step (by decide) (by kernel_rfl) (by kernel_rfl) (run_equalIn_int w 9998 _ .i64 .i64 _ _ Try.underlying3) ?_
  refine eq_step (by decide) (by kernel_rfl) (by kernel_rfl) (run_equalIn_int w 9998 _ .i64 .i64 _ _ Try.underlying3) ?_
  refine eq_step (by decide) (by kernel_rfl) (by kernel_rfl) (run_eq3 9997 _ _ _ _ _ _ w) ?_
  refine eq_step (by decide) (by kernel_rfl) (by kernel_rfl) (run_equalIn_int w 9998 _ .i64 .i64 _ _ Try.underlying3) ?_
  refine eq_step (by decide) (by kernel_rfl) (by kernel_rfl) (run_equalIn_int w 9998 _ .i64 .i64 _ _ Try.underlying3) ?_
  refine eq_step (by decide) (by kernel_rfl) (by kernel_rfl) (run_equalIn_int w 9998 _ .i64 .i64 _ _ Try.underlying3) ?_
  refine eq_step (by decide) (by kernel_rfl) (by kernel_rfl) (run_equalIn_int w 9998 _ .i64 .i64 _ _ Try.underlying3) ?_
  refine eq_step (by decide) (by kernel_rfl) (by kernel_rfl) (run_equalIn_int w 9998 _ .i64 .i64 _ _ Try.underlying3) ?_
  rfl
theorem run_eq3t (a b c x y z : Int) (w : World) : (Op.equalIn 10000 22 (.agg #[.int .i64 a, .int .i64 b, .int .i64 c]) (.agg #[.int .i64 x, .int .i64 y, .int .i64 z])).run Try.prog w = .ok (eq3B a b c x y z) w := run_eq3 9998 a b c x y z w
end Go.Proofs.Yteppoghpfcmhhaa
attribute [go_sem] Go.Proofs.Yteppoghpfcmhhaa.run_eq3t
