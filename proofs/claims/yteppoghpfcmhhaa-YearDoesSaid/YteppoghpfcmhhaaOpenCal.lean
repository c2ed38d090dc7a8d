/- A calendar that comes in, opened. -/
import Derived.Test.YteppoghpfcmhhaaFrame
import Derived.Test.YteppoghpfcmhhaaAncLive
import Derived.Laws.IdiomArrays
namespace Go.Proofs.Yteppoghpfcmhhaa
set_option linter.unusedVariables false
set_option linter.unusedSimpArgs false
open Go.ChangeShapes Go.WideShapes Go.ChangeAt Go.RowKit
theorem cellsCal : Try.prog.cellsOf 24 = 14 := by kernel_rfl
theorem cellsStr : Try.prog.cellsOf 9 = 1 := by kernel_rfl
theorem cellsInt : Try.prog.cellsOf 3 = 1 := by kernel_rfl
theorem cellsPat : Try.prog.cellsOf 22 = 3 := by kernel_rfl
theorem open_cal {H : Type} {enc : TypeId × Value → H} {W : World} {base : Nat} {spare : Nat → Bool} {held : Bool} {r : Reach} {b0 : Nat} {v : Value} {d : DataW H} {p : List MemPlace}
    (hv : Value.okWide Try.prog W r b0 24 v) (h : DataW.Trod enc Try.prog W base spare held 24 v d p) : ∃ c : CalI, v = calA c ∧ CalOk c := by
  obtain ⟨cs, rfl, hsz⟩ := okWide_struct Try.underlying24 hv
  obtain ⟨l⟩ := cs
  match l, hsz.trans cellsCal with
  | [c0, c1, c2, c3, c4, c5, c6, c7, c8, c9, c10, c11, c12, c13], _ =>
    obtain ⟨fuel, hf⟩ := h
    obtain ⟨xs, n, _, hx, _, hlen, hg⟩ := DataW.trod_struct Try.underlying24 hf
    match xs, hlen with
    | [y0, y1, y2, y3, y4, y5, y6, y7, y8, y9, y10, y11], _ =>
      have q0 : DataW.trod enc Try.prog W base spare held n 9 (([c0, c1, c2, c3, c4, c5, c6, c7, c8, c9, c10, c11, c12, c13].drop 0).take (Try.prog.cellsOf 9)) = some y0 := hg 0 _ rfl
      rw [cellsStr] at q0
      have g0 : DataW.trod enc Try.prog W base spare held n 9 [c0] = some y0 := q0
      obtain ⟨nm, e0, _, w0⟩ := DataW.trod_string Try.underlying9 g0
      have q1 : DataW.trod enc Try.prog W base spare held n 3 (([c0, c1, c2, c3, c4, c5, c6, c7, c8, c9, c10, c11, c12, c13].drop 1).take (Try.prog.cellsOf 3)) = some y1 := hg 1 _ rfl
      rw [cellsInt] at q1
      have g1 : DataW.trod enc Try.prog W base spare held n 3 [c1] = some y1 := q1
      obtain ⟨a1, e1, _, w1⟩ := DataW.trod_int Try.underlying3 g1
      have q2 : DataW.trod enc Try.prog W base spare held n 3 (([c0, c1, c2, c3, c4, c5, c6, c7, c8, c9, c10, c11, c12, c13].drop 2).take (Try.prog.cellsOf 3)) = some y2 := hg 2 _ rfl
      rw [cellsInt] at q2
      have g2 : DataW.trod enc Try.prog W base spare held n 3 [c2] = some y2 := q2
      obtain ⟨a2, e2, _, w2⟩ := DataW.trod_int Try.underlying3 g2
      have q3 : DataW.trod enc Try.prog W base spare held n 3 (([c0, c1, c2, c3, c4, c5, c6, c7, c8, c9, c10, c11, c12, c13].drop 3).take (Try.prog.cellsOf 3)) = some y3 := hg 3 _ rfl
      rw [cellsInt] at q3
      have g3 : DataW.trod enc Try.prog W base spare held n 3 [c3] = some y3 := q3
      obtain ⟨a3, e3, _, w3⟩ := DataW.trod_int Try.underlying3 g3
      have q4 : DataW.trod enc Try.prog W base spare held n 3 (([c0, c1, c2, c3, c4, c5, c6, c7, c8, c9, c10, c11, c12, c13].drop 4).take (Try.prog.cellsOf 3)) = some y4 := hg 4 _ rfl
      rw [cellsInt] at q4
      have g4 : DataW.trod enc Try.prog W base spare held n 3 [c4] = some y4 := q4
      obtain ⟨a4, e4, _, w4⟩ := DataW.trod_int Try.underlying3 g4
      have q5 : DataW.trod enc Try.prog W base spare held n 3 (([c0, c1, c2, c3, c4, c5, c6, c7, c8, c9, c10, c11, c12, c13].drop 5).take (Try.prog.cellsOf 3)) = some y5 := hg 5 _ rfl
      rw [cellsInt] at q5
      have g5 : DataW.trod enc Try.prog W base spare held n 3 [c5] = some y5 := q5
      obtain ⟨a5, e5, _, w5⟩ := DataW.trod_int Try.underlying3 g5
      have q6 : DataW.trod enc Try.prog W base spare held n 22 (([c0, c1, c2, c3, c4, c5, c6, c7, c8, c9, c10, c11, c12, c13].drop 6).take (Try.prog.cellsOf 22)) = some y6 := hg 6 _ rfl
      rw [cellsPat] at q6
      have g6 : DataW.trod enc Try.prog W base spare held n 22 [c6, c7, c8] = some y6 := q6
      obtain ⟨z0, z1, z2, m, _, p0, p1, p2⟩ := trod_array3 Try.underlying22 cellsInt g6
      have q7 : DataW.trod enc Try.prog W base spare held n 3 (([c0, c1, c2, c3, c4, c5, c6, c7, c8, c9, c10, c11, c12, c13].drop 9).take (Try.prog.cellsOf 3)) = some y7 := hg 7 _ rfl
      rw [cellsInt] at q7
      have g7 : DataW.trod enc Try.prog W base spare held n 3 [c9] = some y7 := q7
      obtain ⟨a9, e9, _, w9⟩ := DataW.trod_int Try.underlying3 g7
      have q8 : DataW.trod enc Try.prog W base spare held n 3 (([c0, c1, c2, c3, c4, c5, c6, c7, c8, c9, c10, c11, c12, c13].drop 10).take (Try.prog.cellsOf 3)) = some y8 := hg 8 _ rfl
      rw [cellsInt] at q8
      have g8 : DataW.trod enc Try.prog W base spare held n 3 [c10] = some y8 := q8
      obtain ⟨a10, e10, _, w10⟩ := DataW.trod_int Try.underlying3 g8
      have q9 : DataW.trod enc Try.prog W base spare held n 3 (([c0, c1, c2, c3, c4, c5, c6, c7, c8, c9, c10, c11, c12, c13].drop 11).take (Try.prog.cellsOf 3)) = some y9 := hg 9 _ rfl
      rw [cellsInt] at q9
      have g9 : DataW.trod enc Try.prog W base spare held n 3 [c11] = some y9 := q9
      obtain ⟨a11, e11, _, w11⟩ := DataW.trod_int Try.underlying3 g9
      have q10 : DataW.trod enc Try.prog W base spare held n 3 (([c0, c1, c2, c3, c4, c5, c6, c7, c8, c9, c10, c11, c12, c13].drop 12).take (Try.prog.cellsOf 3)) = some y10 := hg 10 _ rfl
      rw [cellsInt] at q10
      have g10 : DataW.trod enc Try.prog W base spare held n 3 [c12] = some y10 := q10
      obtain ⟨a12, e12, _, w12⟩ := DataW.trod_int Try.underlying3 g10
      have q11 : DataW.trod enc Try.prog W base spare held n 3 (([c0, c1, c2, c3, c4, c5, c6, c7, c8, c9, c10, c11, c12, c13].drop 13).take (Try.prog.cellsOf 3)) = some y11 := hg 11 _ rfl
      rw [cellsInt] at q11
      have g11 : DataW.trod enc Try.prog W base spare held n 3 [c13] = some y11 := q11
      obtain ⟨a13, e13, _, w13⟩ := DataW.trod_int Try.underlying3 g11
      obtain ⟨a6, e6, _, w6⟩ := DataW.trod_int Try.underlying3 p0
      obtain ⟨a7, e7, _, w7⟩ := DataW.trod_int Try.underlying3 p1
      obtain ⟨a8, e8, _, w8⟩ := DataW.trod_int Try.underlying3 p2
      simp only [List.cons.injEq, and_true] at e0 e1 e2 e3 e4 e5 e6 e7 e8 e9 e10 e11 e12 e13
      subst e0 e1 e2 e3 e4 e5 e6 e7 e8 e9 e10 e11 e12 e13
      exact ⟨⟨nm, a1, a2, a3, a4, a5, a6, a7, a8, a9, a10, a11, a12, a13⟩, rfl, w0, In_of_wf w1, In_of_wf w2, In_of_wf w3, In_of_wf w4, In_of_wf w5, In_of_wf w6, In_of_wf w7, In_of_wf w8, In_of_wf w9, In_of_wf w10, In_of_wf w11, In_of_wf w12, In_of_wf w13⟩
end Go.Proofs.Yteppoghpfcmhhaa
