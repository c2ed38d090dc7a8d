import Derived.Test.YtnjjihlknkmllaaRwH
namespace Go.Proofs.Ytnjjihlknkmllaa
set_option linter.unusedVariables false
set_option linter.unusedSimpArgs false
open Go.RowKit
set_option maxRecDepth 100000 in
set_option maxHeartbeats 2000000 in
theorem wideSums_any (xs : List Int) (a : Option Addr) (cap : Nat) (w : World) (hn : xs.length ≤ 9223372036854775807) (hx : ∀ k, k < xs.length → In (xs.getD k 0)) (hs : SlI .i64 w a xs) :
    Calls Try.prog 6 #[.slice a xs.length cap] w fun e w' => e = .returned (.bool true) ∧ Below w.heap.size w w' := by
  have A := Lib.hid (fun w hs => wsum_any xs a cap w hn hx hs)
  have B := Lib.hid (fun w hs => rsum_any xs a cap w hn hx hs)
  have HS := Lib.hid hs
  clear hx hs
  generalize capN (sumI xs) = v at *
  generalize errN (sumI xs) = u at *
  generalize xs.length = n at *
  by_cases h : 300 < (n : Int)
  · go_enter Try.func6, Try.ntmps6
    go_wp2_with fail
    refine (live2 _).mono ?_
    rintro e w1 ⟨rfl, hb1⟩
    go_wp2_with fail
    go_ret
    exact ⟨rfl, (by repeat (with_reducible (first | exact Below.refl _ _ | assumption | refine bl_alloc ?_ _ | refine bl_drewN ?_ _ | refine bl_drew ?_ | refine bl_call ?_ (by assumption) | (refine bl_setCell ?_ _ (Nat.le_refl _)) | (refine bl_setCell ?_ _ (by first | omega | (simp; done) | (simp; omega))))))⟩
  · go_enter Try.func6, Try.ntmps6
    go_wp2_with fail
    refine (live2 _).mono ?_
    rintro e w1 ⟨rfl, hb1⟩
    have s1 := Lib.hid (HS.out.go hb1)
    go_wp2_with fail
    refine (A.out _ s1.out).mono ?_
    rintro e w2 ⟨rfl, hb2⟩
    have s2 := Lib.hid (s1.out.go hb2)
    go_wp2_with fail
    refine (B.out _ s2.out).mono ?_
    rintro e w3 ⟨rfl, hb3⟩
    go_wp2
    go_ret
    exact ⟨ret_b (by first | rfl | (simp; done)), (by repeat (with_reducible (first | exact Below.refl _ _ | assumption | refine bl_alloc ?_ _ | refine bl_drewN ?_ _ | refine bl_drew ?_ | refine bl_call ?_ (by assumption) | (refine bl_setCell ?_ _ (Nat.le_refl _)) | (refine bl_setCell ?_ _ (by first | omega | (simp; done) | (simp; omega))))))⟩
end Go.Proofs.Ytnjjihlknkmllaa
