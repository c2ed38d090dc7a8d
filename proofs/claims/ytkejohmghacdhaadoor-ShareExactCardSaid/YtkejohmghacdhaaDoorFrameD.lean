/- From a walk of a law over the listed table to what the row asks; the card's last facts. -/
import Derived.Test.YtkejohmghacdhaaDoorFrame
import Derived.Test.YtkejohmghacdhaaDoorGcdA
import Derived.LaidMore
import Derived.Lib.LaidTab
import Derived.Stop.Joined
import Derived.SevenTiedAt
namespace Go.Proofs.YtkejohmghacdhaaDoor
set_option linter.unusedVariables false
set_option linter.unusedSimpArgs false
open Go.ChangeShapes Go.WideShapes Go.ChangeAt Go.RowKit
abbrev laidD : List (String × DataW Unit) := [("math/bits.deBruijn64tab", Rows.laid_math_bits_deBruijn64tab)]
theorem gTab : Tryd.prog.globalNamed "math/bits.deBruijn64tab" = some 0 := by kernel_rfl
theorem door_met (os : Os) (args : Array Value) : laidMetH Tryd.prog laidD ((World.doorLaid Tryd.prog 400 os).forCall (fun _ _ => 0) ⟨#[], args, []⟩).memory :=
  laidMetH_of_parts3 (fuel := 8) (laidMet_of_run' 8 (by kernel_rfl) (by kernel_rfl)) (by kernel_rfl) (by kernel_rfl)
theorem tab_of_laid {W : World} (h : laidMetH Tryd.prog laidD W) : Tab W := by
  rw [MakeChecks.laidMetH_plain _ _ _ (by kernel_rfl)] at h
  have h' : laidMet Tryd.prog [("math/bits.deBruijn64tab", Lib.tabData .u8 (Lib.deBruijn64tab.map Int.ofNat))] W := h
  have t := Lib.tabIs_of_head (n := 64) gTab (by kernel_rfl) (show Tryd.prog.underlying 108 = some (.array 64 5) by kernel_rfl) (show Tryd.prog.underlying 5 = some (.int .u8) by kernel_rfl) (by kernel_rfl) (by kernel_rfl) h'
  intro j hj
  have := t.cell gTab j (by simpa [Lib.deBruijn64tab] using hj)
  rw [this]
  simp only [List.getD, List.getElem?_map]
  rcases h : Lib.deBruijn64tab[j]? with _ | v <;> simp
theorem stand_of_all {P : Program} {fn : Func} (h : (fn.params.toList.all fun t => !P.wantsStandIn t) = true) : ∀ (j : Nat) t, fn.params[j]? = some t → P.wantsStandIn t = false := fun j t ht => by
  have := List.all_eq_true.1 h t (by rw [← Array.getElem?_toList] at ht; exact List.mem_of_getElem? ht)
  simpa using this
end Go.Proofs.YtkejohmghacdhaaDoor
