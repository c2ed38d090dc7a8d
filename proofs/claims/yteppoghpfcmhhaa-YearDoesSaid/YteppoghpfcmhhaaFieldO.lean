/- Contract of the reference's chapter 11: whether a calendar may be. -/
import Derived.Test.YteppoghpfcmhhaaFieldL
import Derived.Test.YteppoghpfcmhhaaFieldM
import Derived.Test.YteppoghpfcmhhaaFieldN
import Derived.Test.YteppoghpfcmhhaaFieldP
namespace Go.Proofs.Yteppoghpfcmhhaa
set_option linter.unusedVariables false
set_option linter.unusedSimpArgs false
open Go.RowKit
theorem r11check_any (c : CalI) (w : World) (hs : c.name.size ≤ maxLen) :
    Calls Try.prog 43 #[calA c] w fun e w' => e = .returned (.int .i64 (argE (calB c))) ∧ Below w.heap.size w w' := by
  by_cases hk : nameB c.name = true ∧ 1602 ≤ c.first ∧ c.last ≤ 9996 ∧ c.first ≤ c.last ∧ c.last - c.first < 400 ∧ 1 ≤ c.policy ∧ c.policy ≤ 4 ∧ ((c.policy == 4) == (c.kind == 6)) = true
  · by_cases h : c.kind < 1 ∨ 6 < c.kind
    · exact rcheck_e c w hs hk h
    have h' : c.kind = 1 ∨ c.kind = 2 ∨ c.kind = 3 ∨ c.kind = 4 ∨ c.kind = 5 ∨ c.kind = 6 := by omega
    rcases h' with h | h | h | h | h | h
    · exact rcheck_1 c w hs hk h
    · exact rcheck_2 c w hs hk h
    · exact rcheck_3 c w hs hk h
    · exact rcheck_4 c w hs hk h
    · exact rcheck_5 c w hs hk h
    · exact rcheck_6 c w hs hk h
  · exact rcheck_no c w hs hk
end Go.Proofs.Yteppoghpfcmhhaa
