/- Contracts of the reference's chapter 2: MulDiv. -/
import Derived.Test.YtkejohmghacdhaaDoorRwJ
namespace Go.Proofs.YtkejohmghacdhaaDoor
set_option linter.unusedVariables false
set_option linter.unusedSimpArgs false
open Go.RowKit
end Go.Proofs.YtkejohmghacdhaaDoor
