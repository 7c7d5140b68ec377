/- Plain law: layer 3's odd and raised. Conditions: the words are words, the lists are not longer than memory. -/
import Derived.Test.YtbaaggmicpigeaaDoorNatTz
import Derived.Test.YtbaaggmicpigeaaDoorDyRaise
namespace Go.Proofs.YtbaaggmicpigeaaDoor.X
open Go Go.Rex
set_option linter.unusedVariables false

/-! ### raised -/
/-! ### odd -/
end Go.Proofs.YtbaaggmicpigeaaDoor.X
