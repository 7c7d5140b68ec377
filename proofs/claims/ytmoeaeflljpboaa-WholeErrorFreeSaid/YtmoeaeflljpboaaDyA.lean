/- Plain law: layer 3's odd and raised. Conditions: the words are words, the lists are not longer than memory. -/
import Derived.Test.YtmoeaeflljpboaaNatTz
import Derived.Test.YtmoeaeflljpboaaDyRaise
namespace Go.Proofs.Ytmoeaeflljpboaa.X
open Go Go.Rex
set_option linter.unusedVariables false

/-! ### raised -/
/-! ### odd -/
end Go.Proofs.Ytmoeaeflljpboaa.X
