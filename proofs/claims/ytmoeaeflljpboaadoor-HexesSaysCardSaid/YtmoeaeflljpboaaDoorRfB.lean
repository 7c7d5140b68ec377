/- Plain law: the reference's division, bit by bit: quotient and remainder. Conditions: the words are words, the lists are not longer than memory. -/
import Derived.Test.YtmoeaeflljpboaaDoorRfA
namespace Go.Proofs.YtmoeaeflljpboaaDoor.X
open Go Go.Rex
set_option linter.unusedVariables false

end Go.Proofs.YtmoeaeflljpboaaDoor.X
