/- Plain law: what Jam and Root of naturals answer, by the numbers that the lists are. Conditions: the words are words, the lists are not longer than memory. -/
import Derived.Test.YtmoeaeflljpboaaNatLen
import Derived.Test.YtmoeaeflljpboaaNatTz
namespace Go.Proofs.Ytmoeaeflljpboaa.X
open Go Go.Rex
set_option linter.unusedVariables false

end Go.Proofs.Ytmoeaeflljpboaa.X
