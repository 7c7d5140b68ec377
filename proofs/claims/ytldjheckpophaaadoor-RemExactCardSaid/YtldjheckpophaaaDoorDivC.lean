/- Plain law: layer 8's law: awake and cut. Conditions: the format is one of the four. -/
import Derived.Test.YtldjheckpophaaaDoorDivA
namespace Go.Proofs.YtldjheckpophaaaDoor.X
open Go Go.Rex
set_option linter.unusedVariables false

section
variable {f : Int} {W P : Nat} {em ex : Int} (h : Fm f W P em ex)
include h
end
end Go.Proofs.YtldjheckpophaaaDoor.X
