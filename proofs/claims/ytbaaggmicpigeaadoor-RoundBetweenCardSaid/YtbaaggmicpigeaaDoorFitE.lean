/- Two equations of printed functions, by the sign of an exponent (the kernel does not end on them else). No conditions. -/
import Derived.Test.YtbaaggmicpigeaaDoorX
namespace Go.Proofs.YtbaaggmicpigeaaDoor.X
open Go Go.Rex
set_option maxRecDepth 100000
set_option linter.unusedVariables false

theorem vernierlaw05_fit_eq (k : Nat) (a0 : Bool) (a1 : List Int) (a2 : Int) : vernierlaw05_fit k a0 a1 a2 = (if decide ((a1.length : Int) > 200) then some (a0, (a1, (a2, false))) else (if decide (a2 < (-8000)) then some (a0, (a1, (a2, false))) else (if decide (a2 > 8000) then some (a0, (a1, (a2, false))) else ((vernierlaw05_twin k a1)).bind fun o0 => ((dyad_Canon k a0 o0 a2)).bind fun o1 => some (o1.1, (o1.2.1, (o1.2.2.1, (o1.2.2.2 == 0))))))) := by
  cases a2 <;> kernel_rfl
end Go.Proofs.YtbaaggmicpigeaaDoor.X
