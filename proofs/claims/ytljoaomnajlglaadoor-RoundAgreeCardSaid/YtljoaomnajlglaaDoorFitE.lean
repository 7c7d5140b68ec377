/- Two equations of printed functions, by the sign of an exponent (the kernel does not end on them else). No conditions. -/
import Derived.Test.YtljoaomnajlglaaDoorX
namespace Go.Proofs.YtljoaomnajlglaaDoor.X
open Go Go.Rex
set_option maxRecDepth 100000
set_option linter.unusedVariables false

theorem vernierlaw05_RoundAgree_eq (k : Nat) (a0 : Int) (a1 : Int) (a2 : Bool) (a3 : Int) (a4 : Int) : vernierlaw05_RoundAgree k a0 a1 a2 a3 a4 = ((vernierlaw05_awake k)).bind fun o0 => (if !o0 then some false else (if decide (a0 < 0) then some true else (if decide (a0 > 3) then some true else (if decide (a1 < 0) then some true else (if decide (a1 > 5) then some true else (if a3 == 0 then some true else (if decide (a4 < (-8000)) then some true else (if decide (a4 > 8000) then some true else vernierlaw05_RoundAgree.j0 k a0 a1 a2 a3 a4)))))))) := by
  cases a4 <;> kernel_rfl
end Go.Proofs.YtljoaomnajlglaaDoor.X
