/- Two equations of printed functions, by the sign of an exponent (the kernel does not end on them else). No conditions. -/
import Derived.Test.YtkpmladopkkfnaaDoorX
namespace Go.Proofs.YtkpmladopkkfnaaDoor.X
open Go Go.Rex
set_option maxRecDepth 100000
set_option linter.unusedVariables false

theorem vernierlaw05_fit_eq (k : Nat) (a0 : Bool) (a1 : List Int) (a2 : Int) : vernierlaw05_fit k a0 a1 a2 = (if decide ((a1.length : Int) > 200) then some (a0, (a1, (a2, false))) else (if decide (a2 < (-8000)) then some (a0, (a1, (a2, false))) else (if decide (a2 > 8000) then some (a0, (a1, (a2, false))) else ((vernierlaw05_twin k a1)).bind fun o0 => ((dyad_Canon k a0 o0 a2)).bind fun o1 => some (o1.1, (o1.2.1, (o1.2.2.1, (o1.2.2.2 == 0))))))) := by
  cases a2 <;> kernel_rfl
theorem vernierlaw05_RoundAgree_eq (k : Nat) (a0 : Int) (a1 : Int) (a2 : Bool) (a3 : Int) (a4 : Int) : vernierlaw05_RoundAgree k a0 a1 a2 a3 a4 = ((vernierlaw05_awake k)).bind fun o0 => (if !o0 then some false else (if decide (a0 < 0) then some true else (if decide (a0 > 3) then some true else (if decide (a1 < 0) then some true else (if decide (a1 > 5) then some true else (if a3 == 0 then some true else (if decide (a4 < (-8000)) then some true else (if decide (a4 > 8000) then some true else vernierlaw05_RoundAgree.j0 k a0 a1 a2 a3 a4)))))))) := by
  cases a4 <;> kernel_rfl
end Go.Proofs.YtkpmladopkkfnaaDoor.X
