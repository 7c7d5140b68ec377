/- Plain law: signs of integers. No conditions. -/
import Derived.Test.YtmoeaeflljpboaaDoorDyB
namespace Go.Proofs.YtmoeaeflljpboaaDoor.X
open Go Go.Rex
set_option linter.unusedVariables false

theorem sgn_zero {x : Int} : sgn x = 0 ↔ x = 0 := by
  unfold sgn
  by_cases c : x < 0
  · rw [if_pos c]; omega
  · rw [if_neg c]; split <;> omega
theorem sgn_lt {x : Int} : sgn x < 0 ↔ x < 0 := by
  unfold sgn
  by_cases c : x < 0
  · rw [if_pos c]; omega
  · rw [if_neg c]; split <;> omega
theorem sgn_gt {x : Int} : 0 < sgn x ↔ 0 < x := by
  unfold sgn
  by_cases c : x < 0
  · rw [if_pos c]; omega
  · rw [if_neg c]; split <;> omega
theorem tsgn_neg {x : Int} : (decide (sgn x < 0)) = decide (x < 0) := by
  rw [decide_eq_decide]; exact sgn_lt
end Go.Proofs.YtmoeaeflljpboaaDoor.X
