/- Plain law: layer 8's division, by the classes of both operands. Conditions: the format is among the four, the mode is one of the six. -/
import Derived.Test.YtldjheckpophaaaDoorRnC
namespace Go.Proofs.YtldjheckpophaaaDoor.X
open Go Go.Rex
set_option linter.unusedVariables false

/-- A quotient by the classes c and d; r where both are numbers. -/
def dvR (c d N I Z : Int) (r : Int × Int × Int) : Int × Int × Int :=
  if c = 0 ∨ d = 0 then (N, 1, 0) else if c = 1 ∨ d = 1 then (N, 0, 0)
  else if ((c = 2 ∨ c = 9) ∧ (d = 2 ∨ d = 9)) ∨ ((c = 5 ∨ c = 6) ∧ (d = 5 ∨ d = 6)) then (N, 1, 0)
  else if c = 2 ∨ c = 9 then (I, 0, 0) else if d = 5 ∨ d = 6 then (I, 2, 0) else if d = 2 ∨ d = 9 then (Z, 0, 0) else if c = 5 ∨ c = 6 then (Z, 0, 0) else r
theorem cls_cases {W P p : Nat} {neg : Bool} (hp2 : 0 < 2 ^ (P - 2)) : ∃ c, clsOf W P p neg = c ∧ (c = 0 ∨ c = 1 ∨ (c = 2 ∧ neg = true) ∨ (c = 9 ∧ neg = false) ∨ (c = 5 ∧ neg = true) ∨ (c = 6 ∧ neg = false) ∨ (c = 3 ∧ neg = true ∧ p ≠ 0 ∧ p < infP W P) ∨ (c = 4 ∧ neg = true ∧ p ≠ 0 ∧ p < infP W P) ∨ (c = 7 ∧ neg = false ∧ p ≠ 0 ∧ p < infP W P) ∨ (c = 8 ∧ neg = false ∧ p ≠ 0 ∧ p < infP W P)) := by
  refine ⟨_, rfl, ?_⟩
  unfold clsOf
  by_cases c1 : infP W P + 2 ^ (P - 2) ≤ p
  · rw [if_pos c1]; omega
  · rw [if_neg c1]
    by_cases c2 : infP W P < p
    · rw [if_pos c2]; omega
    · rw [if_neg c2]
      cases neg
      · rw [if_neg (by simp)]
        by_cases c3 : p = infP W P
        · rw [if_pos c3]; simp
        · rw [if_neg c3]
          by_cases c4 : p = 0
          · rw [if_pos c4]; simp
          · rw [if_neg c4]
            have : p < infP W P := by omega
            split <;> simp [c4, this]
      · rw [if_pos rfl]
        by_cases c3 : p = infP W P
        · rw [if_pos c3]; simp
        · rw [if_neg c3]
          by_cases c4 : p = 0
          · rw [if_pos c4]; simp
          · rw [if_neg c4]
            have : p < infP W P := by omega
            split <;> simp [c4, this]
section
variable {f : Int} {W P : Nat} {em ex : Int} (h : Fm f W P em ex)
include h
end
end Go.Proofs.YtldjheckpophaaaDoor.X
