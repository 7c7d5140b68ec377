/- Plain law: signs of integers; what a cut moves. -/
import Derived.Test.YtldjheckpophaaaDoorWhE
namespace Go.Proofs.YtldjheckpophaaaDoor.X
open Go Go.Rex
set_option linter.unusedVariables false

theorem sgn_zero {x : Int} : sgn x = 0 ↔ x = 0 := by
  unfold sgn
  by_cases c : x < 0
  · rw [if_pos c]; omega
  · rw [if_neg c]; split <;> omega
theorem sgn_lt {x : Int} : sgn x < 0 ↔ x < 0 := by
  unfold sgn
  by_cases c : x < 0
  · rw [if_pos c]; omega
  · rw [if_neg c]; split <;> omega
theorem sgn_gt {x : Int} : 0 < sgn x ↔ 0 < x := by
  unfold sgn
  by_cases c : x < 0
  · rw [if_pos c]; omega
  · rw [if_neg c]; split <;> omega
/-- What a cut moves. -/
theorem cut_delta (m : Int) (s : Bool) (V : Nat) {D : Nat} (hD : 0 < D) : V % D < D ∧
    ((cutN m s V D * D + V % D = V ∧ (V % D = 0 ∨ ups m s (cutN m s V D % 2 == 1) (lft (V % D) D) = false)) ∨
     (cutN m s V D * D + V % D = V + D ∧ V % D ≠ 0 ∧ ups m s (cutN m s V D % 2 == 0) (lft (V % D) D) = true)) := by
  have h1 := Nat.div_add_mod V D
  have h2 := Nat.mod_lt V hD
  refine ⟨h2, ?_⟩
  unfold cutN chs
  by_cases c : 0 < lft (V % D) D ∧ ups m s (V / D % 2 == 1) (lft (V % D) D) = true
  · rw [if_pos c]
    right
    have hr : V % D ≠ 0 := fun e => by have := lft_zero (r := V % D) (d := D) |>.2 e; omega
    refine ⟨by rw [Nat.add_mul, Nat.mul_comm (V / D) D]; omega, hr, ?_⟩
    have : ((V / D + 1) % 2 == 0) = (V / D % 2 == 1) := by
      by_cases g : V / D % 2 = 1
      · rw [g, show (V / D + 1) % 2 = 0 by omega]; rfl
      · rw [show V / D % 2 = 0 by omega, show (V / D + 1) % 2 = 1 by omega]; rfl
    rw [this]; exact c.2
  · rw [if_neg c]
    left
    refine ⟨by rw [Nat.mul_comm (V / D) D]; omega, ?_⟩
    by_cases hr : V % D = 0
    · exact .inl hr
    · right
      have : 0 < lft (V % D) D := Nat.pos_of_ne_zero fun e => hr (lft_zero.1 e)
      cases hu : ups m s (V / D % 2 == 1) (lft (V % D) D)
      · rfl
      · exact absurd ⟨this, hu⟩ c
end Go.Proofs.YtldjheckpophaaaDoor.X
