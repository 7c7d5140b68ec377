/- Plain law: rounding of the opposite number in the mirrored mode; the flags. No conditions beyond those that each states. -/
import Derived.Test.YtmoeaeflljpboaaDoorRnC
namespace Go.Proofs.YtmoeaeflljpboaaDoor.X
open Go Go.Rex
set_option linter.unusedVariables false

/-- The mode that does for the opposite number what m does. -/
def mir (m : Int) : Int := if m = 3 then 4 else if m = 4 then 3 else m
theorem ups_mir (m : Int) (neg odd : Bool) (l : Nat) : ups (mir m) (!neg) odd l = ups m neg odd l := by
  unfold ups mir
  by_cases c3 : m = 3
  · subst c3; simp
  · by_cases c4 : m = 4
    · subst c4; simp
    · simp [c3, c4]
theorem chs_mir (m : Int) (neg : Bool) (u l : Nat) : chs (mir m) (!neg) u l = chs m neg u l := by unfold chs; rw [ups_mir]
theorem cutN_mir (m : Int) (neg : Bool) (A B : Nat) : cutN (mir m) (!neg) A B = cutN m neg A B := chs_mir _ _ _ _
theorem rnd_mir (P : Nat) (m : Int) (neg : Bool) (A B : Nat) : rnd P (mir m) (!neg) A B = rnd P m neg A B := by unfold rnd; rw [cutN_mir]
theorem tinyB_mir (P : Nat) (m : Int) (neg : Bool) (A B : Nat) : tinyB P (mir m) (!neg) A B = tinyB P m neg A B := by unfold tinyB; rw [cutN_mir]
theorem toInf_mir (m : Int) (neg : Bool) : toInf (mir m) (!neg) = toInf m neg := by
  unfold toInf mir
  by_cases c3 : m = 3
  · subst c3; cases neg <;> decide
  · by_cases c4 : m = 4
    · subst c4; cases neg <;> decide
    · rw [if_neg c3, if_neg c4]
      have e3 : (m == 3) = false := beq_eq_false_iff_ne.2 c3
      have e4 : (m == 4) = false := beq_eq_false_iff_ne.2 c4
      rw [e3, e4]; simp
theorem kOut_mir (W P : Nat) (m : Int) (neg : Bool) (A B : Nat) : kOut W P (mir m) (!neg) A B = kOut W P m neg A B := by unfold kOut; rw [rnd_mir, toInf_mir]
theorem flags_mir (W P : Nat) (m : Int) (neg : Bool) (A B : Nat) : (rnOut W P (mir m) (!neg) A B).2 = (rnOut W P m neg A B).2 := by
  unfold rnOut
  rw [rnd_mir, tinyB_mir]
  split <;> rfl
/-- The flags that a rounding can raise. -/
theorem flags_are (W P : Nat) (m : Int) (neg : Bool) (A B : Nat) : ((rnOut W P m neg A B).2 = 20 ∧ infP W P ≤ rnd P m neg A B) ∨ ((rnOut W P m neg A B).2 = 0) ∨ ((rnOut W P m neg A B).2 = 24 ∧ tinyB P m neg A B = true) ∨ ((rnOut W P m neg A B).2 = 16) := by
  unfold rnOut
  by_cases c : infP W P ≤ rnd P m neg A B
  · rw [if_pos c]; exact .inl ⟨rfl, c⟩
  · rw [if_neg c]
    show (if lftP P A B = 0 then (0 : Int) else if tinyB P m neg A B then 24 else 16) = 20 ∧ _ ∨ _
    by_cases c2 : lftP P A B = 0
    · right; left; show (if lftP P A B = 0 then (0 : Int) else if tinyB P m neg A B then 24 else 16) = 0; rw [if_pos c2]
    · by_cases c3 : tinyB P m neg A B = true
      · right; right; left; refine ⟨?_, c3⟩; show (if lftP P A B = 0 then (0 : Int) else if tinyB P m neg A B then 24 else 16) = 24; rw [if_neg c2, if_pos c3]
      · right; right; right; show (if lftP P A B = 0 then (0 : Int) else if tinyB P m neg A B then 24 else 16) = 16; rw [if_neg c2, if_neg c3]
end Go.Proofs.YtmoeaeflljpboaaDoor.X
