/- Plain law: where Overflow and Underflow are raised, the number lies where the law says. Conditions: the format is one of the four. -/
import Derived.Test.YtkpmladopkkfnaaDoorRoG
namespace Go.Proofs.YtkpmladopkkfnaaDoor.X
open Go Go.Rex
set_option linter.unusedVariables false

section
variable {f : Int} {W P : Nat} {em ex : Int} (h : Fm f W P em ex)
include h
theorem plV_most : plV P (infP W P - 1) = (2 ^ P - 1) * 2 ^ (eTop W P - 2) := by
  have h8 := h.p8
  have ht := (eTop_le h).2
  have hp := pow_half (show 1 ≤ P by omega)
  have hpp := Nat.two_pow_pos (P - 1)
  have e : infP W P - 1 = (eTop W P - 2) * 2 ^ (P - 1) + (2 ^ P - 1) := by
    unfold infP
    obtain ⟨t, ht'⟩ : ∃ t, eTop W P = t + 2 := ⟨eTop W P - 2, by omega⟩
    rw [ht', Nat.add_sub_cancel, Nat.add_mul]; omega
  rw [e]
  exact plV_at (by omega) (.inr (by omega)) (by omega)
theorem over_cmp {m : Int} {s : Bool} {n : Nat} {g b : Int} (h1 : b ≤ g) (h2 : b ≤ ex - (P : Int) + 1) (hi : infP W P ≤ rnd P m s (rA n g (em - (P : Int) + 1)) (rB 1 g (em - (P : Int) + 1))) : (2 ^ P - 1) * p2 (ex - (P : Int) + 1 - b) < n * p2 (g - b) := by
  refine Nat.lt_of_not_le fun hc => ?_
  have h8 := h.p8; have m0 := h.m0; have m1 := h.m1
  obtain ⟨x1, x2, x3⟩ := fm_ex h
  have ro := r_order (em - (P : Int) + 1) h1 h2 hc
  have mo := rnd_mono (P := P) (by omega) (rB_pos (by decide) _ _) (rB_pos (by decide) _ _) m s ro
  have eA : rA (2 ^ P - 1) (ex - (P : Int) + 1) (em - (P : Int) + 1) = plV P (infP W P - 1) * 1 := by
    rw [plV_most h, Nat.mul_one]
    unfold rA
    rw [show ex - (P : Int) + 1 - (em - (P : Int) + 1) = ((eTop W P - 2 : Nat) : Int) by omega, p2_nat]
  have eB : rB 1 (ex - (P : Int) + 1) (em - (P : Int) + 1) = 1 := by unfold rB; rw [p2_neg (by omega)]
  obtain ⟨i1, i2, i3⟩ : 31 ≤ infP W P ∧ True ∧ True := ⟨by
    have := (eTop_le h).2
    exact Nat.le_trans this (Nat.le_mul_of_pos_right _ (Nat.two_pow_pos _)), trivial, trivial⟩
  rw [eA, eB, (rnd_exact (P := P) (k := infP W P - 1) (by omega) (by decide) m s).1] at mo
  omega
theorem tiny_cmp {m : Int} {s : Bool} {n : Nat} {g b : Int} (h1 : b ≤ g) (h2 : b ≤ em) (ht : tinyB P m s (rA n g (em - (P : Int) + 1)) (rB 1 g (em - (P : Int) + 1)) = true) : n * p2 (g - b) < 1 * p2 (em - b) := by
  have h8 := h.p8
  refine Nat.lt_of_not_le fun hc => ?_
  have ro := r_order (em - (P : Int) + 1) h2 h1 hc
  have eA : rA 1 em (em - (P : Int) + 1) = 2 ^ (P - 1) := by
    unfold rA
    rw [show em - (em - (P : Int) + 1) = ((P - 1 : Nat) : Int) by omega, p2_nat, Nat.one_mul]
  have eB : rB 1 em (em - (P : Int) + 1) = 1 := by unfold rB; rw [p2_neg (by omega)]
  rw [eA, eB, Nat.mul_one] at ro
  unfold tinyB at ht
  have h3 := of_decide_eq_true (Bool.and_eq_true_iff.1 ht).1
  rw [Nat.mul_comm] at ro
  omega
end
end Go.Proofs.YtkpmladopkkfnaaDoor.X
