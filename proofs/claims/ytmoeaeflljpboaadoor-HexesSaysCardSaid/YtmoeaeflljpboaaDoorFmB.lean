/- Plain law: what layer 4's Value answers, by the pattern's fields: a natural and an exponent; a pattern's place in the order. Conditions: the pattern is of the format. -/
import Derived.Test.YtmoeaeflljpboaaDoorFmA
import Derived.Test.YtmoeaeflljpboaaDoorDyB
namespace Go.Proofs.YtmoeaeflljpboaaDoor.X
open Go Go.Rex
set_option linter.unusedVariables false

/-- The natural of a finite pattern without its sign, at the format's lowest place. -/
def fN (P E F : Nat) : Nat := if E = 0 then F else F + 2 ^ (P - 1)
def fQ (E : Nat) : Nat := if E = 0 then 0 else E - 1
section
variable {f : Int} {W P : Nat} {em ex : Int} (h : Fm f W P em ex)
include h
theorem fN_lt {E F : Nat} (hF : F < 2 ^ (P - 1)) : fN P E F < 18446744073709551616 := by
  have h1 := h.w64; have h2 := h.p8; have h3 := h.wp
  have : 2 ^ (P - 1 + 1) ≤ 18446744073709551616 := pow_mono2 (b := 64) (by omega)
  rw [Nat.pow_succ] at this
  unfold fN
  split <;> omega
/-- A pattern's number, at the format's lowest place. -/
def pM (P E F : Nat) : Nat := fN P E F * 2 ^ fQ E
end
/-- The order of patterns without a sign is that of their numbers. -/
theorem order_lt {P x y : Nat} (hx : x < y) : fN P (x / 2 ^ (P - 1)) (x % 2 ^ (P - 1)) * 2 ^ fQ (x / 2 ^ (P - 1)) < fN P (y / 2 ^ (P - 1)) (y % 2 ^ (P - 1)) * 2 ^ fQ (y / 2 ^ (P - 1)) := by
  have hp : 0 < 2 ^ (P - 1) := Nat.two_pow_pos _
  have dx := Nat.div_add_mod x (2 ^ (P - 1))
  have dy := Nat.div_add_mod y (2 ^ (P - 1))
  have fx := Nat.mod_lt x hp
  have fy := Nat.mod_lt y hp
  have hE : x / 2 ^ (P - 1) ≤ y / 2 ^ (P - 1) := Nat.div_le_div_right (Nat.le_of_lt hx)
  unfold fN
  generalize x / 2 ^ (P - 1) = E at *
  generalize y / 2 ^ (P - 1) = G at *
  generalize x % 2 ^ (P - 1) = F at *
  generalize y % 2 ^ (P - 1) = H at *
  generalize 2 ^ (P - 1) = T at *
  have key : ∀ (E F : Nat), F < T → (if E = 0 then F else F + T) * 2 ^ fQ E < 2 * T * 2 ^ fQ E ∧ (E ≠ 0 → T * 2 ^ fQ E ≤ (if E = 0 then F else F + T) * 2 ^ fQ E) := by
    intro E F hF
    refine ⟨Nat.mul_lt_mul_of_pos_right (by split <;> omega) (Nat.two_pow_pos _), fun he => Nat.mul_le_mul_right _ (by rw [if_neg he]; omega)⟩
  rcases Nat.lt_or_ge E G with hlt | hge
  · have k1 := (key E F fx).1
    have k2 := (key G H fy).2 (by omega)
    have k3 : 2 * T * 2 ^ fQ E ≤ T * 2 ^ fQ G ∨ (E = 0) := by
      by_cases h0 : E = 0
      · exact .inr h0
      · left
        have : 2 ^ fQ E * 2 ≤ 2 ^ fQ G := by rw [← Nat.pow_succ]; exact pow_mono2 (by unfold fQ; rw [if_neg h0, if_neg (by omega)]; omega)
        have := Nat.mul_le_mul_left T this
        have e : T * (2 ^ fQ E * 2) = 2 * T * 2 ^ fQ E := by grind
        omega
    rcases k3 with k3 | k3
    · omega
    · subst k3
      have : fQ 0 = 0 := rfl
      rw [if_pos rfl, this, Nat.pow_zero, Nat.mul_one]
      have h1 : T * 1 ≤ T * 2 ^ fQ G := Nat.mul_le_mul_left _ (Nat.two_pow_pos _)
      omega
  · have : E = G := by omega
    subst this
    refine Nat.mul_lt_mul_of_pos_right ?_ (Nat.two_pow_pos _)
    split <;> omega
end Go.Proofs.YtmoeaeflljpboaaDoor.X
