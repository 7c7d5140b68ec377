/- Plain law: what layer 4's Check, Value, Abs and Neg answer, by the pattern's fields. Conditions: the format is one of the four, the pattern a word. -/
import Derived.Test.YtmoeaeflljpboaaDoorFmR
namespace Go.Proofs.YtmoeaeflljpboaaDoor.X
open Go Go.Rex
set_option linter.unusedVariables false

section
variable {f : Int} {W P : Nat} {em ex : Int} (h : Fm f W P em ex)
include h
theorem check_at (k a : Nat) (ha : a < 18446744073709551616) : format_Check k f (a : Int) = some (if a < 2 ^ W then 0 else 4) := by
  have := h.w64
  rw [format_Check_eq, params_at h]
  simp only [Option.bind_some]
  rw [if_neg (nF rfl)]
  by_cases c : W < 64
  · rw [if_pos (dT (by omega)), if_pos (by omega), shrK_nat a W (by omega)]
    by_cases ca : a < 2 ^ W
    · rw [Nat.div_eq_of_lt ca, if_neg (nF (x := ((0 : Nat) : Int)) (y := 0) rfl), if_pos ca]
    · have := Nat.div_pos (Nat.le_of_not_lt ca) (Nat.two_pow_pos W)
      rw [if_pos (nT (by omega)), if_neg ca]
  · have hW : W = 64 := by omega
    subst hW
    rw [if_neg (dF (by omega)), if_pos ha]
theorem split_at (k a : Nat) (ha : a < 18446744073709551616) (x y : Int) : format_split k (W : Int) (P : Int) x y (a : Int) = some ((((a / 2 ^ (W - 1) : Nat) : Int) != 0), (((a / 2 ^ (P - 1) % 2 ^ (W - P) : Nat) : Int), ((a % 2 ^ (P - 1) : Nat) : Int))) := by
  have h1 := h.w64; have h2 := h.p8; have h3 := h.wp; have h4 := h.p53
  have e1 : IntKind.i64.wrap ((W : Int) - 1) = ((W - 1 : Nat) : Int) := by rw [wrapI] <;> omega
  have e2 : IntKind.i64.wrap ((P : Int) - 1) = ((P - 1 : Nat) : Int) := by rw [wrapI] <;> omega
  have e3 : IntKind.i64.wrap ((W : Int) - (P : Int)) = ((W - P : Nat) : Int) := by rw [wrapI] <;> omega
  have hd : a / 2 ^ (P - 1) < 18446744073709551616 := Nat.lt_of_le_of_lt (Nat.div_le_self _ _) ha
  rw [format_split_eq, e1, e2, e3, if_pos (by omega), if_pos (by omega), ones_at k _ (by omega), ones_at k _ (by omega)]
  simp only [Option.bind_some]
  rw [shrK_nat a (W - 1) (by omega), shrK_nat a (P - 1) (by omega), andK_mask _ (W - P) (by omega) hd, andK_mask a (P - 1) (by omega) ha]
end
end Go.Proofs.YtmoeaeflljpboaaDoor.X
