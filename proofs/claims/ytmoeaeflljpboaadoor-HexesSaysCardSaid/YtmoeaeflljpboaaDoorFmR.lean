/- Plain law: the formats' rows, as layer 4 has them. Conditions: the format is one of the four. -/
import Derived.Test.YtmoeaeflljpboaaDoorNatA
namespace Go.Proofs.YtmoeaeflljpboaaDoor.X
open Go Go.Rex
set_option linter.unusedVariables false

/-- A format: width, precision, least exponent. -/
structure Fm (f : Int) (W P : Nat) (em ex : Int) : Prop where
  f0 : 0 ≤ f
  f4 : f < 4
  row : rowsT.getD f.toNat (0, (0, (0, 0))) = ((W : Int), ((P : Int), (em, ex)))
  p8 : 8 ≤ P
  p53 : P ≤ 53
  wp : P + 5 ≤ W
  wp11 : W ≤ P + 11
  w64 : W ≤ 64
  m0 : -1022 ≤ em
  m1 : em ≤ -14
theorem fm_of {f : Int} (h0 : 0 ≤ f) (h4 : f < 4) : ∃ W P em ex, Fm f W P em ex := by
  have : f = 0 ∨ f = 1 ∨ f = 2 ∨ f = 3 := by omega
  rcases this with rfl | rfl | rfl | rfl
  · exact ⟨16, 11, -14, 15, by decide, by decide, rfl, by decide, by decide, by decide, by decide, by decide, by decide, by decide⟩
  · exact ⟨16, 8, -126, 127, by decide, by decide, rfl, by decide, by decide, by decide, by decide, by decide, by decide, by decide⟩
  · exact ⟨32, 24, -126, 127, by decide, by decide, rfl, by decide, by decide, by decide, by decide, by decide, by decide, by decide⟩
  · exact ⟨64, 53, -1022, 1023, by decide, by decide, rfl, by decide, by decide, by decide, by decide, by decide, by decide, by decide⟩
theorem pow_mono2 {a b : Nat} (h : a ≤ b) : (2 : Nat) ^ a ≤ 2 ^ b := Nat.pow_le_pow_right (by decide) h
theorem ones_at (k n : Nat) (hn : n < 64) : format_ones k (n : Int) = some ((2 ^ n - 1 : Nat) : Int) := by
  have h1 := Nat.two_pow_pos n
  have h2 : 2 ^ n < 18446744073709551616 := Nat.pow_lt_pow_right (m := n) (n := 64) (by decide) hn
  rw [format_ones_eq, if_pos (by omega)]
  have := shlK_exact 1 n (by omega) (by omega)
  rw [show ((1 : Nat) : Int) = 1 from rfl, Nat.one_mul] at this
  rw [this, wrap_u64]
  generalize 2 ^ n = y at *
  congr 1; omega
section
variable {f : Int} {W P : Nat} {em ex : Int} (h : Fm f W P em ex)
include h
theorem params_at (k : Nat) : format_Params k f = some ((W : Int), ((P : Int), (em, (ex, (0 : Int))))) := by
  have := h.f0; have := h.f4
  rw [format_Params_eq, if_neg (dF (by omega)), if_neg (dF (by omega)), if_pos ⟨by omega, by omega⟩, h.row]
end
end Go.Proofs.YtmoeaeflljpboaaDoor.X
