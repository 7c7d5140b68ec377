/- Plain law: the formats' rows and their special patterns: infinities, zeros, the greatest, the NaN. Conditions: the format is one of the four. -/
import Derived.Test.YtmoeaeflljpboaaFmR
namespace Go.Proofs.Ytmoeaeflljpboaa.X
open Go Go.Rex
set_option linter.unusedVariables false

theorem fm_cases {f : Int} {W P : Nat} {em ex : Int} (h : Fm f W P em ex) : (f = 0 ∧ W = 16 ∧ P = 11 ∧ em = -14 ∧ ex = 15) ∨ (f = 1 ∧ W = 16 ∧ P = 8 ∧ em = -126 ∧ ex = 127) ∨ (f = 2 ∧ W = 32 ∧ P = 24 ∧ em = -126 ∧ ex = 127) ∨ (f = 3 ∧ W = 64 ∧ P = 53 ∧ em = -1022 ∧ ex = 1023) := by
  have h0 := h.f0
  have h4 := h.f4
  have hr := h.row
  have : f = 0 ∨ f = 1 ∨ f = 2 ∨ f = 3 := by omega
  rcases this with rfl | rfl | rfl | rfl
  all_goals
    simp [rowsT] at hr
    omega
theorem fm_row {f : Int} (h0 : 0 ≤ f) (h4 : f < 4) : ∃ W P em ex, Fm f W P em ex := fm_of h0 h4
/-- The greatest exponent's field. -/
def eTop (W P : Nat) : Nat := 2 ^ (W - P) - 1
def infP (W P : Nat) : Nat := eTop W P * 2 ^ (P - 1)
def sgB (neg : Bool) (W : Nat) : Nat := if neg then 2 ^ (W - 1) else 0
/-- What lies beyond, without a sign. -/
def toInf (m : Int) (neg : Bool) : Bool := m == 0 || m == 1 || m == 3 && !neg || m == 4 && neg
def beyN (W P : Nat) (m : Int) (neg : Bool) : Nat := (if toInf m neg then infP W P else infP W P - 1) + sgB neg W
theorem eTop_lt (W P : Nat) : eTop W P < 2 ^ (W - P) := by have := Nat.two_pow_pos (W - P); unfold eTop; omega
theorem sgB_le (W : Nat) (neg : Bool) : sgB neg W ≤ 2 ^ (W - 1) := by
  unfold sgB
  split
  · exact Nat.le_refl _
  · exact Nat.zero_le _
section
variable {f : Int} {W P : Nat} {em ex : Int} (h : Fm f W P em ex)
include h
theorem fm_ex : ex = 1 - em ∧ ((2 ^ (W - P) : Nat) : Int) = 2 * ex + 2 ∧ eTop W P = (2 * ex + 1).toNat := by
  rcases fm_cases h with ⟨rfl, rfl, rfl, rfl, rfl⟩ | ⟨rfl, rfl, rfl, rfl, rfl⟩ | ⟨rfl, rfl, rfl, rfl, rfl⟩ | ⟨rfl, rfl, rfl, rfl, rfl⟩ <;> decide
theorem infP_le : infP W P + 2 ^ (P - 1) = 2 ^ (W - 1) := by
  have h3 := h.wp; have h8 := h.p8
  unfold infP eTop
  have : 2 ^ (W - 1) = 2 ^ (W - P) * 2 ^ (P - 1) := by rw [← Nat.pow_add]; congr 1; omega
  have h1 := Nat.two_pow_pos (W - P)
  rw [this]
  generalize 2 ^ (P - 1) = T
  obtain ⟨x, hx⟩ : ∃ x, 2 ^ (W - P) = x + 1 := ⟨2 ^ (W - P) - 1, by omega⟩
  rw [hx, Nat.add_mul, show x + 1 - 1 = x by omega]; omega
theorem wW : 2 ^ W = 2 * 2 ^ (W - 1) ∧ 2 ^ W ≤ 18446744073709551616 ∧ 2 ^ (P - 1) * 32 ≤ 2 ^ (W - 1) ∧ 128 ≤ 2 ^ (P - 1) := by
  have h1 := h.w64; have h2 := h.p8; have h3 := h.wp
  refine ⟨?_, pow_mono2 (b := 64) h1, ?_, pow_mono2 (a := 7) (by omega)⟩
  · rw [show W = (W - 1) + 1 by omega, Nat.pow_succ, Nat.mul_comm]; rfl
  · rw [show 32 = 2 ^ 5 from rfl, ← Nat.pow_add]; exact pow_mono2 (by omega)
theorem eTop_le : eTop W P ≤ 2047 ∧ 31 ≤ eTop W P := by
  have h3 := h.wp; have h4 := h.wp11
  have h1 : 2 ^ (W - P) ≤ 2 ^ 11 := pow_mono2 (by omega)
  have h2 : 2 ^ 5 ≤ 2 ^ (W - P) := pow_mono2 (by omega)
  unfold eTop; omega
end
end Go.Proofs.Ytmoeaeflljpboaa.X
