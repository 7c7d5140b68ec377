/- Plain law: layer 7's product of two numbers as one rounding of the product of their places. Conditions: the format is among the four, the mode is one of the six. -/
import Derived.Test.YtldjheckpophaaaDoorMulA
namespace Go.Proofs.YtldjheckpophaaaDoor.X
open Go Go.Rex
set_option linter.unusedVariables false

theorem p2_shift (s D : Nat) : p2 ((s : Int) - (D : Int)) * 2 ^ D = 2 ^ s * p2 ((D : Int) - (s : Int)) := by
  unfold p2
  rw [← Nat.pow_add, ← Nat.pow_add]
  congr 1
  omega
section
variable {f : Int} {W P : Nat} {em ex : Int} (h : Fm f W P em ex)
include h
theorem paR_prod (m : Int) (neg : Bool) {a b : Nat} (ha : a < 2 ^ W) (hb : b < 2 ^ W) (a0 : pk W a ≠ 0) (b0 : pk W b ≠ 0) {D : Nat} (hD : (D : Int) = -(em - (P : Int) + 1)) :
    paR W P em m neg (fN P (pk W a / 2 ^ (P - 1)) (pk W a % 2 ^ (P - 1)) * fN P (pk W b / 2 ^ (P - 1)) (pk W b % 2 ^ (P - 1))) (2 * (em - (P : Int) + 1) + (fQ (pk W a / 2 ^ (P - 1)) : Int) + (fQ (pk W b / 2 ^ (P - 1)) : Int)) false =
      ((rnOut W P m neg (plV P (pk W a) * plV P (pk W b)) (2 ^ D)).1, (rnOut W P m neg (plV P (pk W a) * plV P (pk W b)) (2 ^ D)).2, 0) := by
  have h53 := h.p53; have h8 := h.p8; have m0 := h.m0; have m1 := h.m1
  obtain ⟨x1, x2, x3⟩ := fN_facts h ha a0
  obtain ⟨y1, y2, y3⟩ := fN_facts h hb b0
  have va := plV_pat (P := P) (by omega) (pk W a)
  have vb := plV_pat (P := P) (by omega) (pk W b)
  generalize fN P (pk W a / 2 ^ (P - 1)) (pk W a % 2 ^ (P - 1)) = na at *
  generalize fN P (pk W b / 2 ^ (P - 1)) (pk W b % 2 ^ (P - 1)) = nb at *
  generalize fQ (pk W a / 2 ^ (P - 1)) = qa at *
  generalize fQ (pk W b / 2 ^ (P - 1)) = qb at *
  have hn : na * nb ≠ 0 := Nat.mul_ne_zero x1 y1
  unfold paR
  rw [if_neg (by omega), if_neg (by simp), if_neg hn]
  have e := rnOut_cross W P m neg (A := qA (na * nb) (2 * (em - (P : Int) + 1) + (qa : Int) + (qb : Int)) false (em - (P : Int) + 1)) (B := qB (2 * (em - (P : Int) + 1) + (qa : Int) + (qb : Int)) false (em - (P : Int) + 1)) (A' := plV P (pk W a) * plV P (pk W b)) (B' := 2 ^ D) (qB_pos _ _ _) (Nat.two_pow_pos D) (by
    unfold qA qB nuN nuD
    rw [if_neg (by decide), if_neg (by decide), show 2 * (em - (P : Int) + 1) + (qa : Int) + (qb : Int) - (em - (P : Int) + 1) = ((qa + qb : Nat) : Int) - (D : Int) by omega, show em - (P : Int) + 1 - (2 * (em - (P : Int) + 1) + (qa : Int) + (qb : Int)) = (D : Int) - ((qa + qb : Nat) : Int) by omega, Nat.one_mul, Nat.mul_assoc, p2_shift, ← va, ← vb, Nat.pow_add]
    grind)
  rw [e]
end
end Go.Proofs.YtldjheckpophaaaDoor.X
