/- Plain law: layer 5's cut and into: a number is rounded as the plain rounding of RndA says. Conditions: the number's natural is short, its exponent moderate. -/
import Derived.Test.YtmoeaeflljpboaaFmC
import Derived.Test.YtmoeaeflljpboaaRndA
import Derived.Test.YtmoeaeflljpboaaNatJ
namespace Go.Proofs.Ytmoeaeflljpboaa.X
open Go Go.Rex
set_option linter.unusedVariables false

/-- Two to a power, of a whole number that may be below 0: then 1. -/
def p2 (z : Int) : Nat := 2 ^ z.toNat
theorem p2_pos (z : Int) : 0 < p2 z := Nat.two_pow_pos _
theorem p2_nat (n : Nat) : p2 (n : Int) = 2 ^ n := by unfold p2; rw [Int.toNat_natCast]
theorem p2_neg {z : Int} (h : z ≤ 0) : p2 z = 1 := by unfold p2; rw [show z.toNat = 0 by omega, Nat.pow_zero]
theorem p2_cross (e q l : Int) : p2 (e - q) * (p2 (l - e) * p2 (q - l)) = p2 (e - l) * (p2 (q - e) * p2 (l - q)) := by
  unfold p2
  rw [← Nat.pow_add, ← Nat.pow_add, ← Nat.pow_add, ← Nat.pow_add]
  congr 1; omega
/-- The natural and the divisor of a number, an unknown rest taken for a half. -/
def nuN (n : Nat) (more : Bool) : Nat := if more then 2 * n + 1 else n
def nuD (more : Bool) : Nat := if more then 2 else 1
theorem nuD_pos (more : Bool) : 0 < nuD more := by unfold nuD; split <;> decide
/-- The number in places of 2^q. -/
def qA (n : Nat) (e : Int) (more : Bool) (q : Int) : Nat := nuN n more * p2 (e - q)
def qB (e : Int) (more : Bool) (q : Int) : Nat := nuD more * p2 (q - e)
theorem qB_pos (e : Int) (more : Bool) (q : Int) : 0 < qB e more q := Nat.mul_pos (nuD_pos more) (p2_pos _)
/-- From one place to another. -/
theorem q_cross (n : Nat) (e : Int) (more : Bool) {q l : Int} (h : l ≤ q) : qA n e more q * (qB e more l * p2 (q - l)) = qA n e more l * qB e more q := by
  have h1 := p2_cross e q l
  rw [p2_neg (z := l - q) (by omega), Nat.mul_one] at h1
  unfold qA qB
  generalize nuN n more = N
  generalize nuD more = D
  have e1 : N * p2 (e - q) * (D * p2 (l - e) * p2 (q - l)) = N * D * (p2 (e - q) * (p2 (l - e) * p2 (q - l))) := by grind
  have e2 : N * p2 (e - l) * (D * p2 (q - e)) = N * D * (p2 (e - l) * p2 (q - e)) := by grind
  rw [e1, e2, h1]

theorem ev_of {α : Type} {f : Nat → Option α} {r : α} (h : ∀ k, f k = some r) : Ev f r := Ev.of h
theorem low2 (v : Nat) : andK .u64 ((digs v).getD 0 0) 3 = ((v % 4 : Nat) : Int) := by
  by_cases h0 : v = 0
  · subst h0; rw [digs_zero]; rfl
  · rw [digs_pos h0]
    have hm := Nat.mod_lt v (show 0 < 18446744073709551616 by decide)
    simp only [List.getD_eq_getElem?_getD, List.getElem?_cons_zero, Option.getD_some]
    have := andK_mask (v % 18446744073709551616) 2 (by decide) hm
    rw [show ((2 ^ 2 - 1 : Nat) : Int) = 3 from rfl] at this
    rw [this]
    congr 1; omega
theorem low_bit (v : Nat) : andK .u64 ((digs v).getD 0 0) 1 = ((v % 2 : Nat) : Int) := by
  by_cases h0 : v = 0
  · subst h0; rw [digs_zero]; rfl
  · rw [digs_pos h0]
    have hm := Nat.mod_lt v (show 0 < 18446744073709551616 by decide)
    simp only [List.getD_eq_getElem?_getD, List.getElem?_cons_zero, Option.getD_some]
    rw [andK_one _ hm]
    congr 1; omega
theorem one_digs : ((List.replicate 1 (0 : Int)).set 0 1) = digs 1 := by rw [digs_pos (by decide)]; simp [digs_zero]
theorem one_len : (digs 1).length ≤ 1 := digs_length_lt.2 (by decide)
end Go.Proofs.Ytmoeaeflljpboaa.X
