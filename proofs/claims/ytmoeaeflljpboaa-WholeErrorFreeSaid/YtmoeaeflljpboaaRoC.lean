/- Plain law: layer 3's Canon, layer 5's Exact, Ratio and Parts, by the plain rounding to a place. Conditions: format and mode are such, the sizes are within the limits. -/
import Derived.Test.YtmoeaeflljpboaaRoB
import Derived.Test.YtmoeaeflljpboaaDyA
namespace Go.Proofs.Ytmoeaeflljpboaa.X
open Go Go.Rex
set_option linter.unusedVariables false

/-! ### The zeros at a natural's end -/
def tz (n : Nat) : Nat := if n = 0 then 0 else if n % 2 = 1 then 0 else tz (n / 2) + 1
termination_by n
decreasing_by exact Nat.div_lt_self (by omega) (by decide)
theorem tz_odd (m : Nat) : tz (2 * m + 1) = 0 := by rw [tz, if_neg (by omega), if_pos (by omega)]
theorem tz_eq (t m : Nat) : tz (2 ^ t * (2 * m + 1)) = t := by
  induction t with
  | zero => rw [Nat.pow_zero, Nat.one_mul, tz_odd]
  | succ t ih =>
    have hp : 0 < 2 ^ t * (2 * m + 1) := Nat.mul_pos (Nat.two_pow_pos t) (by omega)
    have e : 2 ^ (t + 1) * (2 * m + 1) = 2 * (2 ^ t * (2 * m + 1)) := by rw [Nat.pow_succ]; grind
    rw [e, tz, if_neg (by omega), if_neg (by omega), Nat.mul_div_cancel_left _ (by decide), ih]
theorem tz_spec {n : Nat} (h : n ≠ 0) : ∃ m, n = 2 ^ tz n * (2 * m + 1) := by
  induction n using Nat.strongRecOn with
  | _ n ih =>
    by_cases c : n % 2 = 1
    · refine ⟨n / 2, ?_⟩
      have : tz n = 0 := by rw [tz, if_neg h, if_pos c]
      rw [this]; omega
    · obtain ⟨m, hm⟩ := ih (n / 2) (by omega) (by omega)
      refine ⟨m, ?_⟩
      have : tz n = tz (n / 2) + 1 := by conv => lhs; rw [tz, if_neg h, if_neg c]
      rw [this, Nat.pow_succ, Nat.mul_right_comm, ← hm]; omega
/-- Without the zeros at its end. -/
def oddN (n : Nat) : Nat := n / 2 ^ tz n
theorem oddN_mul {n : Nat} (h : n ≠ 0) : oddN n * 2 ^ tz n = n := by
  obtain ⟨m, hm⟩ := tz_spec h
  unfold oddN
  conv => lhs; rw [show n / 2 ^ tz n = 2 * m + 1 by
    conv => lhs; rw [show n / 2 ^ tz n = 2 ^ tz n * (2 * m + 1) / 2 ^ tz n by rw [← hm]]
    rw [Nat.mul_div_cancel_left _ (Nat.two_pow_pos _)]]
  rw [Nat.mul_comm]; exact hm.symm
theorem oddN_odd {n : Nat} (h : n ≠ 0) : oddN n % 2 = 1 := by
  obtain ⟨m, hm⟩ := tz_spec h
  have : oddN n = 2 * m + 1 := by
    unfold oddN
    conv => lhs; rw [show n / 2 ^ tz n = 2 ^ tz n * (2 * m + 1) / 2 ^ tz n by rw [← hm]]
    rw [Nat.mul_div_cancel_left _ (Nat.two_pow_pos _)]
  rw [this]; omega
theorem oddN_ne {n : Nat} (h : n ≠ 0) : oddN n ≠ 0 := by have := oddN_odd h; omega
theorem oddN_le (n : Nat) : oddN n ≤ n := Nat.div_le_self _ _
theorem tz_blen {n : Nat} (h : n ≠ 0) : tz n < blen n := by
  have h1 := oddN_mul h
  have h2 := oddN_ne h
  have := blen_pow_mul h2 (tz n)
  rw [h1] at this
  have := blen_pos h2
  omega

/-! ### The same number, otherwise -/
/-- A number A / B * 2^e in places of 2^l. -/
def rA (A : Nat) (e l : Int) : Nat := A * p2 (e - l)
def rB (B : Nat) (e l : Int) : Nat := B * p2 (l - e)
theorem rB_pos {B : Nat} (h : 0 < B) (e l : Int) : 0 < rB B e l := Nat.mul_pos h (p2_pos _)
theorem q_r (n : Nat) (e : Int) (more : Bool) (l : Int) : qA n e more l = rA (nuN n more) e l ∧ qB e more l = rB (nuD more) e l := ⟨rfl, rfl⟩
/-- Factors of two go from one side to the other. -/
theorem r_shift {A B A' B' : Nat} {e e' : Int} (l : Int) (k : Nat) (he : e = e' + (k : Int)) (h : A' * B = A * 2 ^ k * B') : rA A e l * rB B' e' l = rA A' e' l * rB B e l := by
  have hc := p2_cross e l e'
  rw [p2_neg (z := e' - e) (by omega), Nat.one_mul, show e - e' = (k : Int) by omega, p2_nat] at hc
  unfold rA rB
  have e1 : A * p2 (e - l) * (B' * p2 (l - e')) = A * B' * (p2 (e - l) * p2 (l - e')) := by grind
  have e2 : A' * p2 (e' - l) * (B * p2 (l - e)) = A' * B * (p2 (e' - l) * p2 (l - e)) := by grind
  rw [e1, e2, h, hc]
  grind
end Go.Proofs.Ytmoeaeflljpboaa.X
