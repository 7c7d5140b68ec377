/- Plain law: what the functions of naturals answer: take, back, digit (Knuth's step). Conditions: the words are words, the lists are not longer than memory. -/
import Derived.Test.YtmoeaeflljpboaaDoorNatF
namespace Go.Proofs.YtmoeaeflljpboaaDoor.X
open Go Go.Rex
set_option linter.unusedVariables false

/-- Nothing of it is left to be looked at but its last word. -/
theorem val_take_last {p : List Int} {n : Nat} (h : p.length = n + 1) : val p = val (p.take n) + 18446744073709551616 ^ n * (p.getD n 0).toNat := by
  have := take_succ_val' p n
  rwa [List.take_of_length_le (by omega)] at this
theorem val_set_last {p : List Int} {n : Nat} (h : p.length = n + 1) (x : Int) : val (p.set n x) = val (p.take n) + 18446744073709551616 ^ n * x.toNat := by
  rw [val_take_last (p := p.set n x) (n := n) (by simpa using h), take_set_ne, Rex.getD_set_self p (by omega)]

/-! ### take -/
theorem take_step {P A B x y c b lo d hi s e u T : Nat} (h1 : lo + 18446744073709551616 * hi = x * y + c) (h2 : s + lo + b = u + 18446744073709551616 * e) (hv : A + x * T = B + P * (c + b)) : A + P * s + x * (T + P * y) = B + P * u + P * 18446744073709551616 * (hi + e) := by
  have k1 : P * (lo + 18446744073709551616 * hi) = P * (x * y + c) := by rw [h1]
  have k2 : P * (s + lo + b) = P * (u + 18446744073709551616 * e) := by rw [h2]
  grind
/-! ### back -/
/-! ### digit -/
section
variable {v : List Int} (hv : WF v) {n : Nat} (hvl : v.length = n) (hn : n ≤ 17592186044416) {U Q R : Nat} (hQR : val v * Q + R = U) (hR : R < val v)
include hv hvl hn hQR hR
end
end Go.Proofs.YtmoeaeflljpboaaDoor.X
