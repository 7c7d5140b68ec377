/- Plain law: what the functions of naturals answer: digit, divided, DivMod, Gcd. Conditions: the words are words, the lists are not longer than memory. -/
import Derived.Test.YtmoeaeflljpboaaDoorNatG
namespace Go.Proofs.YtmoeaeflljpboaaDoor.X
open Go Go.Rex
set_option linter.unusedVariables false

/-- The two highest words. -/
theorem top2 {a : List Int} {n : Nat} (h : a.length = n + 2) {x y : Nat} (ex : a.getD (n + 1) 0 = (x : Int)) (ey : a.getD n 0 = (y : Int)) : val a = val (a.take n) + (x * 18446744073709551616 + y) * 18446744073709551616 ^ n := by
  have h1 := val_take_last (p := a) (n := n + 1) h
  have h2 := take_succ_val' a n
  rw [ex, Int.toNat_natCast] at h1
  rw [ey, Int.toNat_natCast] at h2
  rw [h1, h2, pow_s]; grind
theorem top3 {a : List Int} {n : Nat} (h : a.length = n + 3) {x y z : Nat} (ex : a.getD (n + 2) 0 = (x : Int)) (ey : a.getD (n + 1) 0 = (y : Int)) (ez : a.getD n 0 = (z : Int)) :
    val a = val (a.take n) + ((x * 18446744073709551616 + y) * 18446744073709551616 + z) * 18446744073709551616 ^ n := by
  have h1 := val_take_last (p := a) (n := n + 2) h
  have h2 := take_succ_val' a (n + 1)
  have h3 := take_succ_val' a n
  rw [ex, Int.toNat_natCast] at h1
  rw [ey, Int.toNat_natCast] at h2
  rw [ez, Int.toNat_natCast] at h3
  rw [h1, h2, h3, pow_s, pow_s]; grind

/-! ### divided -/
theorem val_zero_drop {a : List Int} {k : Nat} (h : val (a.drop k) = 0) (hw : WF a) (m : Nat) (hm : k ≤ m) : val (a.drop m) = 0 := by
  have := val_take_drop (a.drop k) (m - k)
  rw [List.drop_drop, show k + (m - k) = m by omega] at this
  have hp := W_pow_pos (m - k)
  rcases Nat.eq_zero_or_pos (val (a.drop m)) with h0 | h0
  · exact h0
  · have := Nat.mul_pos hp h0; omega
end Go.Proofs.YtmoeaeflljpboaaDoor.X
