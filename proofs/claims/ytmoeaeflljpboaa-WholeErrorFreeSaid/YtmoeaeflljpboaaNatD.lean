/- Plain law: math/bits: Len64, LeadingZeros64, Div64. Conditions: the words are words; Div64: high < divisor. -/
import Derived.Test.YtmoeaeflljpboaaNatC
namespace Go.Proofs.Ytmoeaeflljpboaa.X
open Go Go.Rex
set_option linter.unusedVariables false

/-! ### how many bits -/
def blen (n : Nat) : Nat := if n = 0 then 0 else Nat.log2 n + 1
theorem blen_zero : blen 0 = 0 := rfl
theorem blen_lt (n : Nat) : n < 2 ^ blen n := by
  unfold blen
  split
  · omega
  · exact Nat.lt_log2_self
theorem blen_le {n : Nat} (h : n ≠ 0) : 2 ^ (blen n - 1) ≤ n := by
  unfold blen
  rw [if_neg h]
  exact Nat.log2_self_le h
theorem blen_pos {n : Nat} (h : n ≠ 0) : 0 < blen n := by unfold blen; rw [if_neg h]; omega
theorem pow_lt_iff {a b : Nat} (h : 2 ^ a < 2 ^ b) : a < b := (Nat.pow_lt_pow_iff_right (by decide)).1 h
theorem blen_eq {n k : Nat} (h1 : 2 ^ k ≤ n) (h2 : n < 2 ^ (k + 1)) : blen n = k + 1 := by
  have h0 : n ≠ 0 := by have := Nat.two_pow_pos k; omega
  have a := blen_lt n
  have b := blen_le h0
  have c := blen_pos h0
  have d := pow_lt_iff (Nat.lt_of_le_of_lt h1 a)
  have e := pow_lt_iff (Nat.lt_of_le_of_lt b h2)
  omega
theorem blen_div {n j : Nat} (h : 2 ^ j ≤ n) : blen (n / 2 ^ j) + j = blen n := by
  have hp := Nat.two_pow_pos j
  have h0 : n / 2 ^ j ≠ 0 := by
    have := Nat.div_pos h hp; omega
  have a := blen_lt (n / 2 ^ j)
  have b := blen_le h0
  have c := blen_pos h0
  have h1 : 2 ^ (blen (n / 2 ^ j) - 1 + j) ≤ n := by
    rw [Nat.pow_add]
    exact (Nat.le_div_iff_mul_le hp).1 b
  have h2 : n < 2 ^ (blen (n / 2 ^ j) - 1 + j + 1) := by
    rw [show blen (n / 2 ^ j) - 1 + j + 1 = blen (n / 2 ^ j) + j by omega, Nat.pow_add]
    exact (Nat.div_lt_iff_lt_mul hp).1 a
  have := blen_eq h1 h2
  omega
theorem blen_bound {n k : Nat} (h : n < 2 ^ k) : blen n ≤ k := by
  by_cases h0 : n = 0
  · subst h0; rw [blen_zero]; omega
  · have := pow_lt_iff (Nat.lt_of_le_of_lt (blen_le h0) h); omega

theorem e_shr (z n : Nat) (hn : n ≤ 64) (m : Int) (hm : m = (n : Int)) : shrK .u64 (z : Int) m = ((z / 2 ^ n : Nat) : Int) := by rw [hm]; exact shrK_nat z n hn
theorem u8_small {x : Nat} (h : x < 256) : IntKind.u8.wrap (x : Int) = (x : Int) := by rw [wrap_u8]; omega
end Go.Proofs.Ytmoeaeflljpboaa.X
