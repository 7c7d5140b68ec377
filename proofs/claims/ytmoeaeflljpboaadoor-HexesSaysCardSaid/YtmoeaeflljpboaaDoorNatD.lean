/- Plain law: math/bits: Len64, LeadingZeros64, Div64. Conditions: the words are words; Div64: high < divisor. -/
import Derived.Test.YtmoeaeflljpboaaDoorNatC
namespace Go.Proofs.YtmoeaeflljpboaaDoor.X
open Go Go.Rex
set_option linter.unusedVariables false

/-! ### how many bits -/
def blen (n : Nat) : Nat := if n = 0 then 0 else Nat.log2 n + 1
theorem blen_zero : blen 0 = 0 := rfl
theorem blen_lt (n : Nat) : n < 2 ^ blen n := by
  unfold blen
  split
  · omega
  · exact Nat.lt_log2_self
theorem blen_le {n : Nat} (h : n ≠ 0) : 2 ^ (blen n - 1) ≤ n := by
  unfold blen
  rw [if_neg h]
  exact Nat.log2_self_le h
theorem blen_pos {n : Nat} (h : n ≠ 0) : 0 < blen n := by unfold blen; rw [if_neg h]; omega
theorem pow_lt_iff {a b : Nat} (h : 2 ^ a < 2 ^ b) : a < b := (Nat.pow_lt_pow_iff_right (by decide)).1 h
theorem blen_eq {n k : Nat} (h1 : 2 ^ k ≤ n) (h2 : n < 2 ^ (k + 1)) : blen n = k + 1 := by
  have h0 : n ≠ 0 := by have := Nat.two_pow_pos k; omega
  have a := blen_lt n
  have b := blen_le h0
  have c := blen_pos h0
  have d := pow_lt_iff (Nat.lt_of_le_of_lt h1 a)
  have e := pow_lt_iff (Nat.lt_of_le_of_lt b h2)
  omega
theorem blen_div {n j : Nat} (h : 2 ^ j ≤ n) : blen (n / 2 ^ j) + j = blen n := by
  have hp := Nat.two_pow_pos j
  have h0 : n / 2 ^ j ≠ 0 := by
    have := Nat.div_pos h hp; omega
  have a := blen_lt (n / 2 ^ j)
  have b := blen_le h0
  have c := blen_pos h0
  have h1 : 2 ^ (blen (n / 2 ^ j) - 1 + j) ≤ n := by
    rw [Nat.pow_add]
    exact (Nat.le_div_iff_mul_le hp).1 b
  have h2 : n < 2 ^ (blen (n / 2 ^ j) - 1 + j + 1) := by
    rw [show blen (n / 2 ^ j) - 1 + j + 1 = blen (n / 2 ^ j) + j by omega, Nat.pow_add]
    exact (Nat.div_lt_iff_lt_mul hp).1 a
  have := blen_eq h1 h2
  omega
theorem blen_bound {n k : Nat} (h : n < 2 ^ k) : blen n ≤ k := by
  by_cases h0 : n = 0
  · subst h0; rw [blen_zero]; omega
  · have := pow_lt_iff (Nat.lt_of_le_of_lt (blen_le h0) h); omega

theorem tab8_all : ∀ x : Fin 256, bt bits_Len64.s0 ((x.val : Nat) : Int) = ((blen x.val : Nat) : Int) := by decide +kernel
theorem tab8 {x : Nat} (h : x < 256) : bt bits_Len64.s0 (x : Int) = ((blen x : Nat) : Int) := tab8_all ⟨x, h⟩
theorem size8 : bits_Len64.s0.size = 256 := by decide +kernel
theorem e_shr (z n : Nat) (hn : n ≤ 64) (m : Int) (hm : m = (n : Int)) : shrK .u64 (z : Int) m = ((z / 2 ^ n : Nat) : Int) := by rw [hm]; exact shrK_nat z n hn
theorem u8_small {x : Nat} (h : x < 256) : IntKind.u8.wrap (x : Int) = (x : Int) := by rw [wrap_u8]; omega
theorem len_j0 (k x t : Nat) (hx : x < 4294967296) (ht : t ≤ 32) : bits_Len64.j0 k (x : Int) (t : Int) = some ((blen x + t : Nat) : Int) := by
  rw [bits_Len64.j0_eq, size8]
  have s16 := e_shr x 16 (by decide) 16 rfl
  have s8 := e_shr x 8 (by decide) 8 rfl
  have s24 := e_shr (x / 2 ^ 16) 8 (by decide) 8 rfl
  have b32 : blen x ≤ 32 := blen_bound hx
  rw [s16, s24, s8]
  have a1 : IntKind.i64.wrap ((t : Int) + 16) = ((t + 16 : Nat) : Int) := by rw [wrapI] <;> omega
  have a2 : IntKind.i64.wrap (((t + 16 : Nat) : Int) + 8) = ((t + 24 : Nat) : Int) := by rw [wrapI] <;> omega
  have a3 : IntKind.i64.wrap ((t : Int) + 8) = ((t + 8 : Nat) : Int) := by rw [wrapI] <;> omega
  have wn : ∀ n : Nat, n ≤ 32 → IntKind.i64.wrap (n : Int) = (n : Int) := fun n h => by rw [wrapI] <;> omega
  have fin : ∀ m n : Nat, n ≤ 32 → m ≤ 100 → n + m = blen x + t → some (IntKind.i64.wrap ((m : Int) + IntKind.i64.wrap (n : Int))) = some ((blen x + t : Nat) : Int) := fun m n h1 h2 h3 => by
    rw [wn n h1, add_i m n (by omega), Nat.add_comm m n, h3]
  by_cases c1 : 65536 ≤ x
  · rw [if_pos (dT (by omega))]
    by_cases c2 : 256 ≤ x / 2 ^ 16
    · rw [if_pos (dT (by omega)), u8_small (x := x / 2 ^ 16 / 2 ^ 8) (by omega), if_pos ⟨by omega, by omega⟩, tab8 (by omega)]
      have h1 := blen_div (n := x / 2 ^ 16) (j := 8) (by omega)
      have h2 := blen_div (n := x) (j := 16) (by omega)
      rw [a1, a2]; exact fin _ _ (by omega) (by omega) (by omega)
    · rw [if_neg (dF (by omega)), u8_small (x := x / 2 ^ 16) (by omega), if_pos ⟨by omega, by omega⟩, tab8 (by omega)]
      have h2 := blen_div (n := x) (j := 16) (by omega)
      rw [a1]; exact fin _ _ (by omega) (by omega) (by omega)
  · rw [if_neg (dF (by omega))]
    by_cases c2 : 256 ≤ x
    · rw [if_pos (dT (by omega)), u8_small (x := x / 2 ^ 8) (by omega), if_pos ⟨by omega, by omega⟩, tab8 (by omega)]
      have h2 := blen_div (n := x) (j := 8) (by omega)
      rw [a3]; exact fin _ _ (by omega) (by omega) (by omega)
    · rw [if_neg (dF (by omega)), u8_small (x := x) (by omega), if_pos ⟨by omega, by omega⟩, tab8 (by omega)]
      exact fin _ _ (by omega) (by omega) (by omega)
theorem len64 (k x : Nat) (hx : x < 18446744073709551616) : bits_Len64 k (x : Int) = some ((blen x : Nat) : Int) := by
  rw [bits_Len64_eq]
  by_cases c : 4294967296 ≤ x
  · rw [if_pos (dT (by omega)), e_shr x 32 (by decide) 32 rfl]
    have := len_j0 k (x / 2 ^ 32) 32 (by omega) (by omega)
    have h2 := blen_div (n := x) (j := 32) (by omega)
    rw [show ((32 : Nat) : Int) = 32 from rfl] at this
    rw [this, h2]
  · rw [if_neg (dF (by omega))]
    have := len_j0 k x 0 (by omega) (by omega)
    rwa [Nat.add_zero] at this
end Go.Proofs.YtmoeaeflljpboaaDoor.X
