/- What the wide functions compute: sum, difference, product, order, length, as whole numbers of 128 bits. Conditions: the numbers are below 2^128 (2^64). -/
import Derived.Test.YtidjigoghdghiaaWordsB
import Derived.Test.YtidjigoghdghiaaWordsC
import Derived.Test.YtidjigoghdghiaaVx10
import Derived.Test.YtidjigoghdghiaaVx12
import Derived.Test.YtidjigoghdghiaaVx2
namespace Go.Proofs.Ytidjigoghdghiaa.V
open Go.RowKit Go.Proofs.YtidjigoghdghiaaQ.PrintWords Go.Proofs.Ytidjigoghdghiaa.L
set_option linter.unusedVariables false

/-- The high and the low word. -/
def hi (V : Nat) : Int := ((V / 18446744073709551616 : Nat) : Int)
def lo (V : Nat) : Int := ((V % 18446744073709551616 : Nat) : Int)
def T128 : Nat := 340282366920938463463374607431768211456
theorem hi_nat (V : Nat) : hi V = ((V / 18446744073709551616 : Nat) : Int) := rfl
theorem lo_nat (V : Nat) : lo V = ((V % 18446744073709551616 : Nat) : Int) := rfl
theorem words_of (a b : Int) (ha : (Lit.int .u64 a).wf = true) (hb : (Lit.int .u64 b).wf = true) : ∃ V, V < 340282366920938463463374607431768211456 ∧ a = hi V ∧ b = lo V := by
  obtain ⟨x, rfl, hx⟩ := nat_of_wf ha
  obtain ⟨y, rfl, hy⟩ := nat_of_wf hb
  exact ⟨x * 18446744073709551616 + y, by omega, by unfold hi; omega, by unfold lo; omega⟩
theorem words_eq {A B : Nat} (h1 : hi A = hi B) (h2 : lo A = lo B) : A = B := by unfold hi at h1; unfold lo at h2; omega
theorem small_hi {n : Nat} (h : n < 18446744073709551616) : hi n = 0 := by unfold hi; omega
theorem small_lo {n : Nat} (h : n < 18446744073709551616) : lo n = (n : Int) := by unfold lo; omega

theorem add_eq (A B : Nat) (hA : A < 340282366920938463463374607431768211456) (hB : B < 340282366920938463463374607431768211456) :
    wide_Add.f (hi A) (lo A) (hi B) (lo B) = some (hi ((A + B) % 340282366920938463463374607431768211456), lo ((A + B) % 340282366920938463463374607431768211456), (((A + B) / 340282366920938463463374607431768211456 : Nat) : Int)) := by
  unfold wide_Add.f
  simp only [hi_nat, lo_nat]
  rw [show (0 : Int) = ((0 : Nat) : Int) from rfl, add64 _ _ 0 (by omega)]
  simp only [Option.bind_some]
  rw [add64 _ _ _ (by omega)]
  simp only [Option.bind_some, Option.some.injEq, Prod.mk.injEq]
  refine ⟨?_, ?_, ?_⟩ <;> omega
theorem sub_at (A B D c : Nat) (hA : A < 340282366920938463463374607431768211456) (hB : B < 340282366920938463463374607431768211456) (hD : D < 340282366920938463463374607431768211456)
    (h : A + c * 340282366920938463463374607431768211456 = D + B) : wide_Sub.f (hi A) (lo A) (hi B) (lo B) = some (hi D, lo D, (c : Int)) := by
  obtain ⟨e, he, h1⟩ : ∃ e, e ≤ 1 ∧ A % 18446744073709551616 + e * 18446744073709551616 = D % 18446744073709551616 + B % 18446744073709551616 + 0 :=
    ⟨if A % 18446744073709551616 < B % 18446744073709551616 then 1 else 0, by split <;> omega, by split <;> omega⟩
  unfold wide_Sub.f
  simp only [hi_nat, lo_nat]
  have s1 := sub64 _ _ 0 _ e (by omega) (by omega) (by omega) (by omega) h1
  have s2 := sub64 (A / 18446744073709551616) (B / 18446744073709551616) e _ c (by omega) (by omega) he (by omega : D / 18446744073709551616 < 18446744073709551616) (by omega)
  rw [Int.natCast_zero] at s1
  simp only [s1, s2, Option.bind_some]
/-- The difference modulo 2^128, and the borrow. -/
def dif (A B : Nat) : Nat := if A < B then A + 340282366920938463463374607431768211456 - B else A - B
def bor (A B : Nat) : Nat := if A < B then 1 else 0
theorem dif_spec (A B : Nat) (hA : A < 340282366920938463463374607431768211456) (hB : B < 340282366920938463463374607431768211456) :
    dif A B < 340282366920938463463374607431768211456 ∧ A + bor A B * 340282366920938463463374607431768211456 = dif A B + B := by
  unfold dif bor
  split <;> omega
theorem sub_eq (A B : Nat) (hA : A < 340282366920938463463374607431768211456) (hB : B < 340282366920938463463374607431768211456) :
    wide_Sub.f (hi A) (lo A) (hi B) (lo B) = some (hi (dif A B), lo (dif A B), ((bor A B : Nat) : Int)) :=
  sub_at A B _ _ hA hB (dif_spec A B hA hB).1 (dif_spec A B hA hB).2

theorem mul_lt {a b : Nat} (ha : a < 18446744073709551616) (hb : b < 18446744073709551616) : a * b < 340282366920938463463374607431768211456 := by
  have : a * b ≤ 18446744073709551615 * 18446744073709551615 := Nat.mul_le_mul (by omega) (by omega)
  omega
theorem mul_eq (a b : Nat) (ha : a < 18446744073709551616) (hb : b < 18446744073709551616) : wide_Mul.f a b = some (hi (a * b), lo (a * b)) := by
  unfold wide_Mul.f
  rw [mul_halves a b ha hb]
  rfl

/-- -1, 0 or 1. -/
def ord (A B : Nat) : Int := if A = B then 0 else if A < B then -1 else 1
theorem cmp_eq (A B : Nat) : wide_Cmp.f (hi A) (lo A) (hi B) (lo B) = some (ord A B) := by
  have e1 := hi_nat A
  have e2 := lo_nat A
  have e3 := hi_nat B
  have e4 := lo_nat B
  generalize hi A = a1 at *
  generalize lo A = a0 at *
  generalize hi B = b1 at *
  generalize lo B = b0 at *
  unfold wide_Cmp.f ord
  simp only [Bool.and_eq_true, beq_iff_eq]
  by_cases h : A = B
  · rw [if_pos h, if_pos (by omega)]
  · rw [if_neg (by omega), if_neg h]
    by_cases h2 : A < B
    · rw [if_pos h2]
      by_cases h3 : a1 < b1
      · rw [if_pos h3]
      · rw [if_neg h3, if_pos (by omega), if_pos (by omega)]
    · rw [if_neg h2, if_neg (by omega)]
      by_cases h3 : a1 = b1
      · rw [if_pos h3, if_neg (by omega)]
      · rw [if_neg h3]

/-- How many bits a number of 128 bits takes. -/
def len (V : Nat) : Nat := if V < 18446744073709551616 then Lib.bitLen V else 64 + Lib.bitLen (V / 18446744073709551616)
theorem len_eq (V : Nat) (h : V < 340282366920938463463374607431768211456) : wide_Len.f (hi V) (lo V) = some ((len V : Nat) : Int) := by
  unfold wide_Len.f len
  by_cases h0 : V < 18446744073709551616
  · rw [if_pos (small_hi h0), if_pos h0, small_lo h0, len64 _ h0]
    rfl
  · rw [if_neg (by rw [hi_nat]; omega), if_neg h0, hi_nat, len64 _ (by omega)]
    have := Lib.bitLen_le (V / 18446744073709551616) 64 (by decide) (by omega)
    simp only [Option.bind_some]
    rw [wrap64_id (by omega) (by omega)]
    simp

theorem w_eq (a b : Int) : vernierlaw01_w.f a b = some (a, b) := rfl
theorem fixed_true : vernierlaw01_fixed.f = some true := by
  unfold vernierlaw01_fixed.f
  have h1 := add_eq 18446744073709551615 1 (by decide) (by decide)
  have h2 := mul_eq 9223372036854775808 2 (by decide) (by decide)
  have h3 := len_eq 18446744073709551616 (by decide)
  rw [show wide_Add.f 0 18446744073709551615 0 1 = _ from h1]
  simp only [Option.bind_some]
  rw [show wide_Mul.f 9223372036854775808 2 = _ from h2]
  rw [show wide_Len.f 1 0 = _ from h3]
  decide +kernel
end Go.Proofs.Ytidjigoghdghiaa.V
