/- Plain law: where a pattern stands among all of its format's. Conditions: the format is one of the four. -/
import Derived.Test.YtbaaggmicpigeaaDoorRnC
namespace Go.Proofs.YtbaaggmicpigeaaDoor.X
open Go Go.Rex
set_option linter.unusedVariables false

def plc (K : Nat) (neg : Bool) : Int := if neg then -(K : Int) else (K : Int)
theorem plus_or {K n : Nat} (hK : K < 2 ^ n) : K + 2 ^ n = 2 ^ n ||| K := by
  rw [Nat.add_comm]
  have := Nat.two_pow_add_eq_or_of_lt (i := n) hK 1
  rwa [Nat.mul_one] at this
theorem top_and {K W : Nat} (hW : 1 ≤ W) (h64 : W ≤ 64) (hK : K < 2 ^ (W - 1)) (neg : Bool) : andK .u64 ((K + sgB neg W : Nat) : Int) ((2 ^ (W - 1) : Nat) : Int) = if neg then ((2 ^ (W - 1) : Nat) : Int) else 0 := by
  have w := pow_half hW
  have w2 : 2 ^ W ≤ 2 ^ 64 := pow_mono2 h64
  obtain ⟨p1, p2, p3⟩ := pk_at hK hW neg
  unfold andK
  show IntKind.u64.wrap ((BitVec.ofInt 64 ((K + sgB neg W : Nat) : Int) &&& BitVec.ofInt 64 ((2 ^ (W - 1) : Nat) : Int)).toNat : Int) = _
  rw [BitVec.toNat_and, ofInt_nat _ (by omega), ofInt_nat _ (by omega)]
  cases neg
  · have e : (K + sgB false W) &&& 2 ^ (W - 1) = 0 := by
      show (K + 0) &&& 2 ^ (W - 1) = 0
      apply Nat.eq_of_testBit_eq
      intro j
      rw [Nat.add_zero, Nat.testBit_and, Nat.testBit_two_pow, Nat.zero_testBit]
      by_cases hj : W - 1 = j
      · subst hj; rw [Nat.testBit_lt_two_pow hK]; simp
      · simp [hj]
    rw [e]; rfl
  · have e : (K + sgB true W) &&& 2 ^ (W - 1) = 2 ^ (W - 1) := by
      show (K + 2 ^ (W - 1)) &&& 2 ^ (W - 1) = 2 ^ (W - 1)
      rw [plus_or hK]
      apply Nat.eq_of_testBit_eq
      intro j
      rw [Nat.testBit_and, Nat.testBit_or, Nat.testBit_two_pow]
      by_cases hj : W - 1 = j
      · simp [hj]
      · simp [hj]
    rw [e, wrapUn (by omega), if_pos rfl]
theorem top_off {K W : Nat} (hW : 1 ≤ W) (h64 : W ≤ 64) (hK : K < 2 ^ (W - 1)) : andNotK .u64 ((K + 2 ^ (W - 1) : Nat) : Int) ((2 ^ (W - 1) : Nat) : Int) = (K : Int) := by
  have w := pow_half hW
  have w2 : 2 ^ W ≤ 2 ^ 64 := pow_mono2 h64
  unfold andNotK
  show IntKind.u64.wrap ((BitVec.ofInt 64 ((K + 2 ^ (W - 1) : Nat) : Int) &&& ~~~ BitVec.ofInt 64 ((2 ^ (W - 1) : Nat) : Int)).toNat : Int) = _
  rw [BitVec.toNat_and, BitVec.toNat_not, ofInt_nat _ (by omega), ofInt_nat _ (by omega)]
  have e : (K + 2 ^ (W - 1)) &&& (2 ^ 64 - 1 - 2 ^ (W - 1)) = K := by
    rw [plus_or hK, show 2 ^ 64 - 1 - 2 ^ (W - 1) = 2 ^ 64 - (2 ^ (W - 1) + 1) by omega]
    apply Nat.eq_of_testBit_eq
    intro j
    rw [Nat.testBit_and, Nat.testBit_or, Nat.testBit_two_pow_sub_succ (by omega), Nat.testBit_two_pow]
    by_cases hj : W - 1 = j
    · subst hj
      rw [Nat.testBit_lt_two_pow hK]; simp
    · by_cases h6 : j < 64
      · simp [hj, h6]
      · have : K < 2 ^ j := Nat.lt_of_lt_of_le (show K < 2 ^ 64 by omega) (pow_mono2 (by omega))
        rw [Nat.testBit_lt_two_pow this]; simp [h6]
  rw [e, wrapUn (by omega)]
section
variable {f : Int} {W P : Nat} {em ex : Int} (h : Fm f W P em ex)
include h
theorem place_is {K : Nat} (hK : K < 2 ^ (W - 1)) (neg : Bool) : (if 0 ≤ (IntKind.u64.wrap (IntKind.i64.wrap ((W : Int) - 1))) then (if ((andK IntKind.u64 ((K + sgB neg W : Nat) : Int) (shlK IntKind.u64 1 (IntKind.u64.wrap (IntKind.i64.wrap ((W : Int) - 1))))) == 0) = true then some (IntKind.i64.wrap ((K + sgB neg W : Nat) : Int)) else some (IntKind.i64.wrap (0 - (IntKind.i64.wrap (andNotK IntKind.u64 ((K + sgB neg W : Nat) : Int) (shlK IntKind.u64 1 (IntKind.u64.wrap (IntKind.i64.wrap ((W : Int) - 1))))))))) else none) = some (plc K neg) := by
  have h8 := h.p8; have h3 := h.wp; have h64 := h.w64
  have w := pow_half (show 1 ≤ W by omega)
  have w2 : 2 ^ W ≤ 2 ^ 64 := pow_mono2 h64
  have e1 : IntKind.u64.wrap (IntKind.i64.wrap ((W : Int) - 1)) = ((W - 1 : Nat) : Int) := by
    rw [wrapI (by omega) (by omega), wrap_u64]; omega
  have e2 : shlK .u64 1 ((W - 1 : Nat) : Int) = ((2 ^ (W - 1) : Nat) : Int) := by
    have := shlK_exact 1 (W - 1) (by omega) (by omega)
    rwa [show ((1 : Nat) : Int) = 1 from rfl, Nat.one_mul] at this
  have hp := Nat.two_pow_pos (W - 1)
  rw [e1, e2, if_pos (by omega), top_and (by omega) h64 hK neg]
  cases neg
  · rw [if_neg (show ¬ (false = true) by decide), if_pos (show ((0 : Int) == 0) = true from rfl)]
    show some (IntKind.i64.wrap ((K + 0 : Nat) : Int)) = some (K : Int)
    rw [Nat.add_zero, wrapI (by omega) (by omega)]
  · rw [if_pos (show true = true from rfl), if_neg (bF (by omega))]
    show some (IntKind.i64.wrap (0 - (IntKind.i64.wrap (andNotK IntKind.u64 ((K + 2 ^ (W - 1) : Nat) : Int) ((2 ^ (W - 1) : Nat) : Int))))) = some (-(K : Int))
    rw [top_off (by omega) h64 hK, wrapI (x := (K : Int)) (by omega) (by omega), wrapI (by omega) (by omega), Int.zero_sub]
theorem place05_ev {K : Nat} (hK : K < 2 ^ (W - 1)) (neg : Bool) : Ev (fun k => vernierlaw05_place k f ((K + sgB neg W : Nat) : Int)) (plc K neg) :=
  Ev.of fun k => by rw [vernierlaw05_place_eq, params_at h, Option.bind_some]; exact place_is h hK neg
end
end Go.Proofs.YtbaaggmicpigeaaDoor.X
