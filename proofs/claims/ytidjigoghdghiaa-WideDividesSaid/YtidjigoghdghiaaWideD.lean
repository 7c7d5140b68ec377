/- The wide quotient, and the references' product, quotient and root. Conditions: numbers below 2^128, divisors below 2^64. -/
import Derived.Test.YtidjigoghdghiaaDiv64
import Derived.Test.YtidjigoghdghiaaWideT
import Derived.Test.YtidjigoghdghiaaWideS
import Derived.Test.YtidjigoghdghiaaVx25
import Derived.Test.YtidjigoghdghiaaVx26
import Derived.Test.YtidjigoghdghiaaVx8
namespace Go.Proofs.Ytidjigoghdghiaa.V
open Go.RowKit Go.Proofs.YtidjigoghdghiaaQ.PrintWords Go.Proofs.Ytidjigoghdghiaa.L
set_option linter.unusedVariables false

theorem wdiv_ev (A y : Nat) (hA : A < 340282366920938463463374607431768211456) (hy : y < 18446744073709551616) (h0 : y ≠ 0) :
    Ev (fun k => wide_Div.f k (hi A) (lo A) (y : Int)) (hi (A / y), lo (A / y), ((A % y : Nat) : Int), 0) := by
  unfold wide_Div.f
  refine ev_neg (by omega) ?_
  have hyp : 0 < y := by omega
  have hm := Nat.mod_lt (A / 18446744073709551616) hyp
  have hd := Nat.div_add_mod (A / 18446744073709551616) y
  have e1 : Int.tmod (hi A) (y : Int) = ((A / 18446744073709551616 % y : Nat) : Int) := by rw [hi_nat, Int.tmod_eq_emod_of_nonneg (by omega)]; simp
  have e2 : Int.tdiv (hi A) (y : Int) = ((A / 18446744073709551616 / y : Nat) : Int) := by rw [hi_nat, Int.tdiv_eq_ediv_of_nonneg (by omega)]; simp
  have hle : A / 18446744073709551616 / y ≤ A / 18446744073709551616 := Nat.div_le_self _ _
  rw [e1, e2, wrapu_nat (by omega), lo_nat]
  refine Ev.bind (div64_ev _ _ y hy hm (by omega)) ?_
  refine ev_some fun k => ?_
  have split : A = y * (A / 18446744073709551616 / y * 18446744073709551616) + (A / 18446744073709551616 % y * 18446744073709551616 + A % 18446744073709551616) := by
    have h1 : A = A / 18446744073709551616 * 18446744073709551616 + A % 18446744073709551616 := by omega
    have h2 : (y * (A / 18446744073709551616 / y) + A / 18446744073709551616 % y) * 18446744073709551616 = A / 18446744073709551616 * 18446744073709551616 := by rw [hd]
    rw [Nat.add_mul, Nat.mul_assoc] at h2
    omega
  have hq : (A / 18446744073709551616 % y * 18446744073709551616 + A % 18446744073709551616) / y < 18446744073709551616 := by
    rw [Nat.div_lt_iff_lt_mul hyp]
    have : (A / 18446744073709551616 % y + 1) * 18446744073709551616 ≤ y * 18446744073709551616 := Nat.mul_le_mul_right _ hm
    omega
  have q2 : A / y = A / 18446744073709551616 / y * 18446744073709551616 + (A / 18446744073709551616 % y * 18446744073709551616 + A % 18446744073709551616) / y := by
    conv => lhs; rw [split]
    rw [Nat.mul_add_div hyp]
  have r2 : A % y = (A / 18446744073709551616 % y * 18446744073709551616 + A % 18446744073709551616) % y := by
    conv => lhs; rw [split]
    rw [Nat.mul_add_mod]
  rw [q2, r2, hi_nat, lo_nat]
  clear q2 r2 split e1 e2 hd
  obtain ⟨z, hz⟩ : ∃ z, z = (A / 18446744073709551616 % y * 18446744073709551616 + A % 18446744073709551616) / y := ⟨_, rfl⟩
  obtain ⟨x, hx⟩ : ∃ x, x = A / 18446744073709551616 / y := ⟨_, rfl⟩
  rw [← hz] at hq ⊢
  rw [← hx] at hle ⊢
  clear hz hx
  simp only [Option.some.injEq, Prod.mk.injEq]
  refine ⟨?_, ?_, trivial⟩ <;> omega

/-! ### The references' product -/
theorem rmul_loop (a b : Nat) (ha : a < 18446744073709551616) (hb : b < 18446744073709551616) (d : Nat) : ∀ i : Nat, i + d = 64 →
    Ev (fun k => vernierref01_Mul.l0 k (a : Int) (b : Int) (i : Int) (hi (a * (b % 2 ^ i))) (lo (a * (b % 2 ^ i)))) (hi (a * b), lo (a * b)) := by
  induction d with
  | zero =>
    intro i h
    obtain rfl : i = 64 := by omega
    refine Ev.step (fun k => rfl) ?_
    refine ev_neg (by omega) (ev_some fun k => ?_)
    rw [Nat.mod_eq_of_lt (show b < 2 ^ 64 from hb)]
  | succ d ih =>
    intro i h
    refine Ev.step (fun k => rfl) ?_
    refine ev_pos (by omega) ?_
    rw [wrapu_nat (by omega)]
    refine ev_pos (by omega) ?_
    rw [shr_nat b i (by omega), and_one _ (Nat.lt_of_le_of_lt (Nat.div_le_self _ _) hb)]
    rw [show wrap64 ((i : Int) + 1) = ((i + 1 : Nat) : Int) by rw [wrap64_id (by omega) (by omega)]; omega]
    have next := ih (i + 1) (by omega)
    have hm := mod_succ b i
    have hlt1 : b % 2 ^ i < 18446744073709551616 := Nat.lt_of_le_of_lt (Nat.mod_le _ _) hb
    have hlt2 : b % 2 ^ (i + 1) < 18446744073709551616 := Nat.lt_of_le_of_lt (Nat.mod_le _ _) hb
    have two : b / 2 ^ i % 2 = 0 ∨ b / 2 ^ i % 2 = 1 := by omega
    rcases two with h0 | h0
    · rw [h0]
      refine ev_neg (by decide) ?_
      have e : b % 2 ^ (i + 1) = b % 2 ^ i := by rw [hm, h0, Nat.zero_mul, Nat.add_zero]
      rw [e] at next
      exact next
    · rw [h0]
      refine ev_pos rfl ?_
      rw [h0, Nat.one_mul] at hm
      have hp := pow_lt_64 (show i < 64 by omega)
      have hs : a * 2 ^ i < 340282366920938463463374607431768211456 := mul_lt ha hp
      have e1 := rshl_ev a (i : Int) (by omega) (by omega)
      rw [Int.toNat_natCast, Nat.mod_eq_of_lt hs, small_hi ha, small_lo ha] at e1
      refine Ev.bind e1 ?_
      have hsum : a * (b % 2 ^ i) + a * 2 ^ i = a * (b % 2 ^ (i + 1)) := by rw [hm, Nat.mul_add]
      have hl2 : a * (b % 2 ^ (i + 1)) < 340282366920938463463374607431768211456 := mul_lt ha hlt2
      have e2 := radd_ev (a * (b % 2 ^ i)) (a * 2 ^ i) (mul_lt ha hlt1) hs
      rw [hsum, Nat.mod_eq_of_lt hl2] at e2
      refine Ev.bind e2 ?_
      exact next
theorem rmul_ev (a b : Nat) (ha : a < 18446744073709551616) (hb : b < 18446744073709551616) : Ev (fun k => vernierref01_Mul.f k (a : Int) (b : Int)) (hi (a * b), lo (a * b)) := by
  have := rmul_loop a b ha hb 64 0 rfl
  rw [Nat.pow_zero, Nat.mod_one, Nat.mul_zero] at this
  exact this

/-! ### The references' quotient -/
theorem rdiv_loop (A y : Nat) (hA : A < 340282366920938463463374607431768211456) (hy : y < 18446744073709551616) (h0 : y ≠ 0) (i : Nat) : i ≤ 128 →
    Ev (fun k => vernierref01_Div.l0 k (y : Int) ((i : Int) - 1) (hi A) (lo A) (hi (A / 2 ^ i / y * 2 ^ i)) (lo (A / 2 ^ i / y * 2 ^ i)) (hi (A / 2 ^ i % y)) (lo (A / 2 ^ i % y)))
      (hi (A / y), lo (A / y), ((A % y : Nat) : Int), 0) := by
  have hyp : 0 < y := by omega
  induction i with
  | zero =>
    intro _
    refine Ev.step (fun k => rfl) ?_
    refine ev_neg (by omega) (ev_some fun k => ?_)
    rw [Nat.pow_zero, Nat.div_one, Nat.mul_one]
    have : A % y < 18446744073709551616 := Nat.lt_trans (Nat.mod_lt A hyp) hy
    rw [small_lo this]
  | succ i ih =>
    intro hi'
    refine Ev.step (fun k => rfl) ?_
    rw [show ((i + 1 : Nat) : Int) - 1 = (i : Int) by omega]
    refine ev_pos (by omega) ?_
    have hr : A / 2 ^ (i + 1) % y < y := Nat.mod_lt _ hyp
    have e1 := rshl_ev (A / 2 ^ (i + 1) % y) 1 (by omega) (by omega)
    rw [show (1 : Int).toNat = 1 from rfl, Nat.pow_one, Nat.mod_eq_of_lt (a := A / 2 ^ (i + 1) % y * 2) (by omega)] at e1
    refine Ev.bind e1 ?_
    refine Ev.bind (bit_ev A i hA (by omega)) ?_
    have ea : A / 2 ^ i = A / 2 ^ (i + 1) * 2 + A / 2 ^ i % 2 := by rw [Nat.pow_succ, ← Nat.div_div_eq_div_mul]; omega
    have hb := bit_le A i
    have hp : 0 < 2 ^ i := Nat.two_pow_pos i
    have htp := two_mul_pow i
    have hp128 : 2 ^ (i + 1) ≤ 340282366920938463463374607431768211456 := pow_le_128 (by omega)
    -- quotients and rests, by what they mean
    obtain ⟨q, hq⟩ : ∃ q, q = A / 2 ^ (i + 1) / y := ⟨_, rfl⟩
    obtain ⟨r, hre⟩ : ∃ r, r = A / 2 ^ (i + 1) % y := ⟨_, rfl⟩
    have hqr : y * q + r = A / 2 ^ (i + 1) := by rw [hq, hre]; exact Nat.div_add_mod _ y
    have next := ih (by omega)
    rw [← hre] at hr ⊢
    rw [← hq]
    obtain ⟨b, hbe⟩ : ∃ b, b = A / 2 ^ i % 2 := ⟨_, rfl⟩
    rw [← hbe] at hb ea ⊢
    have full : A / 2 ^ i = y * (2 * q) + (2 * r + b) := by rw [ea, ← hqr]; grind
    have hor : Go.bits .or .u64 (lo (r * 2)) (b : Int) = lo (r * 2 + b) ∧ hi (r * 2) = hi (r * 2 + b) := by
      rw [lo_nat, lo_nat, hi_nat, hi_nat]
      rw [or_add _ b 1 (by omega) (by show (r * 2 % 18446744073709551616) % 2 = 0; omega) (by omega)]
      constructor <;> omega
    rw [hor.1, hor.2]
    have hlt : r * 2 + b < 340282366920938463463374607431768211456 := by omega
    have e2 := rcmp_ev (r * 2 + b) y hlt (by omega)
    rw [small_hi hy, small_lo hy] at e2
    refine Ev.bind e2 ?_
    have hqA : q * 2 ^ (i + 1) ≤ A := by
      have h1 : q ≤ A / 2 ^ (i + 1) := by rw [hq]; exact Nat.div_le_self _ _
      exact Nat.le_trans (Nat.mul_le_mul_right _ h1) (Nat.div_mul_le_self A (2 ^ (i + 1)))
    by_cases hc : y ≤ r * 2 + b
    · refine ev_pos (by unfold ord; split; omega; rw [if_neg (by omega)]; omega) ?_
      have e3 := rsub_ev (r * 2 + b) y hlt (by omega)
      rw [small_hi hy, small_lo hy, show dif (r * 2 + b) y = r * 2 + b - y by unfold dif; rw [if_neg (by omega)]] at e3
      refine Ev.bind e3 ?_
      have eq : A / 2 ^ i / y = 2 * q + 1 := by
        rw [full, Nat.mul_add_div hyp]
        congr 1
        have : 2 * r + b = y * 1 + (2 * r + b - y) := by omega
        rw [this, Nat.mul_add_div hyp, Nat.div_eq_of_lt (by omega)]
      have er : A / 2 ^ i % y = r * 2 + b - y := by
        rw [full, Nat.mul_add_mod]
        have : 2 * r + b = y * 1 + (2 * r + b - y) := by omega
        rw [this, Nat.mul_add_mod, Nat.mod_eq_of_lt (by omega)]
        omega
      have hz : q * 2 ^ (i + 1) / 2 ^ i % 2 = 0 := by
        rw [htp, ← Nat.mul_assoc, Nat.mul_div_cancel _ hp]; omega
      have hw := with_eq (q * 2 ^ (i + 1)) i 1 (by omega) (by omega) (by omega) hz
      refine ev_now hw ?_
      rw [eq, er] at next
      have eqq : q * 2 ^ (i + 1) + 1 * 2 ^ i = (2 * q + 1) * 2 ^ i := by rw [htp]; grind
      rw [eqq, wrap64_id (by omega) (by omega)]
      exact next
    · refine ev_neg (by unfold ord; rw [if_neg (by omega), if_pos (by omega)]; omega) ?_
      have eq : A / 2 ^ i / y = 2 * q := by
        rw [full, Nat.mul_add_div hyp, Nat.div_eq_of_lt (by omega), Nat.add_zero]
      have er : A / 2 ^ i % y = r * 2 + b := by
        rw [full, Nat.mul_add_mod, Nat.mod_eq_of_lt (by omega)]; omega
      rw [eq, er] at next
      have eqq : q * 2 ^ (i + 1) = 2 * q * 2 ^ i := by rw [htp]; grind
      rw [eqq, wrap64_id (by omega) (by omega)]
      exact next
theorem rdiv_ev (A y : Nat) (hA : A < 340282366920938463463374607431768211456) (hy : y < 18446744073709551616) (h0 : y ≠ 0) :
    Ev (fun k => vernierref01_Div.f k (hi A) (lo A) (y : Int)) (hi (A / y), lo (A / y), ((A % y : Nat) : Int), 0) := by
  unfold vernierref01_Div.f
  refine ev_neg (by omega) ?_
  have := rdiv_loop A y hA hy h0 128 (Nat.le_refl _)
  rw [Nat.div_eq_of_lt (show A < 2 ^ 128 from hA), Nat.zero_div, Nat.zero_mul, Nat.zero_mod] at this
  exact this
end Go.Proofs.Ytidjigoghdghiaa.V
