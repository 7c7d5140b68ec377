/- The references' bits: reading and setting one, and what the references' sum, difference, order and length compute. Conditions: numbers below 2^128. -/
import Derived.Test.YtidjigoghdghiaaWideB
import Derived.Test.YtidjigoghdghiaaVx4
import Derived.Test.YtidjigoghdghiaaVx5
import Derived.Test.YtidjigoghdghiaaVx6
namespace Go.Proofs.Ytidjigoghdghiaa.V
open Go.RowKit Go.Proofs.YtidjigoghdghiaaQ.PrintWords Go.Proofs.Ytidjigoghdghiaa.L
set_option linter.unusedVariables false

theorem mod_div_bit (V n i : Nat) (h : i < n) : V % 2 ^ n / 2 ^ i % 2 = V / 2 ^ i % 2 := by
  have e := Nat.testBit_mod_two_pow V n i
  simp only [h, decide_true, Bool.true_and, Nat.testBit_eq_decide_div_mod_eq] at e
  by_cases h1 : V / 2 ^ i % 2 = 1
  · rw [decide_eq_true h1, decide_eq_true_eq] at e; omega
  · rw [decide_eq_false h1, decide_eq_false_iff_not] at e; omega
theorem div_bit (V n i : Nat) (h : n ≤ i) : V / 2 ^ n / 2 ^ (i - n) % 2 = V / 2 ^ i % 2 := by
  rw [Nat.div_div_eq_div_mul, ← Nat.pow_add, show n + (i - n) = i by omega]
theorem bit_ev (V i : Nat) (hV : V < 340282366920938463463374607431768211456) (hi' : i < 128) : Ev (fun k => vernierref01_Bit.f k (hi V) (lo V) (i : Int)) ((V / 2 ^ i % 2 : Nat) : Int) := by
  unfold vernierref01_Bit.f
  refine ev_neg (by omega) ?_
  refine Ev.step (fun k => rfl) ?_
  refine ev_neg (by simp only [decide_eq_true_eq]; omega) ?_
  by_cases h : i < 64
  · refine ev_pos (by omega) ?_
    rw [wrapu_nat (by omega)]
    refine ev_pos (by omega) (ev_some fun k => ?_)
    rw [lo_nat, shr_nat _ i (by omega), and_one _ (Nat.lt_of_le_of_lt (Nat.div_le_self _ _) (by omega))]
    have := mod_div_bit V 64 i h
    rw [show (2 : Nat) ^ 64 = 18446744073709551616 from rfl] at this
    rw [this]
  · refine ev_neg (by omega) ?_
    have e : wrap64 ((i : Int) - 64) = ((i - 64 : Nat) : Int) := by rw [wrap64_id (by omega) (by omega)]; omega
    rw [e, wrapu_nat (by omega)]
    refine ev_pos (by omega) (ev_some fun k => ?_)
    rw [hi_nat, shr_nat _ (i - 64) (by omega), and_one _ (Nat.lt_of_le_of_lt (Nat.div_le_self _ _) (by omega))]
    have := div_bit V 64 i (by omega)
    rw [show (2 : Nat) ^ 64 = 18446744073709551616 from rfl] at this
    rw [this]
theorem or_bit (a i : Nat) (h : a / 2 ^ i % 2 = 0) : a ||| 2 ^ i = a + 2 ^ i := by
  have hp : 0 < 2 ^ i := Nat.two_pow_pos i
  have h2 := two_mul_pow i
  have hm := mod_succ a i
  rw [h, Nat.zero_mul, Nat.add_zero] at hm
  have hr : a % 2 ^ i < 2 ^ i := Nat.mod_lt a hp
  have ea : a = a / 2 ^ (i + 1) * 2 ^ (i + 1) + a % 2 ^ i := by have := Nat.div_add_mod a (2 ^ (i + 1)); rw [Nat.mul_comm] at this; omega
  have e1 := or_disj (a / 2 ^ (i + 1) * 2 ^ (i + 1)) (a % 2 ^ i) (i + 1) (by omega) (Nat.mul_mod_left _ _)
  have e2 := or_disj (2 ^ i) (a % 2 ^ i) i hr (Nat.mod_self _)
  have e3 := or_disj (a / 2 ^ (i + 1) * 2 ^ (i + 1)) (2 ^ i + a % 2 ^ i) (i + 1) (by omega) (Nat.mul_mod_left _ _)
  generalize a / 2 ^ (i + 1) * 2 ^ (i + 1) = Q at *
  generalize a % 2 ^ i = r at *
  rw [ea, ← e1, Nat.or_assoc, Nat.or_comm r, e2, e3, e1]
  omega
theorem or_bits (a i b : Nat) (hb : b ≤ 1) (h : a / 2 ^ i % 2 = 0) : a ||| b * 2 ^ i = a + b * 2 ^ i := by
  have : b = 0 ∨ b = 1 := by omega
  rcases this with rfl | rfl
  · simp
  · rw [Nat.one_mul, or_bit a i h]
theorem bits_lt (a i b n : Nat) (hb : b ≤ 1) (hi' : i < n) (ha : a < 2 ^ n) (h : a / 2 ^ i % 2 = 0) : a + b * 2 ^ i < 2 ^ n := by
  rw [← or_bits a i b hb h]
  refine Nat.or_lt_two_pow ha ?_
  have : b * 2 ^ i ≤ 1 * 2 ^ i := Nat.mul_le_mul_right _ hb
  have := Nat.pow_lt_pow_right (a := 2) (by decide) hi'
  omega
theorem set_word (a i b : Nat) (hb : b ≤ 1) (hi' : i < 64) (ha : a < 18446744073709551616) (h : a / 2 ^ i % 2 = 0) :
    Go.bits .or .u64 (Go.bits .andNot .u64 (a : Int) (shl .u64 1 (i : Int))) (shl .u64 (b : Int) (i : Int)) = ((a + b * 2 ^ i : Nat) : Int) := by
  have hp := pow_lt_64 hi'
  have hb2 : b * 2 ^ i < 18446744073709551616 := by
    have : b * 2 ^ i ≤ 1 * 2 ^ i := Nat.mul_le_mul_right _ hb
    omega
  rw [shl_one i hi', andNot_bit a i hi' ha h, shl_exact b i (by omega) hb2, bits_or_u64_nat a _ ha hb2, or_bits a i b hb h]
theorem with_eq (V i b : Nat) (hV : V < 340282366920938463463374607431768211456) (hi' : i < 128) (hb : b ≤ 1) (h : V / 2 ^ i % 2 = 0) :
    vernierref01_With.f (hi V) (lo V) (i : Int) (b : Int) = some (hi (V + b * 2 ^ i), lo (V + b * 2 ^ i)) := by
  unfold vernierref01_With.f
  by_cases hc : i < 64
  · rw [if_pos (by omega), wrapu_nat (by omega), if_pos (by omega), hi_nat, lo_nat, hi_nat, lo_nat]
    have h' : V % 2 ^ 64 / 2 ^ i % 2 = 0 := by rw [mod_div_bit V 64 i hc]; exact h
    have hl := bits_lt (V % 2 ^ 64) i b 64 hb hc (Nat.mod_lt _ (Nat.two_pow_pos _)) h'
    rw [show (2 : Nat) ^ 64 = 18446744073709551616 from rfl] at h' hl
    rw [set_word _ i b hb hc (by omega) h']
    congr 2
    · omega
    · omega
  · have e : wrap64 ((i : Int) - 64) = ((i - 64 : Nat) : Int) := by rw [wrap64_id (by omega) (by omega)]; omega
    rw [if_neg (by omega), e, wrapu_nat (by omega), if_pos (by omega), hi_nat, lo_nat, hi_nat, lo_nat]
    have h' : V / 2 ^ 64 / 2 ^ (i - 64) % 2 = 0 := by rw [div_bit V 64 i (by omega)]; exact h
    rw [show (2 : Nat) ^ 64 = 18446744073709551616 from rfl] at h'
    rw [set_word _ (i - 64) b hb (by omega) (by omega) h']
    have ep : b * 2 ^ i = b * 2 ^ (i - 64) * 18446744073709551616 := by
      rw [Nat.mul_assoc, show (18446744073709551616 : Nat) = 2 ^ 64 from rfl, ← Nat.pow_add, show i - 64 + 64 = i by omega]
    rw [ep]
    generalize b * 2 ^ (i - 64) = z
    congr 2
    · omega
    · omega
theorem pow_le_128 {i : Nat} (h : i ≤ 128) : 2 ^ i ≤ 340282366920938463463374607431768211456 := Nat.pow_le_pow_right (n := 2) (by decide) h
/-- A number that is being built from its lowest digit: with the next one. -/
theorem with_next (V i b : Nat) (hV : V < 2 ^ i) (hi' : i < 128) (hb : b ≤ 1) :
    vernierref01_With.f (hi V) (lo V) (i : Int) (b : Int) = some (hi (V + b * 2 ^ i), lo (V + b * 2 ^ i)) :=
  with_eq V i b (Nat.lt_of_lt_of_le hV (pow_le_128 (by omega))) hi' hb (bit_of_lt hV)
theorem next_lt {V i b : Nat} (hV : V < 2 ^ i) (hb : b ≤ 1) : V + b * 2 ^ i < 2 ^ (i + 1) := by
  have : b * 2 ^ i ≤ 1 * 2 ^ i := Nat.mul_le_mul_right _ hb
  have := two_mul_pow i
  omega

/-! ### Sum -/
theorem add_step (A B i : Nat) : (A % 2 ^ (i + 1) + B % 2 ^ (i + 1)) / 2 ^ (i + 1) = (A / 2 ^ i % 2 + B / 2 ^ i % 2 + (A % 2 ^ i + B % 2 ^ i) / 2 ^ i) / 2 ∧
    (A % 2 ^ (i + 1) + B % 2 ^ (i + 1)) % 2 ^ (i + 1) = (A % 2 ^ i + B % 2 ^ i) % 2 ^ i + (A / 2 ^ i % 2 + B / 2 ^ i % 2 + (A % 2 ^ i + B % 2 ^ i) / 2 ^ i) % 2 * 2 ^ i := by
  have hp : 0 < 2 ^ i := Nat.two_pow_pos i
  rw [mod_succ A i, mod_succ B i, two_mul_pow]
  generalize A / 2 ^ i % 2 = a
  generalize B / 2 ^ i % 2 = b
  generalize hS : A % 2 ^ i + B % 2 ^ i = S
  have e : A % 2 ^ i + a * 2 ^ i + (B % 2 ^ i + b * 2 ^ i) = S + (a + b) * 2 ^ i := by rw [Nat.add_mul]; omega
  rw [e, Nat.mul_comm 2]
  constructor
  · rw [← Nat.div_div_eq_div_mul, Nat.add_mul_div_right _ _ hp]
    congr 1
    omega
  · rw [Nat.mod_mul, Nat.add_mul_mod_self_right, Nat.add_mul_div_right _ _ hp, Nat.mul_comm (2 ^ i)]
    congr 3
    omega
theorem radd_loop (A B : Nat) (hA : A < 340282366920938463463374607431768211456) (hB : B < 340282366920938463463374607431768211456) (d : Nat) : ∀ i : Nat, i + d = 128 →
    Ev (fun k => vernierref01_Add.l0 k (((A % 2 ^ i + B % 2 ^ i) / 2 ^ i : Nat) : Int) (i : Int) (hi A) (lo A) (hi B) (lo B) (hi ((A % 2 ^ i + B % 2 ^ i) % 2 ^ i)) (lo ((A % 2 ^ i + B % 2 ^ i) % 2 ^ i)))
      (hi ((A + B) % 340282366920938463463374607431768211456), lo ((A + B) % 340282366920938463463374607431768211456), (((A + B) / 340282366920938463463374607431768211456 : Nat) : Int)) := by
  induction d with
  | zero =>
    intro i h
    obtain rfl : i = 128 := by omega
    refine Ev.step (fun k => rfl) ?_
    refine ev_neg (by omega) (ev_some fun k => ?_)
    rw [show (2 : Nat) ^ 128 = 340282366920938463463374607431768211456 from rfl, Nat.mod_eq_of_lt hA, Nat.mod_eq_of_lt hB]
  | succ d ih =>
    intro i h
    refine Ev.step (fun k => rfl) ?_
    refine ev_pos (by omega) ?_
    refine Ev.bind (bit_ev A i hA (by omega)) ?_
    refine Ev.bind (bit_ev B i hB (by omega)) ?_
    obtain ⟨h1, h2⟩ := add_step A B i
    have hp : 0 < 2 ^ i := Nat.two_pow_pos i
    have hc : (A % 2 ^ i + B % 2 ^ i) / 2 ^ i ≤ 1 := by
      have := Nat.mod_lt A hp
      have := Nat.mod_lt B hp
      have : (A % 2 ^ i + B % 2 ^ i) / 2 ^ i < 2 := by rw [Nat.div_lt_iff_lt_mul hp]; omega
      omega
    have hS : (A % 2 ^ i + B % 2 ^ i) % 2 ^ i < 2 ^ i := Nat.mod_lt _ hp
    have ha := bit_le A i
    have hb := bit_le B i
    have next := ih (i + 1) (by omega)
    rw [h1, h2] at next
    generalize (A % 2 ^ i + B % 2 ^ i) / 2 ^ i = c at *
    generalize (A % 2 ^ i + B % 2 ^ i) % 2 ^ i = S at *
    generalize A / 2 ^ i % 2 = a at *
    generalize B / 2 ^ i % 2 = b at *
    rw [wrapu_id (x := (a : Int) + b) (by omega) (by omega), wrapu_id (x := (a : Int) + b + c) (by omega) (by omega)]
    have e1 : Int.tmod ((a : Int) + b + c) 2 = (((a + b + c) % 2 : Nat) : Int) := by rw [Int.tmod_eq_emod_of_nonneg (by omega)]; omega
    have e2 : Int.tdiv ((a : Int) + b + c) 2 = (((a + b + c) / 2 : Nat) : Int) := by rw [Int.tdiv_eq_ediv_of_nonneg (by omega)]; omega
    rw [e1, e2, wrapu_nat (by omega)]
    refine ev_now (with_next S i ((a + b + c) % 2) hS (by omega) (by omega)) ?_
    rw [show wrap64 ((i : Int) + 1) = ((i + 1 : Nat) : Int) by rw [wrap64_id (by omega) (by omega)]; omega]
    exact next
theorem radd_ev (A B : Nat) (hA : A < 340282366920938463463374607431768211456) (hB : B < 340282366920938463463374607431768211456) :
    Ev (fun k => vernierref01_Add.f k (hi A) (lo A) (hi B) (lo B)) (hi ((A + B) % 340282366920938463463374607431768211456), lo ((A + B) % 340282366920938463463374607431768211456), (((A + B) / 340282366920938463463374607431768211456 : Nat) : Int)) := by
  have := radd_loop A B hA hB 128 0 rfl
  simp only [Nat.pow_zero, Nat.mod_one, Nat.add_zero, Nat.zero_div] at this
  exact this

/-! ### Order -/
theorem rcmp_loop (A B : Nat) (hA : A < 340282366920938463463374607431768211456) (hB : B < 340282366920938463463374607431768211456) (i : Nat) : i ≤ 128 → A / 2 ^ i = B / 2 ^ i →
    Ev (fun k => vernierref01_Cmp.l0 k ((i : Int) - 1) (hi A) (lo A) (hi B) (lo B)) (ord A B) := by
  induction i with
  | zero =>
    intro _ h
    simp only [Nat.pow_zero, Nat.div_one] at h
    refine Ev.step (fun k => rfl) ?_
    refine ev_neg (by omega) (ev_some fun k => ?_)
    unfold ord
    rw [if_pos h]
  | succ i ih =>
    intro h1 h
    refine Ev.step (fun k => rfl) ?_
    rw [show ((i + 1 : Nat) : Int) - 1 = (i : Int) by omega]
    refine ev_pos (by omega) ?_
    refine Ev.bind (bit_ev A i hA (by omega)) ?_
    refine Ev.bind (bit_ev B i hB (by omega)) ?_
    have ea : A / 2 ^ i = A / 2 ^ (i + 1) * 2 + A / 2 ^ i % 2 := by rw [Nat.pow_succ, ← Nat.div_div_eq_div_mul]; omega
    have eb : B / 2 ^ i = B / 2 ^ (i + 1) * 2 + B / 2 ^ i % 2 := by rw [Nat.pow_succ, ← Nat.div_div_eq_div_mul]; omega
    have lt_of : ∀ {X Y : Nat}, X / 2 ^ i < Y / 2 ^ i → X < Y := fun {X Y} hxy => by
      rcases Nat.lt_or_ge X Y with h' | h'
      · exact h'
      · have := Nat.div_le_div_right (c := 2 ^ i) h'; omega
    by_cases c1 : A / 2 ^ i % 2 < B / 2 ^ i % 2
    · refine ev_pos (by omega) (ev_some fun k => ?_)
      have := lt_of (X := A) (Y := B) (by omega)
      unfold ord
      rw [if_neg (by omega), if_pos this]
    · refine ev_neg (by omega) ?_
      by_cases c2 : A / 2 ^ i % 2 > B / 2 ^ i % 2
      · refine ev_pos (by omega) (ev_some fun k => ?_)
        have := lt_of (X := B) (Y := A) (by omega)
        unfold ord
        rw [if_neg (by omega), if_neg (by omega)]
      · refine ev_neg (by omega) ?_
        rw [wrap64_id (by omega) (by omega)]
        exact ih (by omega) (by omega)
theorem rcmp_ev (A B : Nat) (hA : A < 340282366920938463463374607431768211456) (hB : B < 340282366920938463463374607431768211456) : Ev (fun k => vernierref01_Cmp.f k (hi A) (lo A) (hi B) (lo B)) (ord A B) :=
  rcmp_loop A B hA hB 128 (Nat.le_refl _) (by rw [show (2 : Nat) ^ 128 = 340282366920938463463374607431768211456 from rfl, Nat.div_eq_of_lt hA, Nat.div_eq_of_lt hB])
end Go.Proofs.Ytidjigoghdghiaa.V
