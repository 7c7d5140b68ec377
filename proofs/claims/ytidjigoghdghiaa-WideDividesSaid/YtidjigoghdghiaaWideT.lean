/- The wide shifts and the jam, and the references' shifts and jam: what they compute. Conditions: numbers below 2^128. -/
import Derived.Test.YtidjigoghdghiaaWideR
import Derived.Test.YtidjigoghdghiaaVx16
import Derived.Test.YtidjigoghdghiaaVx17
import Derived.Test.YtidjigoghdghiaaVx18
import Derived.Test.YtidjigoghdghiaaVx19
import Derived.Test.YtidjigoghdghiaaVx20
import Derived.Test.YtidjigoghdghiaaVx7
namespace Go.Proofs.Ytidjigoghdghiaa.V
open Go.RowKit Go.Proofs.YtidjigoghdghiaaQ.PrintWords Go.Proofs.Ytidjigoghdghiaa.L
set_option linter.unusedVariables false

theorem pow_split {n : Nat} (h : n ≤ 64) : 2 ^ n * 2 ^ (64 - n) = 18446744073709551616 := by
  rw [← Nat.pow_add, show n + (64 - n) = 64 by omega]
theorem shl_eq (A n : Nat) (hA : A < 340282366920938463463374607431768211456) (hn : n < 9223372036854775808) :
    wide_Shl.f (hi A) (lo A) (n : Int) = some (hi (A * 2 ^ n % 340282366920938463463374607431768211456), lo (A * 2 ^ n % 340282366920938463463374607431768211456)) := by
  unfold wide_Shl.f
  by_cases h0 : n = 0
  · subst h0
    rw [if_pos (by omega), Nat.pow_zero, Nat.mul_one, Nat.mod_eq_of_lt hA]
  rw [if_neg (by omega)]
  by_cases h1 : 128 ≤ n
  · rw [if_pos (by omega)]
    have e : A * 2 ^ n = A * 2 ^ (n - 128) * 340282366920938463463374607431768211456 := by
      rw [Nat.mul_assoc, show (340282366920938463463374607431768211456 : Nat) = 2 ^ 128 from rfl, ← Nat.pow_add, show n - 128 + 128 = n by omega]
    rw [e, Nat.mul_mod_left]
    rfl
  rw [if_neg (by omega)]
  by_cases h2 : 64 ≤ n
  · rw [if_pos (by omega)]
    have ew : wrap64 ((n : Int) - 64) = ((n - 64 : Nat) : Int) := by rw [wrap64_id (by omega) (by omega)]; omega
    rw [ew, if_pos (by omega), lo_nat, shl_nat _ (n - 64) (by omega)]
    have e : A * 2 ^ n = A * 2 ^ (n - 64) * 18446744073709551616 := by
      rw [Nat.mul_assoc, show (18446744073709551616 : Nat) = 2 ^ 64 from rfl, ← Nat.pow_add, show n - 64 + 64 = n by omega]
    have e2 : A * 2 ^ (n - 64) = A / 18446744073709551616 * 2 ^ (n - 64) * 18446744073709551616 + A % 18446744073709551616 * 2 ^ (n - 64) := by
      have : A = A / 18446744073709551616 * 18446744073709551616 + A % 18446744073709551616 := by omega
      generalize A / 18446744073709551616 = H at *
      generalize A % 18446744073709551616 = L at *
      subst this
      grind
    rw [e, e2]
    generalize A % 18446744073709551616 * 2 ^ (n - 64) = Y
    generalize A / 18446744073709551616 * 2 ^ (n - 64) = X
    rw [hi_nat, lo_nat]
    congr 2
    · omega
    · omega
  · rw [if_neg (by omega), if_pos (by omega)]
    have ew : wrap64 (64 - (n : Int)) = ((64 - n : Nat) : Int) := by rw [wrap64_id (by omega) (by omega)]; omega
    rw [ew, if_pos (by omega), hi_nat, lo_nat, shl_nat _ n (by omega), shl_nat _ n (by omega), shr_nat _ (64 - n) (by omega)]
    have hs := pow_split (n := n) (by omega)
    have hP : 0 < 2 ^ n := Nat.two_pow_pos n
    have hQ : 0 < 2 ^ (64 - n) := Nat.two_pow_pos (64 - n)
    have hH : A / 18446744073709551616 < 18446744073709551616 := by omega
    have hL : A % 18446744073709551616 < 18446744073709551616 := by omega
    have hA' : A = A / 18446744073709551616 * 18446744073709551616 + A % 18446744073709551616 := by omega
    generalize hPe : 2 ^ n = P at *
    generalize hQe : 2 ^ (64 - n) = Q at *
    generalize A / 18446744073709551616 = H at *
    generalize A % 18446744073709551616 = L at *
    have e1 : H * P % 18446744073709551616 = H % Q * P := by rw [← hs, Nat.mul_comm P Q, Nat.mul_mod_mul_right]
    have e2 : L * P % 18446744073709551616 = L % Q * P := by rw [← hs, Nat.mul_comm P Q, Nat.mul_mod_mul_right]
    have l1 : L / Q < P := by rw [Nat.div_lt_iff_lt_mul hQ, hs]; exact hL
    have l2 : (H % Q + 1) * P ≤ Q * P := Nat.mul_le_mul_right _ (Nat.mod_lt _ hQ)
    rw [Nat.add_mul, Nat.mul_comm Q P, hs] at l2
    have l3 : (L % Q + 1) * P ≤ Q * P := Nat.mul_le_mul_right _ (Nat.mod_lt _ hQ)
    rw [Nat.add_mul, Nat.mul_comm Q P, hs] at l3
    rw [e1, e2, or_add (H % Q * P) (L / Q) n (by rw [hPe]; exact l1) (by rw [hPe]; exact Nat.mul_mod_left _ _) (by omega)]
    have eH : H * P = H / Q * 18446744073709551616 + H % Q * P := by
      have h1 := Nat.div_add_mod H Q
      have h2 : (Q * (H / Q) + H % Q) * P = H * P := by rw [h1]
      rw [← h2, ← hs]; grind
    have eL : L * P = L / Q * 18446744073709551616 + L % Q * P := by
      have h1 := Nat.div_add_mod L Q
      have h2 : (Q * (L / Q) + L % Q) * P = L * P := by rw [h1]
      rw [← h2, ← hs]; grind
    have eA : A * P = H * P * 18446744073709551616 + L * P := by rw [hA', Nat.add_mul]; congr 1; grind
    rw [eA, eH, eL]
    generalize H % Q * P = X at *
    generalize L % Q * P = Y at *
    generalize L / Q = l at *
    generalize H / Q = h at *
    rw [hi_nat, lo_nat]
    congr 2
    · omega
    · omega
theorem shl_any (A : Nat) (n : Int) (hA : A < 340282366920938463463374607431768211456) (h0 : -9223372036854775808 ≤ n) (hn : n < 9223372036854775808) :
    wide_Shl.f (hi A) (lo A) n = some (hi (A * 2 ^ n.toNat % 340282366920938463463374607431768211456), lo (A * 2 ^ n.toNat % 340282366920938463463374607431768211456)) := by
  by_cases h : 0 ≤ n
  · have := shl_eq A n.toNat hA (by omega)
    rw [Int.toNat_of_nonneg h] at this
    exact this
  · unfold wide_Shl.f
    rw [if_pos (by omega), show n.toNat = 0 by omega, Nat.pow_zero, Nat.mul_one, Nat.mod_eq_of_lt hA]
theorem shr_eq (A n : Nat) (hA : A < 340282366920938463463374607431768211456) (hn : n < 9223372036854775808) : wide_Shr.f (hi A) (lo A) (n : Int) = some (hi (A / 2 ^ n), lo (A / 2 ^ n)) := by
  unfold wide_Shr.f
  by_cases h0 : n = 0
  · subst h0
    rw [if_pos (by omega), Nat.pow_zero, Nat.div_one]
  rw [if_neg (by omega)]
  by_cases h1 : 128 ≤ n
  · rw [if_pos (by omega), Nat.div_eq_of_lt (Nat.lt_of_lt_of_le hA (show 2 ^ 128 ≤ 2 ^ n from Nat.pow_le_pow_right (by decide) h1))]
    rfl
  rw [if_neg (by omega)]
  by_cases h2 : 64 ≤ n
  · rw [if_pos (by omega)]
    have ew : wrap64 ((n : Int) - 64) = ((n - 64 : Nat) : Int) := by rw [wrap64_id (by omega) (by omega)]; omega
    rw [ew, if_pos (by omega), hi_nat, shr_nat _ (n - 64) (by omega)]
    have e : A / 2 ^ n = A / 18446744073709551616 / 2 ^ (n - 64) := by
      rw [Nat.div_div_eq_div_mul, show (18446744073709551616 : Nat) = 2 ^ 64 from rfl, ← Nat.pow_add, show 64 + (n - 64) = n by omega]
    have hl : A / 18446744073709551616 / 2 ^ (n - 64) < 18446744073709551616 := Nat.lt_of_le_of_lt (Nat.div_le_self _ _) (by omega)
    rw [e, small_hi hl, small_lo hl]
  · rw [if_neg (by omega), if_pos (by omega)]
    have ew : wrap64 (64 - (n : Int)) = ((64 - n : Nat) : Int) := by rw [wrap64_id (by omega) (by omega)]; omega
    rw [ew, if_pos (by omega), hi_nat, lo_nat, shr_nat _ n (by omega), shr_nat _ n (by omega), shl_nat _ (64 - n) (by omega)]
    have hs := pow_split (n := n) (by omega)
    have hP : 0 < 2 ^ n := Nat.two_pow_pos n
    have hQ : 0 < 2 ^ (64 - n) := Nat.two_pow_pos (64 - n)
    have hH : A / 18446744073709551616 < 18446744073709551616 := by omega
    have hL : A % 18446744073709551616 < 18446744073709551616 := by omega
    have hA' : A = A / 18446744073709551616 * 18446744073709551616 + A % 18446744073709551616 := by omega
    generalize hPe : 2 ^ n = P at *
    generalize hQe : 2 ^ (64 - n) = Q at *
    generalize A / 18446744073709551616 = H at *
    generalize A % 18446744073709551616 = L at *
    have e1 : H * Q % 18446744073709551616 = H % P * Q := by rw [← hs, Nat.mul_mod_mul_right]
    have l1 : L / P < Q := by rw [Nat.div_lt_iff_lt_mul hP, Nat.mul_comm, hs]; exact hL
    have l2 : (H % P + 1) * Q ≤ P * Q := Nat.mul_le_mul_right _ (Nat.mod_lt _ hP)
    rw [Nat.add_mul, hs] at l2
    rw [e1, or_add' (L / P) (H % P * Q) (64 - n) (by rw [hQe]; exact l1) (by rw [hQe]; exact Nat.mul_mod_left _ _) (by omega)]
    have eH : H * Q = H / P * 18446744073709551616 + H % P * Q := by
      have h1 := Nat.div_add_mod H P
      have h2 : (P * (H / P) + H % P) * Q = H * Q := by rw [h1]
      rw [← h2, ← hs]; grind
    have eA : A / P = H * Q + L / P := by
      have : A = L + P * (H * Q) := by rw [hA', ← hs]; grind
      rw [this, Nat.add_mul_div_left _ _ hP]; omega
    rw [eA, eH]
    generalize H % P * Q = X at *
    generalize L / P = l at *
    generalize H / P = h at *
    rw [hi_nat, lo_nat]
    congr 2
    · omega
    · omega
theorem shr_any (A : Nat) (n : Int) (hA : A < 340282366920938463463374607431768211456) (hn : n < 9223372036854775808) : wide_Shr.f (hi A) (lo A) n = some (hi (A / 2 ^ n.toNat), lo (A / 2 ^ n.toNat)) := by
  by_cases h : 0 ≤ n
  · have := shr_eq A n.toNat hA (by omega)
    rw [Int.toNat_of_nonneg h] at this
    exact this
  · unfold wide_Shr.f
    rw [if_pos (by omega), show n.toNat = 0 by omega, Nat.pow_zero, Nat.div_one]

/-! ### The jam -/
/-- The same with its lowest bit set. -/
def or1 (V : Nat) : Nat := V + 1 - V % 2
/-- Shifted to the right, what was lost kept in the lowest bit. -/
def jam (A n : Nat) : Nat := if A % 2 ^ n = 0 then A / 2 ^ n else or1 (A / 2 ^ n)
theorem or_one (x : Nat) : x ||| 1 = x + 1 - x % 2 := by
  have : x % 2 = 0 ∨ x % 2 = 1 := by omega
  rcases this with h | h
  · have := or_disj x 1 1 (by decide) h
    omega
  · have e := or_disj (x - 1) 1 1 (by decide) (by show (x - 1) % 2 = 0; omega)
    have : x = (x - 1) ||| 1 := by rw [e]; omega
    rw [this, Nat.or_assoc, Nat.or_self]
    omega
theorem or1_lo (V : Nat) : Go.bits .or .u64 (lo V) 1 = lo (or1 V) ∧ hi (or1 V) = hi V := by
  have := bits_or_u64_nat (V % 18446744073709551616) 1 (by omega) (by omega)
  rw [or_one] at this
  rw [lo_nat]
  refine ⟨?_, ?_⟩
  · rw [show (1 : Int) = ((1 : Nat) : Int) from rfl, this, lo_nat]
    unfold or1
    omega
  · rw [hi_nat, hi_nat]; unfold or1; omega
theorem or1_idem (V : Nat) : or1 (or1 V) = or1 V := by unfold or1; omega
theorem or1_lt {V : Nat} (h : V < 340282366920938463463374607431768211456) : or1 V < 340282366920938463463374607431768211456 := by unfold or1; omega
theorem jam_lt {A n : Nat} (h : A < 340282366920938463463374607431768211456) : jam A n < 340282366920938463463374607431768211456 := by
  have : A / 2 ^ n ≤ A := Nat.div_le_self _ _
  unfold jam; split
  · omega
  · exact or1_lt (by omega)
theorem shift_back (A n : Nat) (hA : A < 340282366920938463463374607431768211456) : A / 2 ^ n * 2 ^ n % 340282366920938463463374607431768211456 = A ↔ A % 2 ^ n = 0 := by
  have h1 := Nat.div_mul_le_self A (2 ^ n)
  rw [Nat.mod_eq_of_lt (by omega)]
  have h2 := Nat.div_add_mod A (2 ^ n)
  rw [Nat.mul_comm] at h2
  omega
theorem jam_eq (A : Nat) (n : Int) (hA : A < 340282366920938463463374607431768211456) (h0 : -9223372036854775808 ≤ n) (hn : n < 9223372036854775808) :
    wide_Jam.f (hi A) (lo A) n = some (hi (jam A n.toNat), lo (jam A n.toNat)) := by
  have s1 := shr_any A n hA hn
  have hq : A / 2 ^ n.toNat < 340282366920938463463374607431768211456 := Nat.lt_of_le_of_lt (Nat.div_le_self _ _) hA
  have s2 := shl_any (A / 2 ^ n.toNat) n hq h0 hn
  obtain ⟨o1, o2⟩ := or1_lo (A / 2 ^ n.toNat)
  have sb := shift_back A n.toNat hA
  unfold wide_Jam.f
  rw [s1]
  simp only [Option.bind_some, o1]
  rw [← o2]
  have pz := pair_bne A 0
  rw [show hi 0 = 0 from rfl, show lo 0 = 0 from rfl] at pz
  by_cases hp : n > 0
  · rw [if_pos hp]
    have main : n < 128 → ((wide_Shl.f (hi (or1 (A / 2 ^ n.toNat))) (lo (A / 2 ^ n.toNat)) n).bind fun bt => if (!(bt.1 == hi A) || (!(bt.2 == lo A))) = true then some (hi (or1 (A / 2 ^ n.toNat)), lo (or1 (A / 2 ^ n.toNat))) else some (hi (or1 (A / 2 ^ n.toNat)), lo (A / 2 ^ n.toNat))) = some (hi (jam A n.toNat), lo (jam A n.toNat)) := by
      intro hlt
      rw [o2, s2]
      simp only [Option.bind_some, pair_bne]
      unfold jam
      by_cases hz : A % 2 ^ n.toNat = 0
      · rw [if_neg (by simp [sb.2 hz]), if_pos hz]
      · rw [if_pos (by simp; intro h; exact hz (sb.1 h)), if_neg hz, o2]
    by_cases hg : n ≥ 128
    · rw [if_pos hg, pz]
      have hm : A % 2 ^ n.toNat = A := Nat.mod_eq_of_lt (Nat.lt_of_lt_of_le hA (show 2 ^ 128 ≤ 2 ^ n.toNat from Nat.pow_le_pow_right (by decide) (by omega)))
      unfold jam
      rw [hm]
      by_cases hz : A = 0
      · rw [if_neg (by simp [hz]), if_neg (by omega), if_pos hz, o2]
      · rw [if_pos (by simp [hz]), if_neg hz]
    · rw [if_neg hg, if_pos (by omega)]
      exact main (by omega)
  · rw [if_neg hp, show n.toNat = 0 by omega]
    unfold jam
    rw [Nat.pow_zero, if_pos (Nat.mod_one A), Nat.div_one] at *
    rw [(or1_lo A).2]

/-! ### The references' -/
theorem rshl_loop (A n : Nat) (hA : A < 340282366920938463463374607431768211456) (hn : n < 9223372036854775808) (d : Nat) : ∀ i : Nat, i + d = 128 →
    Ev (fun k => vernierref01_Shl.l0 k (n : Int) (i : Int) (hi A) (lo A) (hi (A * 2 ^ n % 2 ^ i)) (lo (A * 2 ^ n % 2 ^ i))) (hi (A * 2 ^ n % 340282366920938463463374607431768211456), lo (A * 2 ^ n % 340282366920938463463374607431768211456)) := by
  induction d with
  | zero =>
    intro i h
    obtain rfl : i = 128 := by omega
    refine Ev.step (fun k => rfl) ?_
    exact ev_neg (by omega) (ev_some fun k => rfl)
  | succ d ih =>
    intro i h
    refine Ev.step (fun k => rfl) ?_
    refine ev_pos (by omega) ?_
    have next := ih (i + 1) (by omega)
    rw [mod_succ (A * 2 ^ n) i] at next
    rw [show wrap64 ((i : Int) + 1) = ((i + 1 : Nat) : Int) by rw [wrap64_id (by omega) (by omega)]; omega]
    by_cases hni : n ≤ i
    · refine ev_pos (by omega) ?_
      have e : A * 2 ^ n / 2 ^ i = A / 2 ^ (i - n) := by
        rw [show 2 ^ i = 2 ^ (i - n) * 2 ^ n by rw [← Nat.pow_add, Nat.sub_add_cancel hni], Nat.mul_div_mul_right _ _ (Nat.two_pow_pos n)]
      rw [show wrap64 ((i : Int) - (n : Int)) = ((i - n : Nat) : Int) by rw [wrap64_id (by omega) (by omega)]; omega]
      refine Ev.bind (bit_ev A (i - n) hA (by omega)) ?_
      rw [e] at next
      refine ev_now (with_next _ i (A / 2 ^ (i - n) % 2) (Nat.mod_lt _ (Nat.two_pow_pos i)) (by omega) (by omega)) ?_
      exact next
    · refine ev_neg (by omega) ?_
      have e : A * 2 ^ n / 2 ^ i % 2 = 0 := by
        rw [show A * 2 ^ n = A * 2 ^ (n - i - 1) * 2 * 2 ^ i by rw [Nat.mul_assoc, Nat.mul_assoc, ← Nat.pow_succ', ← Nat.pow_add]; congr 2; omega, Nat.mul_div_cancel _ (Nat.two_pow_pos i)]
        omega
      rw [e, Nat.zero_mul, Nat.add_zero] at next
      exact next
theorem rshl_ev (A : Nat) (n : Int) (hA : A < 340282366920938463463374607431768211456) (hn : n < 9223372036854775808) :
    Ev (fun k => vernierref01_Shl.f k (hi A) (lo A) n) (hi (A * 2 ^ n.toNat % 340282366920938463463374607431768211456), lo (A * 2 ^ n.toNat % 340282366920938463463374607431768211456)) := by
  unfold vernierref01_Shl.f
  by_cases h : n ≤ 0
  · refine ev_pos h (ev_some fun k => ?_)
    rw [show n.toNat = 0 by omega, Nat.pow_zero, Nat.mul_one, Nat.mod_eq_of_lt hA]
  · refine ev_neg h ?_
    have := rshl_loop A n.toNat hA (by omega) 128 0 rfl
    rw [Int.toNat_of_nonneg (by omega), Nat.pow_zero, Nat.mod_one] at this
    exact this
theorem rshr_loop (A n : Nat) (hA : A < 340282366920938463463374607431768211456) (hn : n < 9223372036854775808) (d : Nat) : ∀ i : Nat, i + d = 128 →
    Ev (fun k => vernierref01_Shr.l0 k (n : Int) (i : Int) (hi A) (lo A) (hi (A / 2 ^ n % 2 ^ i)) (lo (A / 2 ^ n % 2 ^ i))) (hi (A / 2 ^ n), lo (A / 2 ^ n)) := by
  have hq : A / 2 ^ n < 2 ^ 128 := Nat.lt_of_le_of_lt (Nat.div_le_self _ _) hA
  induction d with
  | zero =>
    intro i h
    obtain rfl : i = 128 := by omega
    refine Ev.step (fun k => rfl) ?_
    refine ev_neg (by omega) (ev_some fun k => ?_)
    rw [Nat.mod_eq_of_lt hq]
  | succ d ih =>
    intro i h
    refine Ev.step (fun k => rfl) ?_
    refine ev_pos (by omega) ?_
    have next := ih (i + 1) (by omega)
    rw [mod_succ (A / 2 ^ n) i] at next
    have e : A / 2 ^ n / 2 ^ i = A / 2 ^ (i + n) := by rw [Nat.div_div_eq_div_mul, ← Nat.pow_add, Nat.add_comm]
    rw [e] at next
    rw [show wrap64 ((i : Int) + 1) = ((i + 1 : Nat) : Int) by rw [wrap64_id (by omega) (by omega)]; omega, show wrap64 (128 - (i : Int)) = ((128 - i : Nat) : Int) by rw [wrap64_id (by omega) (by omega)]; omega]
    by_cases hni : n < 128 - i
    · refine ev_pos (by omega) ?_
      rw [show wrap64 ((i : Int) + (n : Int)) = ((i + n : Nat) : Int) by rw [wrap64_id (by omega) (by omega)]; omega]
      refine Ev.bind (bit_ev A (i + n) hA (by omega)) ?_
      refine ev_now (with_next _ i (A / 2 ^ (i + n) % 2) (Nat.mod_lt _ (Nat.two_pow_pos i)) (by omega) (by omega)) ?_
      exact next
    · refine ev_neg (by omega) ?_
      rw [bit_of_lt (Nat.lt_of_lt_of_le hA (show 2 ^ 128 ≤ 2 ^ (i + n) from Nat.pow_le_pow_right (by decide) (by omega))), Nat.zero_mul, Nat.add_zero] at next
      exact next
theorem rshr_ev (A : Nat) (n : Int) (hA : A < 340282366920938463463374607431768211456) (hn : n < 9223372036854775808) :
    Ev (fun k => vernierref01_Shr.f k (hi A) (lo A) n) (hi (A / 2 ^ n.toNat), lo (A / 2 ^ n.toNat)) := by
  unfold vernierref01_Shr.f
  by_cases h : n ≤ 0
  · refine ev_pos h (ev_some fun k => ?_)
    rw [show n.toNat = 0 by omega, Nat.pow_zero, Nat.div_one]
  · refine ev_neg h ?_
    have := rshr_loop A n.toNat hA (by omega) 128 0 rfl
    rw [Int.toNat_of_nonneg (by omega), Nat.pow_zero, Nat.mod_one] at this
    exact this
/-- The jam, as far as the digits below i were looked at. -/
def jamTo (A n i : Nat) : Nat := if A % 2 ^ i = 0 then A / 2 ^ n else or1 (A / 2 ^ n)
theorem jamTo_top (A n i : Nat) (hA : A < 340282366920938463463374607431768211456) (hi' : i = 128 ∧ 128 ≤ n ∨ i = n) : jamTo A n i = jam A n := by
  unfold jamTo jam
  rcases hi' with ⟨rfl, h⟩ | rfl
  · rw [Nat.mod_eq_of_lt (show A < 2 ^ 128 from hA), Nat.mod_eq_of_lt (Nat.lt_of_lt_of_le hA (show 2 ^ 128 ≤ 2 ^ n from Nat.pow_le_pow_right (by decide) h))]
  · rfl
theorem rjam_loop (A n : Nat) (hA : A < 340282366920938463463374607431768211456) (hn : n < 9223372036854775808) (d : Nat) : ∀ i : Nat, i + d = min 128 n →
    Ev (fun k => vernierref01_Jam.l0 k (n : Int) (i : Int) (hi A) (lo A) (hi (jamTo A n i)) (lo (jamTo A n i))) (hi (jam A n), lo (jam A n)) := by
  induction d with
  | zero =>
    intro i h
    have ht := jamTo_top A n i hA (by omega)
    refine Ev.step (fun k => by rw [vernierref01_Jam.l0]) ?_
    by_cases h1 : i < 128
    · refine ev_pos (by omega) ?_
      refine Ev.step (fun k => by rw [vernierref01_Jam.j1]) ?_
      refine ev_neg (by simp only [decide_eq_true_eq]; omega) (ev_some fun k => ?_)
      rw [ht]
    · refine ev_neg (by omega) ?_
      refine Ev.step (fun k => by rw [vernierref01_Jam.j1]) ?_
      refine ev_neg (by decide) (ev_some fun k => ?_)
      rw [ht]
  | succ d ih =>
    intro i h
    refine Ev.step (fun k => by rw [vernierref01_Jam.l0]) ?_
    refine ev_pos (by omega) ?_
    refine Ev.step (fun k => by rw [vernierref01_Jam.j1]) ?_
    refine ev_pos (by simp only [decide_eq_true_eq]; omega) ?_
    refine Ev.bind (bit_ev A i hA (by omega)) ?_
    have next := ih (i + 1) (by omega)
    rw [show wrap64 ((i : Int) + 1) = ((i + 1 : Nat) : Int) by rw [wrap64_id (by omega) (by omega)]; omega]
    have hm := mod_succ A i
    have hb := bit_le A i
    have hp : 0 < 2 ^ i := Nat.two_pow_pos i
    have two : A / 2 ^ i % 2 = 0 ∨ A / 2 ^ i % 2 = 1 := by omega
    rcases two with h0 | h0
    · rw [h0] at hm ⊢
      refine ev_neg (by decide) ?_
      have hm' : A % 2 ^ (i + 1) = A % 2 ^ i := by omega
      have : jamTo A n (i + 1) = jamTo A n i := by unfold jamTo; rw [hm']
      rw [this] at next
      exact next
    · rw [h0] at hm ⊢
      refine ev_pos rfl ?_
      have e : or1 (jamTo A n i) = jamTo A n (i + 1) := by
        unfold jamTo
        rw [if_neg (c := A % 2 ^ (i + 1) = 0) (by omega)]
        split
        · rfl
        · exact or1_idem _
      obtain ⟨o1, o2⟩ := or1_lo (jamTo A n i)
      rw [o1, ← o2, e]
      exact next
theorem rjam_ev (A : Nat) (n : Int) (hA : A < 340282366920938463463374607431768211456) (hn : n < 9223372036854775808) :
    Ev (fun k => vernierref01_Jam.f k (hi A) (lo A) n) (hi (jam A n.toNat), lo (jam A n.toNat)) := by
  unfold vernierref01_Jam.f
  refine Ev.bind (rshr_ev A n hA hn) ?_
  have e0 : jamTo A n.toNat 0 = A / 2 ^ n.toNat := by unfold jamTo; rw [Nat.pow_zero, if_pos (Nat.mod_one A)]
  by_cases h : 0 ≤ n
  · have := rjam_loop A n.toNat hA (by omega) (min 128 n.toNat) 0 (by omega)
    rw [Int.toNat_of_nonneg h, e0] at this
    exact this
  · refine Ev.step (fun k => by rw [vernierref01_Jam.l0]) ?_
    refine ev_pos (by omega) ?_
    refine Ev.step (fun k => by rw [vernierref01_Jam.j1]) ?_
    refine ev_neg (by simp only [decide_eq_true_eq]; omega) (ev_some fun k => ?_)
    unfold jam
    rw [show n.toNat = 0 by omega, Nat.pow_zero, if_pos (Nat.mod_one A)]
end Go.Proofs.Ytidjigoghdghiaa.V
