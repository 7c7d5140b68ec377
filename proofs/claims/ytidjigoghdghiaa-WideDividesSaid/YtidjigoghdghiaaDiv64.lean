/- math/bits.Div64, as Go writes it, by halves: where the high word is below the divisor it answers quotient and remainder. Conditions: the three are words, high < divisor. -/
import Derived.Test.YtidjigoghdghiaaWordsB
import Derived.Test.YtidjigoghdghiaaVx24
namespace Go.Proofs.Ytidjigoghdghiaa.V
open Go.RowKit Go.Proofs.YtidjigoghdghiaaQ.PrintWords Go.Proofs.Ytidjigoghdghiaa.L
set_option linter.unusedVariables false

/-- A digit that is too great is told by the second half. -/
theorem dig_test {u y yn1 yn0 u1 q r : Nat} (hy : y = yn1 * 4294967296 + yn0) (hu : q * yn1 + r = u) : q * yn0 > 4294967296 * r + u1 ↔ u * 4294967296 + u1 < q * y := by
  have e1 : q * y = q * yn1 * 4294967296 + q * yn0 := by rw [hy]; grind
  rw [e1, ← hu, Nat.add_mul]
  omega
/-- What a loop over the digit's guess does: T true: one less; else out. -/
theorem dig_facts {u y yn1 yn0 u1 q r : Nat} (hy : y = yn1 * 4294967296 + yn0) (hyn : yn0 < 4294967296) (hu : q * yn1 + r = u) (huy : u < y) (hu1 : u1 < 4294967296) (hr : 4294967296 ≤ r) : q * y ≤ u * 4294967296 + u1 ∧ q < 4294967296 := by
  have hq : q < 4294967296 := by
    rcases Nat.lt_or_ge q 4294967296 with h | h
    · exact h
    · have : 4294967296 * yn1 ≤ q * yn1 := Nat.mul_le_mul_right _ h
      omega
  refine ⟨?_, hq⟩
  have e1 : q * y = q * yn1 * 4294967296 + q * yn0 := by rw [hy]; grind
  have e2 : q * yn0 ≤ 4294967295 * 4294967295 := Nat.mul_le_mul (by omega) (by omega)
  rw [e1, ← hu, Nat.add_mul]
  omega
theorem quot_lt_ {u y u1 : Nat} (huy : u < y) (hu1 : u1 < 4294967296) : (u * 4294967296 + u1) / y < 4294967296 := by
  rw [Nat.div_lt_iff_lt_mul (by omega)]
  have : (u + 1) * 4294967296 ≤ y * 4294967296 := Nat.mul_le_mul_right _ huy
  rw [Nat.mul_comm 4294967296 y]
  omega
theorem mulu_nat (a b : Nat) (h : a * b < 18446744073709551616) : IntKind.u64.wrap ((a : Int) * (b : Int)) = ((a * b : Nat) : Int) := by
  rw [show (a : Int) * (b : Int) = ((a * b : Nat) : Int) by simp, wrapu_nat h]

/-- A digit, by what it leaves: it is below 2^32; a greater one is too great. -/
theorem dig_small {y yn1 yn0 : Nat} (hy : y = yn1 * 4294967296 + yn0) (h1 : 2147483648 ≤ yn1) (h1' : yn1 < 4294967296) (h0 : yn0 < 4294967296) {u u1 Q R : Nat} (hm : y * Q + R = u * 4294967296 + u1) (hR : R < y) (hun : u < y) (hu1 : u1 < 4294967296) : Q < 4294967296 := by
  rcases Nat.lt_or_ge Q 4294967296 with h | h
  · exact h
  · have e1 : y * 4294967296 ≤ y * Q := Nat.mul_le_mul_left _ h
    have e2 : (u + 1) * 4294967296 ≤ y * 4294967296 := Nat.mul_le_mul_right _ hun
    omega
theorem dig_more {y yn1 yn0 : Nat} (hy : y = yn1 * 4294967296 + yn0) (h1 : 2147483648 ≤ yn1) (h1' : yn1 < 4294967296) (h0 : yn0 < 4294967296) {u u1 Q R q : Nat} (hm : y * Q + R = u * 4294967296 + u1) (hR : R < y) (hq : Q < q) : u * 4294967296 + u1 < q * y := by
  have e1 : y * (Q + 1) ≤ y * q := Nat.mul_le_mul_left _ hq
  rw [Nat.mul_add, Nat.mul_one] at e1
  rw [Nat.mul_comm q y]
  omega
theorem dig_le {y yn1 yn0 : Nat} (hy : y = yn1 * 4294967296 + yn0) (h1 : 2147483648 ≤ yn1) (h1' : yn1 < 4294967296) (h0 : yn0 < 4294967296) {u u1 Q R q : Nat} (hm : y * Q + R = u * 4294967296 + u1) (hR : R < y) (hq : q * y ≤ u * 4294967296 + u1) : q ≤ Q := by
  rcases Nat.lt_or_ge Q q with h | h
  · have := dig_more hy h1 h1' h0 hm hR h; omega
  · exact h
theorem dig_ge {y yn1 yn0 : Nat} (hy : y = yn1 * 4294967296 + yn0) (h1 : 2147483648 ≤ yn1) (h1' : yn1 < 4294967296) (h0 : yn0 < 4294967296) {u u1 Q R : Nat} (hm : y * Q + R = u * 4294967296 + u1) (hu1 : u1 < 4294967296) : Q ≤ u / yn1 := by
  rw [Nat.le_div_iff_mul_le (by omega)]
  have e1 : y * Q = Q * yn1 * 4294967296 + Q * yn0 := by rw [hy]; grind
  have : 0 ≤ Q * yn0 := Nat.zero_le _
  omega
section
variable {y s yn1 yn0 : Nat} (hy : y = yn1 * 4294967296 + yn0) (h1 : 2147483648 ≤ yn1) (h1' : yn1 < 4294967296) (h0 : yn0 < 4294967296)
include hy h1 h1' h0
theorem div_l1 {q1 un21 un0 Q R : Nat} (hm : y * Q + R = un21 * 4294967296 + un0) (hR : R < y) (hun : un21 < y) (hun0 : un0 < 4294967296) (hq1 : q1 < 4294967296) (hs : s < 64) (d : Nat) :
    ∀ q r : Nat, q = Q + d → q * yn1 + r = un21 → r < 4294967296 → q < 18446744073709551616 →
    Ev (fun k => bits_Div64.l1 k (y : Int) (s : Int) (yn1 : Int) (yn0 : Int) (un0 : Int) (q1 : Int) (r : Int) (un21 : Int) (q : Int))
      (((q1 * 4294967296 + Q : Nat) : Int), ((R / 2 ^ s : Nat) : Int)) := by
  have hQ := dig_small hy h1 h1' h0 hm hR hun hun0
  have hyp : 0 < y := by omega
  have hy64 : y < 18446744073709551616 := by omega
  -- the end: the digit is right
  have fin : ((if (0 : Int) ≤ (s : Int) then (some (IntKind.u64.wrap ((IntKind.u64.wrap ((q1 : Int) * 4294967296)) + (Q : Int)), shr .u64 (IntKind.u64.wrap ((IntKind.u64.wrap ((IntKind.u64.wrap ((un21 : Int) * 4294967296)) + (un0 : Int))) - (IntKind.u64.wrap ((Q : Int) * (y : Int))))) (s : Int))) else (none)) : Option (Int × Int)) =
      some (((q1 * 4294967296 + Q : Nat) : Int), ((R / 2 ^ s : Nat) : Int)) := by
    have eQ : (Q : Int) * (y : Int) = ((y * Q : Nat) : Int) := by rw [Nat.mul_comm]; simp
    rw [if_pos (by omega), eQ]
    generalize y * Q = P at *
    have e1 : IntKind.u64.wrap (IntKind.u64.wrap ((q1 : Int) * 4294967296) + (Q : Int)) = ((q1 * 4294967296 + Q : Nat) : Int) := by simp only [wrapu]; omega
    have e2 : IntKind.u64.wrap ((IntKind.u64.wrap ((IntKind.u64.wrap ((un21 : Int) * 4294967296)) + (un0 : Int))) - (IntKind.u64.wrap (P : Int))) = (R : Int) := by simp only [wrapu]; omega
    rw [e1, e2, shr_nat R s (by omega)]
  induction d with
  | zero =>
    intro q r hq hu hr hql
    rw [Nat.add_zero] at hq
    subst hq
    refine Ev.step (fun k => by rw [bits_Div64.l1]) ?_
    refine ev_neg (by omega) ?_
    refine Ev.step (fun k => by rw [bits_Div64.j4]) ?_
    have ht := dig_test (u1 := un0) hy hu
    rw [Nat.mul_comm q y] at ht
    have p1 : q * yn0 ≤ 4294967295 * 4294967295 := Nat.mul_le_mul (by omega) (by omega)
    refine ev_neg ?_ (ev_some fun k => fin)
    rw [mulu_nat _ _ (by omega)]
    simp only [decide_eq_true_eq, wrapu]
    omega
  | succ d ih =>
    intro q r hq hu hr hql
    refine Ev.step (fun k => by rw [bits_Div64.l1]) ?_
    have step : Ev (fun k => bits_Div64.j4 k (y : Int) (s : Int) (yn1 : Int) (yn0 : Int) (un0 : Int) (q1 : Int) (r : Int) (un21 : Int) (q : Int) true)
      (((q1 * 4294967296 + Q : Nat) : Int), ((R / 2 ^ s : Nat) : Int)) := by
      refine Ev.step (fun k => by rw [bits_Div64.j4]) ?_
      refine ev_pos rfl ?_
      have er : IntKind.u64.wrap ((r : Int) + (yn1 : Int)) = ((r + yn1 : Nat) : Int) := by rw [wrapu]; omega
      have eq : IntKind.u64.wrap ((q : Int) - 1) = ((q - 1 : Nat) : Int) := by rw [wrapu]; omega
      have hu' : (q - 1) * yn1 + (r + yn1) = un21 := by
        have : q * yn1 = (q - 1) * yn1 + yn1 := by rw [← Nat.succ_mul, Nat.succ_eq_add_one, Nat.sub_add_cancel (by omega)]
        omega
      rw [er, eq]
      by_cases hb : r + yn1 ≥ 4294967296
      · refine ev_pos (by omega) ?_
        obtain ⟨f1, f2⟩ := dig_facts hy h0 hu' hun hun0 hb
        have hle := dig_le hy h1 h1' h0 hm hR f1
        have hd : q - 1 = Q := by omega
        rw [hd]
        exact ev_some fun k => fin
      · refine ev_neg (by omega) ?_
        exact ih (q - 1) (r + yn1) (by omega) hu' (by omega) (by omega)
    by_cases hb : q ≥ 4294967296
    · exact ev_pos (by omega) step
    · refine ev_neg (by omega) ?_
      have ht := dig_test (u1 := un0) hy hu
      have hgt := dig_more hy h1 h1' h0 hm hR (show Q < q by omega)
      have p1 : q * yn0 ≤ 4294967295 * 4294967295 := Nat.mul_le_mul (by omega) (by omega)
      have e : decide (IntKind.u64.wrap ((q : Int) * (yn0 : Int)) > IntKind.u64.wrap (IntKind.u64.wrap (4294967296 * (r : Int)) + (un0 : Int))) = true := by
        rw [mulu_nat _ _ (by omega)]
        simp only [decide_eq_true_eq, wrapu]
        have := ht.2 hgt
        omega
      rw [e]
      exact step
theorem div_l0 {un32 un1 un0 Q R Q2 R2 : Nat} (hm : y * Q + R = un32 * 4294967296 + un1) (hR : R < y) (hm2 : y * Q2 + R2 = R * 4294967296 + un0) (hR2 : R2 < y) (hun : un32 < y) (hun1 : un1 < 4294967296) (hun0 : un0 < 4294967296) (hs : s < 64) (d : Nat) :
    ∀ q r : Nat, q = Q + d → q * yn1 + r = un32 → r < 4294967296 → q < 18446744073709551616 →
    Ev (fun k => bits_Div64.l0 k (y : Int) (s : Int) (yn1 : Int) (yn0 : Int) (un32 : Int) (un1 : Int) (un0 : Int) (q : Int) (r : Int))
      (((Q * 4294967296 + Q2 : Nat) : Int), ((R2 / 2 ^ s : Nat) : Int)) := by
  have hQ := dig_small hy h1 h1' h0 hm hR hun hun1
  have hyp : 0 < y := by omega
  have hy64 : y < 18446744073709551616 := by omega
  have fin : Ev (fun k => bits_Div64.j2 k (y : Int) (s : Int) (yn1 : Int) (yn0 : Int) (un32 : Int) (un1 : Int) (un0 : Int) (Q : Int))
      (((Q * 4294967296 + Q2 : Nat) : Int), ((R2 / 2 ^ s : Nat) : Int)) := by
    refine Ev.step (fun k => by rw [bits_Div64.j2]) ?_
    refine ev_neg (by omega) ?_
    have eQ : (Q : Int) * (y : Int) = ((y * Q : Nat) : Int) := by rw [Nat.mul_comm]; simp
    have e2 : IntKind.u64.wrap ((IntKind.u64.wrap ((IntKind.u64.wrap ((un32 : Int) * 4294967296)) + (un1 : Int))) - (IntKind.u64.wrap ((Q : Int) * (y : Int)))) = (R : Int) := by
      rw [eQ]
      generalize y * Q = P at *
      simp only [wrapu]; omega
    simp only [e2]
    have hge := dig_ge hy h1 h1' h0 hm2 hun0
    have hRd := Nat.div_add_mod R yn1
    have hRl := Nat.mod_lt R (show 0 < yn1 by omega)
    have hdl : R / yn1 ≤ R := Nat.div_le_self _ _
    have ed : Int.tdiv (R : Int) (yn1 : Int) = ((R / yn1 : Nat) : Int) := by rw [Int.tdiv_eq_ediv_of_nonneg (by omega)]; simp
    rw [ed, wrapu_nat (by omega)]
    have em : (((R / yn1 : Nat) : Int)) * (yn1 : Int) = ((yn1 * (R / yn1) : Nat) : Int) := by rw [Nat.mul_comm]; simp
    have er : IntKind.u64.wrap ((R : Int) - IntKind.u64.wrap (((R / yn1 : Nat) : Int) * (yn1 : Int))) = ((R % yn1 : Nat) : Int) := by
      rw [em]
      generalize yn1 * (R / yn1) = P at *
      simp only [wrapu]; omega
    rw [er]
    exact div_l1 hy h1 h1' h0 (q1 := Q) hm2 hR2 hR hun0 hQ hs (R / yn1 - Q2) (R / yn1) (R % yn1) (by omega) (by rw [Nat.mul_comm]; exact hRd) (by omega) (by omega)
  induction d with
  | zero =>
    intro q r hq hu hr hql
    rw [Nat.add_zero] at hq
    subst hq
    refine Ev.step (fun k => by rw [bits_Div64.l0]) ?_
    refine ev_neg (by omega) ?_
    refine Ev.step (fun k => by rw [bits_Div64.j1]) ?_
    refine ev_neg ?_ fin
    have ht := dig_test (u1 := un1) hy hu
    rw [Nat.mul_comm q y] at ht
    have p1 : q * yn0 ≤ 4294967295 * 4294967295 := Nat.mul_le_mul (by omega) (by omega)
    rw [mulu_nat _ _ (by omega)]
    simp only [decide_eq_true_eq, wrapu]
    omega
  | succ d ih =>
    intro q r hq hu hr hql
    refine Ev.step (fun k => by rw [bits_Div64.l0]) ?_
    have step : Ev (fun k => bits_Div64.j1 k (y : Int) (s : Int) (yn1 : Int) (yn0 : Int) (un32 : Int) (un1 : Int) (un0 : Int) (q : Int) (r : Int) true)
      (((Q * 4294967296 + Q2 : Nat) : Int), ((R2 / 2 ^ s : Nat) : Int)) := by
      refine Ev.step (fun k => by rw [bits_Div64.j1]) ?_
      refine ev_pos rfl ?_
      have er : IntKind.u64.wrap ((r : Int) + (yn1 : Int)) = ((r + yn1 : Nat) : Int) := by rw [wrapu]; omega
      have eq : IntKind.u64.wrap ((q : Int) - 1) = ((q - 1 : Nat) : Int) := by rw [wrapu]; omega
      have hu' : (q - 1) * yn1 + (r + yn1) = un32 := by
        have : q * yn1 = (q - 1) * yn1 + yn1 := by rw [← Nat.succ_mul, Nat.succ_eq_add_one, Nat.sub_add_cancel (by omega)]
        omega
      rw [er, eq]
      by_cases hb : r + yn1 ≥ 4294967296
      · refine ev_pos (by omega) ?_
        obtain ⟨f1, f2⟩ := dig_facts hy h0 hu' hun hun1 hb
        have hle := dig_le hy h1 h1' h0 hm hR f1
        have hd : q - 1 = Q := by omega
        rw [hd]
        exact fin
      · refine ev_neg (by omega) ?_
        exact ih (q - 1) (r + yn1) (by omega) hu' (by omega) (by omega)
    by_cases hb : q ≥ 4294967296
    · exact ev_pos (by omega) step
    · refine ev_neg (by omega) ?_
      have ht := dig_test (u1 := un1) hy hu
      have hgt := dig_more hy h1 h1' h0 hm hR (show Q < q by omega)
      have p1 : q * yn0 ≤ 4294967295 * 4294967295 := Nat.mul_le_mul (by omega) (by omega)
      have e : decide (IntKind.u64.wrap ((q : Int) * (yn0 : Int)) > IntKind.u64.wrap (IntKind.u64.wrap (4294967296 * (r : Int)) + (un1 : Int))) = true := by
        rw [mulu_nat _ _ (by omega)]
        simp only [decide_eq_true_eq, wrapu]
        have := ht.2 hgt
        omega
      rw [e]
      exact step
end

theorem div64_ev (h l y : Nat) (hy : y < 18446744073709551616) (hh : h < y) (hl : l < 18446744073709551616) :
    Ev (fun k => bits_Div64.f k (h : Int) (l : Int) (y : Int)) (((((h * 18446744073709551616 + l) / y : Nat)) : Int), (((h * 18446744073709551616 + l) % y : Nat) : Int)) := by
  unfold bits_Div64.f
  refine ev_neg (by omega) ?_
  refine ev_neg (by omega) ?_
  by_cases h0 : h = 0
  · subst h0
    refine ev_pos rfl (ev_some fun k => ?_)
    rw [Nat.zero_mul, Nat.zero_add, Int.tdiv_eq_ediv_of_nonneg (by omega), Int.tmod_eq_emod_of_nonneg (by omega)]
    have : l / y ≤ l := Nat.div_le_self _ _
    rw [show (l : Int) / (y : Int) = ((l / y : Nat) : Int) by simp, wrapu_nat (by omega)]
    simp
  refine ev_neg (by omega) ?_
  obtain ⟨b1, b2, b3⟩ := bitLen_spec y hy
  have b2' := b2 (by omega)
  have hbl := Lib.bitLen_le y 64 (by decide) hy
  have hbp : 0 < Lib.bitLen y := by
    rcases Nat.eq_zero_or_pos (Lib.bitLen y) with h' | h'
    · rw [h'] at b1; omega
    · exact h'
  have lz : bits_LeadingZeros64.f (y : Int) = some (((64 - Lib.bitLen y : Nat)) : Int) := by
    unfold bits_LeadingZeros64.f
    rw [len64 y hy]
    simp only [Option.bind_some]
    rw [wrap64_id (by omega) (by omega)]
    congr 1; omega
  refine ev_now lz ?_
  generalize hs : 64 - Lib.bitLen y = s at *
  have hs64 : s < 64 := by omega
  rw [wrapu_nat (by omega)]
  refine ev_pos (by omega) ?_
  have e64 : IntKind.u64.wrap (64 - (s : Int)) = ((64 - s : Nat) : Int) := by rw [wrapu]; omega
  rw [e64]
  refine ev_pos (by omega) ?_
  -- the normalized divisor
  have hP : 0 < 2 ^ s := Nat.two_pow_pos s
  have hQ : 0 < 2 ^ (64 - s) := Nat.two_pow_pos (64 - s)
  have hPQ : 2 ^ s * 2 ^ (64 - s) = 18446744073709551616 := by rw [← Nat.pow_add, show s + (64 - s) = 64 by omega]
  have hbe : Lib.bitLen y = 64 - s := by omega
  rw [hbe] at b1 b2'
  have hyP : y * 2 ^ s < 18446744073709551616 := by rw [← hPQ, Nat.mul_comm]; exact Nat.mul_lt_mul_of_pos_left b1 hP
  have hyP2 : 9223372036854775808 ≤ y * 2 ^ s := by
    have : 2 ^ (64 - s - 1) * 2 ^ s ≤ y * 2 ^ s := Nat.mul_le_mul_right _ b2'
    rw [← Nat.pow_add, show 64 - s - 1 + s = 63 by omega] at this
    exact this
  rw [shl_exact y s (by omega) hyP]
  have hY : ((y * 2 ^ s : Nat) : Int) / 4294967296 = ((y * 2 ^ s / 4294967296 : Nat) : Int) := by omega
  have hYm : Go.bits .and .u64 ((y * 2 ^ s : Nat) : Int) 4294967295 = ((y * 2 ^ s % 4294967296 : Nat) : Int) := and_mask32 _ hyP
  -- the dividend's upper words
  have hhQ : h < 2 ^ (64 - s) := by omega
  have hhP : h * 2 ^ s < 18446744073709551616 := Nat.lt_of_lt_of_le (Nat.mul_lt_mul_of_pos_right hh hP) (by omega)
  have hlQ : l / 2 ^ (64 - s) < 2 ^ s := by rw [Nat.div_lt_iff_lt_mul hQ, hPQ]; exact hl
  have hsum : h * 2 ^ s + l / 2 ^ (64 - s) < y * 2 ^ s := by
    have : (h + 1) * 2 ^ s ≤ y * 2 ^ s := Nat.mul_le_mul_right _ hh
    rw [Nat.add_mul] at this
    omega
  have hun32 : Go.bits .or .u64 (shl .u64 (h : Int) (s : Int)) (shr .u64 (l : Int) ((64 - s : Nat) : Int)) = ((h * 2 ^ s + l / 2 ^ (64 - s) : Nat) : Int) := by
    rw [shl_exact h s (by omega) hhP, shr_nat l (64 - s) (by omega), or_add _ _ s hlQ (Nat.mul_mod_left _ _) (by omega)]
  have hl10 : shl .u64 (l : Int) (s : Int) = ((l % 2 ^ (64 - s) * 2 ^ s : Nat) : Int) := by
    rw [shl_nat l s (by omega), ← hPQ, Nat.mul_comm (2 ^ s), Nat.mul_mod_mul_right]
  have hl10lt : l % 2 ^ (64 - s) * 2 ^ s < 18446744073709551616 := by
    rw [← hPQ, Nat.mul_comm]
    exact Nat.mul_lt_mul_of_pos_left (Nat.mod_lt _ hQ) hP
  rw [hY, hYm, hun32, hl10]
  have key : (h * 18446744073709551616 + l) * 2 ^ s = (h * 2 ^ s + l / 2 ^ (64 - s)) * 18446744073709551616 + l % 2 ^ (64 - s) * 2 ^ s := by
    have e1 := Nat.div_add_mod l (2 ^ (64 - s))
    have e2 : l * 2 ^ s = l / 2 ^ (64 - s) * 18446744073709551616 + l % 2 ^ (64 - s) * 2 ^ s := by
      rw [← hPQ]
      have : (2 ^ (64 - s) * (l / 2 ^ (64 - s)) + l % 2 ^ (64 - s)) * 2 ^ s = l * 2 ^ s := by rw [e1]
      rw [← this]; grind
    rw [Nat.add_mul, e2]; grind
  have fq : (h * 18446744073709551616 + l) / y = (h * 18446744073709551616 + l) * 2 ^ s / (y * 2 ^ s) := (Nat.mul_div_mul_right _ _ hP).symm
  have fr : (h * 18446744073709551616 + l) % y = (h * 18446744073709551616 + l) * 2 ^ s % (y * 2 ^ s) / 2 ^ s := by
    rw [Nat.mul_mod_mul_right, Nat.mul_div_cancel _ hP]
  rw [fq, fr, key]
  clear key fq fr hl10 hun32 lz hhP hhQ hlQ b1 b2 b2' b3 hbl hbp hbe
  generalize y * 2 ^ s = Y at *
  generalize h * 2 ^ s + l / 2 ^ (64 - s) = U at *
  generalize l % 2 ^ (64 - s) * 2 ^ s = L at *
  have eL1 : ((L : Nat) : Int) / 4294967296 = ((L / 4294967296 : Nat) : Int) := by omega
  rw [eL1, and_mask32 L hl10lt]
  refine ev_neg (by omega) ?_
  have hYd : Y = Y / 4294967296 * 4294967296 + Y % 4294967296 := by omega
  have hUL := Nat.div_add_mod L 4294967296
  have hU1 : U * 18446744073709551616 + L = (U * 4294967296 + L / 4294967296) * 4294967296 + L % 4294967296 := by omega
  have hL1 : L / 4294967296 < 4294967296 := by omega
  have hL0 : L % 4294967296 < 4294967296 := by omega
  have hn1 : 2147483648 ≤ Y / 4294967296 := by omega
  have hn1' : Y / 4294967296 < 4294967296 := by omega
  have hn0 : Y % 4294967296 < 4294967296 := by omega
  rw [hU1]
  generalize L / 4294967296 = u1 at *
  generalize L % 4294967296 = u0 at *
  generalize Y / 4294967296 = y1 at *
  generalize Y % 4294967296 = y0 at *
  have hYp : 0 < Y := by omega
  -- the first guess
  have hR := Nat.div_add_mod U y1
  have hRl := Nat.mod_lt U (show 0 < y1 by omega)
  have hdl : U / y1 ≤ U := Nat.div_le_self _ _
  have ed : Int.tdiv (U : Int) (y1 : Int) = ((U / y1 : Nat) : Int) := by rw [Int.tdiv_eq_ediv_of_nonneg (by omega)]; simp
  have em : (((U / y1 : Nat) : Int)) * (y1 : Int) = ((y1 * (U / y1) : Nat) : Int) := by rw [Nat.mul_comm]; simp
  have er : IntKind.u64.wrap ((U : Int) - IntKind.u64.wrap (((U / y1 : Nat) : Int) * (y1 : Int))) = ((U % y1 : Nat) : Int) := by
    rw [em]
    generalize y1 * (U / y1) = P at *
    simp only [wrapu]; omega
  rw [ed, wrapu_nat (by omega), er]
  -- the whole quotient by its two digits
  obtain ⟨Q, hQ⟩ : ∃ Q, Q = (U * 4294967296 + u1) / Y := ⟨_, rfl⟩
  obtain ⟨R, hRe⟩ : ∃ R, R = (U * 4294967296 + u1) % Y := ⟨_, rfl⟩
  have hm : Y * Q + R = U * 4294967296 + u1 := by rw [hQ, hRe]; exact Nat.div_add_mod _ Y
  have hRY : R < Y := by rw [hRe]; exact Nat.mod_lt _ hYp
  clear hQ hRe
  obtain ⟨Q2, hQ2⟩ : ∃ Q2, Q2 = (R * 4294967296 + u0) / Y := ⟨_, rfl⟩
  obtain ⟨R2, hR2e⟩ : ∃ R2, R2 = (R * 4294967296 + u0) % Y := ⟨_, rfl⟩
  have hm2 : Y * Q2 + R2 = R * 4294967296 + u0 := by rw [hQ2, hR2e]; exact Nat.div_add_mod _ Y
  have hR2Y : R2 < Y := by rw [hR2e]; exact Nat.mod_lt _ hYp
  clear hQ2 hR2e
  have hge := dig_ge hYd hn1 hn1' hn0 hm hL1
  have main := div_l0 (s := s) hYd hn1 hn1' hn0 hm hRY hm2 hR2Y hsum hL1 hL0 hs64 (U / y1 - Q) (U / y1) (U % y1) (by omega) (by rw [Nat.mul_comm]; exact hR) (by omega) (by omega)
  have split : (U * 4294967296 + u1) * 4294967296 + u0 = Y * (Q * 4294967296 + Q2) + R2 := by
    rw [← hm]; grind
  have q2 : ((U * 4294967296 + u1) * 4294967296 + u0) / Y = Q * 4294967296 + Q2 := by
    rw [split, Nat.mul_add_div hYp, Nat.div_eq_of_lt hR2Y, Nat.add_zero]
  have r2 : ((U * 4294967296 + u1) * 4294967296 + u0) % Y = R2 := by
    rw [split, Nat.mul_add_mod, Nat.mod_eq_of_lt hR2Y]
  rw [q2, r2]
  exact main
end Go.Proofs.Ytidjigoghdghiaa.V
