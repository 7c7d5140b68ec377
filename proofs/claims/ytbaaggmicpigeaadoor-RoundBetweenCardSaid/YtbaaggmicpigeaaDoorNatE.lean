/- Plain law: math/bits.Div64, as Go writes it, by halves: where the high word is below the divisor it answers quotient and remainder. Conditions: the three are words, high < divisor. -/
import Derived.Test.YtbaaggmicpigeaaDoorNatD
namespace Go.Proofs.YtbaaggmicpigeaaDoor.X
open Go Go.Rex
set_option linter.unusedVariables false

/-- A digit that is too great is told by the second half. -/
theorem dig_test {u y yn1 yn0 u1 q r : Nat} (hy : y = yn1 * 4294967296 + yn0) (hu : q * yn1 + r = u) : q * yn0 > 4294967296 * r + u1 ↔ u * 4294967296 + u1 < q * y := by
  have e1 : q * y = q * yn1 * 4294967296 + q * yn0 := by rw [hy]; grind
  rw [e1, ← hu, Nat.add_mul]
  omega
/-- What a loop over the digit's guess does: T true: one less; else out. -/
theorem dig_facts {u y yn1 yn0 u1 q r : Nat} (hy : y = yn1 * 4294967296 + yn0) (hyn : yn0 < 4294967296) (hu : q * yn1 + r = u) (huy : u < y) (hu1 : u1 < 4294967296) (hr : 4294967296 ≤ r) : q * y ≤ u * 4294967296 + u1 ∧ q < 4294967296 := by
  have hq : q < 4294967296 := by
    rcases Nat.lt_or_ge q 4294967296 with h | h
    · exact h
    · have : 4294967296 * yn1 ≤ q * yn1 := Nat.mul_le_mul_right _ h
      omega
  refine ⟨?_, hq⟩
  have e1 : q * y = q * yn1 * 4294967296 + q * yn0 := by rw [hy]; grind
  have e2 : q * yn0 ≤ 4294967295 * 4294967295 := Nat.mul_le_mul (by omega) (by omega)
  rw [e1, ← hu, Nat.add_mul]
  omega
theorem quot_lt_ {u y u1 : Nat} (huy : u < y) (hu1 : u1 < 4294967296) : (u * 4294967296 + u1) / y < 4294967296 := by
  rw [Nat.div_lt_iff_lt_mul (by omega)]
  have : (u + 1) * 4294967296 ≤ y * 4294967296 := Nat.mul_le_mul_right _ huy
  rw [Nat.mul_comm 4294967296 y]
  omega
theorem mulu_nat (a b : Nat) (h : a * b < 18446744073709551616) : IntKind.u64.wrap ((a : Int) * (b : Int)) = ((a * b : Nat) : Int) := by
  rw [← Int.natCast_mul, wrapUn h]

/-- A digit, by what it leaves: it is below 2^32; a greater one is too great. -/
theorem dig_small {y yn1 yn0 : Nat} (hy : y = yn1 * 4294967296 + yn0) (h1 : 2147483648 ≤ yn1) (h1' : yn1 < 4294967296) (h0 : yn0 < 4294967296) {u u1 Q R : Nat} (hm : y * Q + R = u * 4294967296 + u1) (hR : R < y) (hun : u < y) (hu1 : u1 < 4294967296) : Q < 4294967296 := by
  rcases Nat.lt_or_ge Q 4294967296 with h | h
  · exact h
  · have e1 : y * 4294967296 ≤ y * Q := Nat.mul_le_mul_left _ h
    have e2 : (u + 1) * 4294967296 ≤ y * 4294967296 := Nat.mul_le_mul_right _ hun
    omega
theorem dig_more {y yn1 yn0 : Nat} (hy : y = yn1 * 4294967296 + yn0) (h1 : 2147483648 ≤ yn1) (h1' : yn1 < 4294967296) (h0 : yn0 < 4294967296) {u u1 Q R q : Nat} (hm : y * Q + R = u * 4294967296 + u1) (hR : R < y) (hq : Q < q) : u * 4294967296 + u1 < q * y := by
  have e1 : y * (Q + 1) ≤ y * q := Nat.mul_le_mul_left _ hq
  rw [Nat.mul_add, Nat.mul_one] at e1
  rw [Nat.mul_comm q y]
  omega
theorem dig_le {y yn1 yn0 : Nat} (hy : y = yn1 * 4294967296 + yn0) (h1 : 2147483648 ≤ yn1) (h1' : yn1 < 4294967296) (h0 : yn0 < 4294967296) {u u1 Q R q : Nat} (hm : y * Q + R = u * 4294967296 + u1) (hR : R < y) (hq : q * y ≤ u * 4294967296 + u1) : q ≤ Q := by
  rcases Nat.lt_or_ge Q q with h | h
  · have := dig_more hy h1 h1' h0 hm hR h; omega
  · exact h
theorem dig_ge {y yn1 yn0 : Nat} (hy : y = yn1 * 4294967296 + yn0) (h1 : 2147483648 ≤ yn1) (h1' : yn1 < 4294967296) (h0 : yn0 < 4294967296) {u u1 Q R : Nat} (hm : y * Q + R = u * 4294967296 + u1) (hu1 : u1 < 4294967296) : Q ≤ u / yn1 := by
  rw [Nat.le_div_iff_mul_le (by omega)]
  have e1 : y * Q = Q * yn1 * 4294967296 + Q * yn0 := by rw [hy]; grind
  have : 0 ≤ Q * yn0 := Nat.zero_le _
  omega
section
variable {y s yn1 yn0 : Nat} (hy : y = yn1 * 4294967296 + yn0) (h1 : 2147483648 ≤ yn1) (h1' : yn1 < 4294967296) (h0 : yn0 < 4294967296)
include hy h1 h1' h0
theorem div_l1 {q1 un21 un0 Q R : Nat} (hm : y * Q + R = un21 * 4294967296 + un0) (hR : R < y) (hun : un21 < y) (hun0 : un0 < 4294967296) (hq1 : q1 < 4294967296) (hs : s < 64) (d : Nat) :
    ∀ q r : Nat, q = Q + d → q * yn1 + r = un21 → r < 4294967296 → q < 18446744073709551616 →
    Ev2 (fun k n => bits_Div64.l1 k n (y : Int) (s : Int) (yn1 : Int) (yn0 : Int) (un0 : Int) (q1 : Int) (r : Int) (un21 : Int) (q : Int))
      (((q1 * 4294967296 + Q : Nat) : Int), ((R / 2 ^ s : Nat) : Int)) := by
  have hQ := dig_small hy h1 h1' h0 hm hR hun hun0
  have hyp : 0 < y := by omega
  have hy64 : y < 18446744073709551616 := by omega
  -- the end: the digit is right
  have fin : ((if (0 : Int) ≤ (s : Int) then some ((IntKind.u64.wrap ((IntKind.u64.wrap ((q1 : Int) * 4294967296)) + (Q : Int))), (shrK IntKind.u64 (IntKind.u64.wrap ((IntKind.u64.wrap ((IntKind.u64.wrap ((un21 : Int) * 4294967296)) + (un0 : Int))) - (IntKind.u64.wrap ((Q : Int) * (y : Int))))) (s : Int))) else none) : Option (Int × Int)) =
      some (((q1 * 4294967296 + Q : Nat) : Int), ((R / 2 ^ s : Nat) : Int)) := by
    have eQ : (Q : Int) * (y : Int) = ((y * Q : Nat) : Int) := by rw [Nat.mul_comm]; simp
    rw [if_pos (by omega), eQ]
    generalize y * Q = P at *
    have e1 : IntKind.u64.wrap (IntKind.u64.wrap ((q1 : Int) * 4294967296) + (Q : Int)) = ((q1 * 4294967296 + Q : Nat) : Int) := by simp only [wrap_u64]; omega
    have e2 : IntKind.u64.wrap ((IntKind.u64.wrap ((IntKind.u64.wrap ((un21 : Int) * 4294967296)) + (un0 : Int))) - (IntKind.u64.wrap (P : Int))) = (R : Int) := by simp only [wrap_u64]; omega
    rw [e1, e2, shrK_nat R s (by omega)]
  induction d with
  | zero =>
    intro q r hq hu hr hql
    rw [Nat.add_zero] at hq
    subst hq
    refine Ev2.step (fun k n => bits_Div64.l1_eq k n _ _ _ _ _ _ _ _ _) ?_
    refine Ev2.neg (dF (by omega)) ?_
    have ht := dig_test (u1 := un0) hy hu
    rw [Nat.mul_comm q y] at ht
    have p1 : q * yn0 ≤ 4294967295 * 4294967295 := Nat.mul_le_mul (by omega) (by omega)
    refine Ev2.neg ?_ (Ev2.of fun _ _ => fin)
    rw [mulu_nat _ _ (by omega)]
    refine dF ?_
    simp only [wrap_u64]
    omega
  | succ d ih =>
    intro q r hq hu hr hql
    refine Ev2.step (fun k n => bits_Div64.l1_eq k n _ _ _ _ _ _ _ _ _) ?_
    have er : IntKind.u64.wrap ((r : Int) + (yn1 : Int)) = ((r + yn1 : Nat) : Int) := by rw [wrap_u64]; omega
    have eq : IntKind.u64.wrap ((q : Int) - 1) = ((q - 1 : Nat) : Int) := by rw [wrap_u64]; omega
    have hu' : (q - 1) * yn1 + (r + yn1) = un21 := by
      have : q * yn1 = (q - 1) * yn1 + yn1 := by rw [← Nat.succ_mul, Nat.succ_eq_add_one, Nat.sub_add_cancel (by omega)]
      omega
    rw [er, eq]
    have step : Ev2 (fun k n => if decide (((r + yn1 : Nat) : Int) ≥ 4294967296) = true then (if (0 : Int) ≤ (s : Int) then some ((IntKind.u64.wrap ((IntKind.u64.wrap ((q1 : Int) * 4294967296)) + ((q - 1 : Nat) : Int))), (shrK IntKind.u64 (IntKind.u64.wrap ((IntKind.u64.wrap ((IntKind.u64.wrap ((un21 : Int) * 4294967296)) + (un0 : Int))) - (IntKind.u64.wrap (((q - 1 : Nat) : Int) * (y : Int))))) (s : Int))) else none)
        else bits_Div64.l1 k n (y : Int) (s : Int) (yn1 : Int) (yn0 : Int) (un0 : Int) (q1 : Int) ((r + yn1 : Nat) : Int) (un21 : Int) ((q - 1 : Nat) : Int))
      (((q1 * 4294967296 + Q : Nat) : Int), ((R / 2 ^ s : Nat) : Int)) := by
      by_cases hb : r + yn1 ≥ 4294967296
      · refine Ev2.pos (dT (by omega)) ?_
        obtain ⟨f1, f2⟩ := dig_facts hy h0 hu' hun hun0 hb
        have hle := dig_le hy h1 h1' h0 hm hR f1
        have hd : q - 1 = Q := by omega
        rw [hd]
        exact Ev2.of fun _ _ => fin
      · refine Ev2.neg (dF (by omega)) ?_
        exact ih (q - 1) (r + yn1) (by omega) hu' (by omega) (by omega)
    by_cases hb : q ≥ 4294967296
    · exact Ev2.pos (dT (by omega)) step
    · refine Ev2.neg (dF (by omega)) ?_
      have ht := dig_test (u1 := un0) hy hu
      have hgt := dig_more hy h1 h1' h0 hm hR (show Q < q by omega)
      have p1 : q * yn0 ≤ 4294967295 * 4294967295 := Nat.mul_le_mul (by omega) (by omega)
      refine Ev2.pos ?_ step
      rw [mulu_nat _ _ (by omega)]
      refine dT ?_
      simp only [wrap_u64]
      have := ht.2 hgt
      omega
theorem div_l0 {un32 un1 un0 Q R Q2 R2 : Nat} (hm : y * Q + R = un32 * 4294967296 + un1) (hR : R < y) (hm2 : y * Q2 + R2 = R * 4294967296 + un0) (hR2 : R2 < y) (hun : un32 < y) (hun1 : un1 < 4294967296) (hun0 : un0 < 4294967296) (hs : s < 64) (d : Nat) :
    ∀ q r : Nat, q = Q + d → q * yn1 + r = un32 → r < 4294967296 → q < 18446744073709551616 →
    Ev2 (fun k n => bits_Div64.l0 k n (y : Int) (s : Int) (yn1 : Int) (yn0 : Int) (un32 : Int) (un1 : Int) (un0 : Int) (q : Int) (r : Int))
      (((Q * 4294967296 + Q2 : Nat) : Int), ((R2 / 2 ^ s : Nat) : Int)) := by
  have hQ := dig_small hy h1 h1' h0 hm hR hun hun1
  have hyp : 0 < y := by omega
  have hy64 : y < 18446744073709551616 := by omega
  have fin : Ev2 (fun k (n : Nat) => (if (yn1 : Int) = 0 then none else bits_Div64.l1 k k (y : Int) (s : Int) (yn1 : Int) (yn0 : Int) (un0 : Int) (Q : Int) (IntKind.u64.wrap ((IntKind.u64.wrap ((IntKind.u64.wrap ((IntKind.u64.wrap ((un32 : Int) * 4294967296)) + (un1 : Int))) - (IntKind.u64.wrap ((Q : Int) * (y : Int))))) - (IntKind.u64.wrap ((IntKind.u64.wrap ((IntKind.u64.wrap ((IntKind.u64.wrap ((IntKind.u64.wrap ((un32 : Int) * 4294967296)) + (un1 : Int))) - (IntKind.u64.wrap ((Q : Int) * (y : Int))))).tdiv (yn1 : Int))) * (yn1 : Int))))) (IntKind.u64.wrap ((IntKind.u64.wrap ((IntKind.u64.wrap ((un32 : Int) * 4294967296)) + (un1 : Int))) - (IntKind.u64.wrap ((Q : Int) * (y : Int))))) (IntKind.u64.wrap ((IntKind.u64.wrap ((IntKind.u64.wrap ((IntKind.u64.wrap ((un32 : Int) * 4294967296)) + (un1 : Int))) - (IntKind.u64.wrap ((Q : Int) * (y : Int))))).tdiv (yn1 : Int)))))
      (((Q * 4294967296 + Q2 : Nat) : Int), ((R2 / 2 ^ s : Nat) : Int)) := by
    refine Ev2.neg (by omega) ?_
    have eQ : (Q : Int) * (y : Int) = ((y * Q : Nat) : Int) := by rw [Nat.mul_comm]; simp
    have e2 : IntKind.u64.wrap ((IntKind.u64.wrap ((IntKind.u64.wrap ((un32 : Int) * 4294967296)) + (un1 : Int))) - (IntKind.u64.wrap ((Q : Int) * (y : Int)))) = (R : Int) := by
      rw [eQ]
      generalize y * Q = P at *
      simp only [wrap_u64]; omega
    simp only [e2]
    have hge := dig_ge hy h1 h1' h0 hm2 hun0
    have hRd := Nat.div_add_mod R yn1
    have hRl := Nat.mod_lt R (show 0 < yn1 by omega)
    have hdl : R / yn1 ≤ R := Nat.div_le_self _ _
    rw [tdiv_nat, wrapUn (show R / yn1 < 18446744073709551616 by omega)]
    have em : (((R / yn1 : Nat) : Int)) * (yn1 : Int) = ((yn1 * (R / yn1) : Nat) : Int) := by rw [Nat.mul_comm]; simp
    have er : IntKind.u64.wrap ((R : Int) - IntKind.u64.wrap (((R / yn1 : Nat) : Int) * (yn1 : Int))) = ((R % yn1 : Nat) : Int) := by
      rw [em]
      generalize yn1 * (R / yn1) = P at *
      simp only [wrap_u64]; omega
    rw [er]
    exact (div_l1 hy h1 h1' h0 (q1 := Q) hm2 hR2 hR hun0 hQ hs (R / yn1 - Q2) (R / yn1) (R % yn1) (by omega) (by rw [Nat.mul_comm]; exact hRd) (by omega) (by omega)).inner
  induction d with
  | zero =>
    intro q r hq hu hr hql
    rw [Nat.add_zero] at hq
    subst hq
    refine Ev2.step (fun k n => bits_Div64.l0_eq k n _ _ _ _ _ _ _ _ _) ?_
    refine Ev2.neg (dF (by omega)) ?_
    refine Ev2.neg ?_ fin
    have ht := dig_test (u1 := un1) hy hu
    rw [Nat.mul_comm q y] at ht
    have p1 : q * yn0 ≤ 4294967295 * 4294967295 := Nat.mul_le_mul (by omega) (by omega)
    rw [mulu_nat _ _ (by omega)]
    refine dF ?_
    simp only [wrap_u64]
    omega
  | succ d ih =>
    intro q r hq hu hr hql
    refine Ev2.step (fun k n => bits_Div64.l0_eq k n _ _ _ _ _ _ _ _ _) ?_
    have er : IntKind.u64.wrap ((r : Int) + (yn1 : Int)) = ((r + yn1 : Nat) : Int) := by rw [wrap_u64]; omega
    have eq : IntKind.u64.wrap ((q : Int) - 1) = ((q - 1 : Nat) : Int) := by rw [wrap_u64]; omega
    have hu' : (q - 1) * yn1 + (r + yn1) = un32 := by
      have : q * yn1 = (q - 1) * yn1 + yn1 := by rw [← Nat.succ_mul, Nat.succ_eq_add_one, Nat.sub_add_cancel (by omega)]
      omega
    rw [er, eq]
    have test : q < 4294967296 → decide (IntKind.u64.wrap ((q : Int) * (yn0 : Int)) > IntKind.u64.wrap (IntKind.u64.wrap (4294967296 * (r : Int)) + (un1 : Int))) = true := by
      intro hb
      have ht := dig_test (u1 := un1) hy hu
      have hgt := dig_more hy h1 h1' h0 hm hR (show Q < q by omega)
      have p1 : q * yn0 ≤ 4294967295 * 4294967295 := Nat.mul_le_mul (by omega) (by omega)
      rw [mulu_nat _ _ (by omega)]
      refine dT ?_
      simp only [wrap_u64]
      have := ht.2 hgt
      omega
    by_cases hb : q ≥ 4294967296
    · refine Ev2.pos (dT (by omega)) ?_
      by_cases hc : r + yn1 ≥ 4294967296
      · refine Ev2.pos (dT (by omega)) ?_
        obtain ⟨f1, f2⟩ := dig_facts hy h0 hu' hun hun1 hc
        have hle := dig_le hy h1 h1' h0 hm hR f1
        rw [show q - 1 = Q by omega]
        exact fin
      · exact Ev2.neg (dF (by omega)) (ih (q - 1) (r + yn1) (by omega) hu' (by omega) (by omega))
    · refine Ev2.neg (dF (by omega)) (Ev2.pos (test (by omega)) ?_)
      by_cases hc : r + yn1 ≥ 4294967296
      · refine Ev2.pos (dT (by omega)) ?_
        obtain ⟨f1, f2⟩ := dig_facts hy h0 hu' hun hun1 hc
        have hle := dig_le hy h1 h1' h0 hm hR f1
        rw [show q - 1 = Q by omega]
        exact fin
      · exact Ev2.neg (dF (by omega)) (ih (q - 1) (r + yn1) (by omega) hu' (by omega) (by omega))
end

theorem div64_ev {h l y : Nat} (hy : y < 18446744073709551616) (hh : h < y) (hl : l < 18446744073709551616) :
    Ev (fun k => bits_Div64 k (h : Int) (l : Int) (y : Int)) (((((h * 18446744073709551616 + l) / y : Nat)) : Int), (((h * 18446744073709551616 + l) % y : Nat) : Int)) := by
  refine Ev.congr (fun k => bits_Div64_eq k _ _ _) ?_
  refine Ev.neg (bF (by omega)) ?_
  refine Ev.neg (dF (by omega)) ?_
  by_cases h0 : h = 0
  · subst h0
    refine Ev.pos (bT rfl) (Ev.neg (by omega) (Ev.neg (by omega) (Ev.eq (Ev.some _) ?_)))
    rw [Nat.zero_mul, Nat.zero_add, tdiv_nat, tmod_nat]
    have : l / y ≤ l := Nat.div_le_self _ _
    rw [wrapUn (by omega)]
  refine Ev.neg (bF (by omega)) ?_
  have b1 := blen_lt y
  have b2' := blen_le (n := y) (by omega)
  have hbl := blen_bound (n := y) (k := 64) hy
  have hbp := blen_pos (n := y) (by omega)
  refine Ev.bind (Ev.of fun k => lz64 k y hy) ?_
  generalize hs : 64 - blen y = s at *
  have hs64 : s < 64 := by omega
  rw [wrapUn (n := s) (by omega)]
  refine Ev.pos (by omega) (Ev.pos (by omega) ?_)
  have e64 : IntKind.u64.wrap (64 - (s : Int)) = ((64 - s : Nat) : Int) := by rw [wrap_u64]; omega
  rw [e64]
  refine Ev.pos (by omega) (Ev.pos (by omega) ?_)
  -- the normalized divisor
  have hP : 0 < 2 ^ s := Nat.two_pow_pos s
  have hQ : 0 < 2 ^ (64 - s) := Nat.two_pow_pos (64 - s)
  have hPQ : 2 ^ s * 2 ^ (64 - s) = 18446744073709551616 := by rw [← Nat.pow_add, show s + (64 - s) = 64 by omega]
  have hbe : blen y = 64 - s := by omega
  rw [hbe] at b1 b2'
  have hyP : y * 2 ^ s < 18446744073709551616 := by rw [← hPQ, Nat.mul_comm]; exact Nat.mul_lt_mul_of_pos_left b1 hP
  have hyP2 : 9223372036854775808 ≤ y * 2 ^ s := by
    have : 2 ^ (64 - s - 1) * 2 ^ s ≤ y * 2 ^ s := Nat.mul_le_mul_right _ b2'
    rw [← Nat.pow_add, show 64 - s - 1 + s = 63 by omega] at this
    exact this
  rw [shlK_exact y s (by omega) hyP]
  have hY := e_shr (y * 2 ^ s) 32 (by decide) 32 rfl
  have hYm : andK .u64 ((y * 2 ^ s : Nat) : Int) 4294967295 = ((y * 2 ^ s % 4294967296 : Nat) : Int) := andK_32 _ hyP
  -- the dividend's upper words
  have hhQ : h < 2 ^ (64 - s) := by omega
  have hhP : h * 2 ^ s < 18446744073709551616 := Nat.lt_of_lt_of_le (Nat.mul_lt_mul_of_pos_right hh hP) (by omega)
  have hlQ : l / 2 ^ (64 - s) < 2 ^ s := by rw [Nat.div_lt_iff_lt_mul hQ, hPQ]; exact hl
  have hsum : h * 2 ^ s + l / 2 ^ (64 - s) < y * 2 ^ s := by
    have : (h + 1) * 2 ^ s ≤ y * 2 ^ s := Nat.mul_le_mul_right _ hh
    rw [Nat.add_mul] at this
    omega
  have hun32 : orK .u64 (shlK .u64 (h : Int) (s : Int)) (shrK .u64 (l : Int) ((64 - s : Nat) : Int)) = ((h * 2 ^ s + l / 2 ^ (64 - s) : Nat) : Int) := by
    rw [shlK_exact h s (by omega) hhP, shrK_nat l (64 - s) (by omega), orK_add _ _ s hlQ (Nat.mul_mod_left _ _) (by omega)]
  have hl10 : shlK .u64 (l : Int) (s : Int) = ((l % 2 ^ (64 - s) * 2 ^ s : Nat) : Int) := by
    rw [shlK_nat l s (by omega), ← hPQ, Nat.mul_comm (2 ^ s), Nat.mul_mod_mul_right]
  have hl10lt : l % 2 ^ (64 - s) * 2 ^ s < 18446744073709551616 := by
    rw [← hPQ, Nat.mul_comm]
    exact Nat.mul_lt_mul_of_pos_left (Nat.mod_lt _ hQ) hP
  rw [hY, hYm, hun32, hl10]
  have key : (h * 18446744073709551616 + l) * 2 ^ s = (h * 2 ^ s + l / 2 ^ (64 - s)) * 18446744073709551616 + l % 2 ^ (64 - s) * 2 ^ s := by
    have e1 := Nat.div_add_mod l (2 ^ (64 - s))
    have e2 : l * 2 ^ s = l / 2 ^ (64 - s) * 18446744073709551616 + l % 2 ^ (64 - s) * 2 ^ s := by
      rw [← hPQ]
      have : (2 ^ (64 - s) * (l / 2 ^ (64 - s)) + l % 2 ^ (64 - s)) * 2 ^ s = l * 2 ^ s := by rw [e1]
      rw [← this]; grind
    rw [Nat.add_mul, e2]; grind
  have fq : (h * 18446744073709551616 + l) / y = (h * 18446744073709551616 + l) * 2 ^ s / (y * 2 ^ s) := (Nat.mul_div_mul_right _ _ hP).symm
  have fr : (h * 18446744073709551616 + l) % y = (h * 18446744073709551616 + l) * 2 ^ s % (y * 2 ^ s) / 2 ^ s := by
    rw [Nat.mul_mod_mul_right, Nat.mul_div_cancel _ hP]
  rw [fq, fr, key]
  clear key fq fr hl10 hun32 hhP hhQ hlQ b1 b2' hbl hbp hbe
  have eL1 := e_shr (l % 2 ^ (64 - s) * 2 ^ s) 32 (by decide) 32 rfl
  rw [show (2 : Nat) ^ 32 = 4294967296 from rfl] at *
  generalize y * 2 ^ s = Y at *
  generalize h * 2 ^ s + l / 2 ^ (64 - s) = U at *
  generalize l % 2 ^ (64 - s) * 2 ^ s = L at *
  rw [eL1, andK_32 L hl10lt]
  refine Ev.neg (by omega) ?_
  have hYd : Y = Y / 4294967296 * 4294967296 + Y % 4294967296 := by omega
  have hUL := Nat.div_add_mod L 4294967296
  have hU1 : U * 18446744073709551616 + L = (U * 4294967296 + L / 4294967296) * 4294967296 + L % 4294967296 := by omega
  have hL1 : L / 4294967296 < 4294967296 := by omega
  have hL0 : L % 4294967296 < 4294967296 := by omega
  have hn1 : 2147483648 ≤ Y / 4294967296 := by omega
  have hn1' : Y / 4294967296 < 4294967296 := by omega
  have hn0 : Y % 4294967296 < 4294967296 := by omega
  rw [hU1]
  generalize L / 4294967296 = u1 at *
  generalize L % 4294967296 = u0 at *
  generalize Y / 4294967296 = y1 at *
  generalize Y % 4294967296 = y0 at *
  have hYp : 0 < Y := by omega
  -- the first guess
  have hR := Nat.div_add_mod U y1
  have hRl := Nat.mod_lt U (show 0 < y1 by omega)
  have hdl : U / y1 ≤ U := Nat.div_le_self _ _
  have em : (((U / y1 : Nat) : Int)) * (y1 : Int) = ((y1 * (U / y1) : Nat) : Int) := by rw [Nat.mul_comm]; simp
  have er : IntKind.u64.wrap ((U : Int) - IntKind.u64.wrap (((U / y1 : Nat) : Int) * (y1 : Int))) = ((U % y1 : Nat) : Int) := by
    rw [em]
    generalize y1 * (U / y1) = P at *
    simp only [wrap_u64]; omega
  rw [tdiv_nat, wrapUn (n := U / y1) (by omega), er]
  -- the whole quotient by its two digits
  obtain ⟨Q, hQ⟩ : ∃ Q, Q = (U * 4294967296 + u1) / Y := ⟨_, rfl⟩
  obtain ⟨R, hRe⟩ : ∃ R, R = (U * 4294967296 + u1) % Y := ⟨_, rfl⟩
  have hm : Y * Q + R = U * 4294967296 + u1 := by rw [hQ, hRe]; exact Nat.div_add_mod _ Y
  have hRY : R < Y := by rw [hRe]; exact Nat.mod_lt _ hYp
  clear hQ hRe
  obtain ⟨Q2, hQ2⟩ : ∃ Q2, Q2 = (R * 4294967296 + u0) / Y := ⟨_, rfl⟩
  obtain ⟨R2, hR2e⟩ : ∃ R2, R2 = (R * 4294967296 + u0) % Y := ⟨_, rfl⟩
  have hm2 : Y * Q2 + R2 = R * 4294967296 + u0 := by rw [hQ2, hR2e]; exact Nat.div_add_mod _ Y
  have hR2Y : R2 < Y := by rw [hR2e]; exact Nat.mod_lt _ hYp
  clear hQ2 hR2e
  have hge := dig_ge hYd hn1 hn1' hn0 hm hL1
  have main := div_l0 (s := s) hYd hn1 hn1' hn0 hm hRY hm2 hR2Y hsum hL1 hL0 hs64 (U / y1 - Q) (U / y1) (U % y1) (by omega) (by rw [Nat.mul_comm]; exact hR) (by omega) (by omega)
  have split : (U * 4294967296 + u1) * 4294967296 + u0 = Y * (Q * 4294967296 + Q2) + R2 := by
    rw [← hm]; grind
  have q2 : ((U * 4294967296 + u1) * 4294967296 + u0) / Y = Q * 4294967296 + Q2 := by
    rw [split, Nat.mul_add_div hYp, Nat.div_eq_of_lt hR2Y, Nat.add_zero]
  have r2 : ((U * 4294967296 + u1) * 4294967296 + u0) % Y = R2 := by
    rw [split, Nat.mul_add_mod, Nat.mod_eq_of_lt hR2Y]
  rw [q2, r2]
  exact main.ev
end Go.Proofs.YtbaaggmicpigeaaDoor.X
