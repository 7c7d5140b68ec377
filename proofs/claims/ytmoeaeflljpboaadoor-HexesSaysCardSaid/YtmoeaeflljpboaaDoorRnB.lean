/- Plain law: numbers of a format are rounded to themselves; their values are short. Conditions: the format is one of the four. -/
import Derived.Test.YtmoeaeflljpboaaDoorRoD
import Derived.Test.YtmoeaeflljpboaaDoorFmP
namespace Go.Proofs.YtmoeaeflljpboaaDoor.X
open Go Go.Rex
set_option linter.unusedVariables false

theorem rnOut_rep {W P : Nat} (hP : 2 ≤ P) {k B : Nat} (hB : 0 < B) (hk : k < infP W P) (m : Int) (neg : Bool) : rnOut W P m neg (plV P k * B) B = (((k + sgB neg W : Nat) : Int), 0) := by
  obtain ⟨r1, r2⟩ := rnd_exact (k := k) hP hB m neg
  unfold rnOut; rw [r1, r2, if_neg (by omega), if_pos rfl]
theorem rA_odd {V : Nat} (hV : V ≠ 0) (l : Int) : rA (oddN V) (l + (tz V : Int)) l = V ∧ rB 1 (l + (tz V : Int)) l = 1 := by
  constructor
  · unfold rA; rw [show l + (tz V : Int) - l = ((tz V : Nat) : Int) by omega, p2_nat, oddN_mul hV]
  · unfold rB; rw [p2_neg (by omega)]
theorem tz_of_odd {n : Nat} (h : n % 2 = 1) : tz n = 0 := by
  obtain ⟨m, rfl⟩ : ∃ m, n = 2 * m + 1 := ⟨n / 2, by omega⟩
  exact tz_odd m
theorem oddN_of_odd {n : Nat} (h : n % 2 = 1) : oddN n = n := by unfold oddN; rw [tz_of_odd h, Nat.pow_zero, Nat.div_one]
section
variable {f : Int} {W P : Nat} {em ex : Int} (h : Fm f W P em ex)
include h
theorem plV_facts {k : Nat} (hk0 : k ≠ 0) (hk : k < 2 ^ (W - 1)) : plV P k ≠ 0 ∧ blen (plV P k) ≤ 2112 ∧ tz (plV P k) ≤ 2112 ∧ oddN (plV P k) < 18446744073709551616 := by
  have h8 := h.p8; have h3 := h.wp; have h11 := h.wp11
  have hz : plV P k ≠ 0 := fun e => hk0 ((plV_zero (by omega)).1 e)
  have hp := plV_pat (P := P) (by omega) k
  have hF := Nat.mod_lt k (Nat.two_pow_pos (P - 1))
  have hf := fN_lt h (E := k / 2 ^ (P - 1)) hF
  have hE : k / 2 ^ (P - 1) < 2 ^ (W - P) := by
    refine Nat.div_lt_of_lt_mul ?_
    rw [← Nat.pow_add, show P - 1 + (W - P) = W - 1 by omega]; exact hk
  have hE2 : 2 ^ (W - P) ≤ 2 ^ 11 := pow_mono2 (by omega)
  have hq : fQ (k / 2 ^ (P - 1)) ≤ 2047 := by
    unfold fQ; split <;> omega
  have hn0 : fN P (k / 2 ^ (P - 1)) (k % 2 ^ (P - 1)) ≠ 0 := fun e => hz (by rw [← hp, e, Nat.zero_mul])
  have hb : blen (plV P k) ≤ 2112 := by
    rw [← hp, blen_pow_mul hn0]
    have : blen (fN P (k / 2 ^ (P - 1)) (k % 2 ^ (P - 1))) ≤ 64 := blen_le_iff.2 (by omega)
    omega
  have ht := tz_blen hz
  refine ⟨hz, hb, by omega, ?_⟩
  obtain ⟨t1, t2⟩ := tz_mul_pow hn0 (fQ (k / 2 ^ (P - 1)))
  rw [hp] at t2
  rw [t2]
  exact Nat.lt_of_le_of_lt (oddN_le _) hf
/-- A number of the format, as layer 4's Value tells it, is rounded to itself. -/
theorem exR_val {k : Nat} (hk0 : k ≠ 0) (hk : k < infP W P) (m : Int) (neg : Bool) : exR W P em m neg (digs (oddN (plV P k))) (em - (P : Int) + 1 + (tz (plV P k) : Int)) = (((k + sgB neg W : Nat) : Int), ((0 : Int), (0 : Int))) := by
  have h8 := h.p8; have h53 := h.p53; have m0 := h.m0; have m1 := h.m1
  have hi := infP_le h
  have hp := Nat.two_pow_pos (P - 1)
  obtain ⟨v1, v2, v3, v4⟩ := plV_facts h hk0 (by omega)
  have hl : (digs (oddN (plV P k))).length ≤ 1 := digs_length_lt.2 (by rw [Nat.pow_one]; exact v4)
  have hb : badE (digs (oddN (plV P k))) (em - (P : Int) + 1 + (tz (plV P k) : Int)) = 0 := by
    unfold badE; rw [if_neg (by omega), if_neg (by omega)]
  obtain ⟨a1, a2⟩ := rA_odd v1 (em - (P : Int) + 1)
  have hr := rnOut_rep (W := W) (P := P) (by omega) (B := 1) (by decide) hk m neg
  rw [Nat.mul_one] at hr
  unfold exR
  rw [val_digs, tz_of_odd (oddN_odd v1), a1, a2, hr, if_neg (by rw [hb]; decide), if_neg (oddN_ne v1), if_neg (by omega)]
end
/-- The lowest bits. -/
theorem cut_low (a W : Nat) (hW : W ≤ 64) : shrK .u64 (shlK .u64 (a : Int) ((64 - W : Nat) : Int)) ((64 - W : Nat) : Int) = ((a % 2 ^ W : Nat) : Int) := by
  rw [shlK_nat a _ (by omega), shrK_nat _ _ (by omega)]
  congr 1
  have e : 18446744073709551616 = 2 ^ W * 2 ^ (64 - W) := by rw [← Nat.pow_add, show W + (64 - W) = 64 by omega]
  rw [e, Nat.mul_mod_mul_right, Nat.mul_div_cancel _ (Nat.two_pow_pos _)]
/-! ### Some closed ones -/
theorem blen_is {n k : Nat} (h1 : n < 2 ^ (k + 1)) (h2 : 2 ^ k ≤ n) : blen n = k + 1 := by
  have a1 := (blen_le_iff (n := n) (k := k + 1)).2 h1
  have a2 : ¬ blen n ≤ k := fun e => by have := blen_le_iff.1 e; omega
  omega
theorem fm16 : Fm 0 16 11 (-14) 15 := ⟨by decide, by decide, rfl, by decide, by decide, by decide, by decide, by decide, by decide, by decide⟩
theorem fm32 : Fm 2 32 24 (-126) 127 := ⟨by decide, by decide, rfl, by decide, by decide, by decide, by decide, by decide, by decide, by decide⟩
theorem fm64 : Fm 3 64 53 (-1022) 1023 := ⟨by decide, by decide, rfl, by decide, by decide, by decide, by decide, by decide, by decide, by decide⟩
theorem wk_half : rnOut 16 11 1 false (2049 * 2 ^ 24) 1 = (26625, 16) := by
  have hb : blen (2049 * 2 ^ 24 / 1) = 35 + 1 := blen_is (by decide) (by decide)
  have hs : shf 11 (2049 * 2 ^ 24) 1 = 25 := by unfold shf; rw [hb]
  unfold rnOut rnd lftP tinyB
  rw [hs]
  decide +kernel
theorem wk_third : rnOut 32 24 0 false (2 ^ 149) 3 = (1051372203, 16) := by
  have hb : blen (2 ^ 149 / 3) = 147 + 1 := blen_is (by decide +kernel) (by decide +kernel)
  have hs : shf 24 (2 ^ 149) 3 = 124 := by unfold shf; rw [hb]
  unfold rnOut rnd lftP tinyB
  rw [hs]
  decide +kernel
theorem exR_2049 : exR 16 11 (-14) 1 false ((List.replicate 1 (0 : Int)).set 0 2049) 0 = (26625, (16, 0)) := by
  have hv : val ((List.replicate 1 (0 : Int)).set 0 2049) = 2049 := rfl
  have hb : badE ((List.replicate 1 (0 : Int)).set 0 2049) 0 = 0 := by decide
  have hA : rA 2049 0 (-14 - ((11 : Nat) : Int) + 1) = 2049 * 2 ^ 24 := rfl
  have hB : rB 1 0 (-14 - ((11 : Nat) : Int) + 1) = 1 := rfl
  unfold exR
  rw [hb, hv, if_neg (by decide), if_neg (by decide), tz_of_odd (by decide), if_neg (by decide), hA, hB, wk_half]
end Go.Proofs.YtmoeaeflljpboaaDoor.X
