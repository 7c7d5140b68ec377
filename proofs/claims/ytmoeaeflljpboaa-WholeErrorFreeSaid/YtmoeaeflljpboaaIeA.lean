/- Plain law: the machine's floats (IEEE 754, to the nearest even) against the plain rounding to places: what a word reads as, what is written. Conditions: words are of their format's width. -/
import Derived.Test.YtmoeaeflljpboaaFmP
import Derived.Test.YtmoeaeflljpboaaR2
namespace Go.Proofs.Ytmoeaeflljpboaa.X
open Go Go.Rex
set_option linter.unusedVariables false

/-- A format of the machine's, as layer 4 has it. -/
structure If (f : Ieee.Format) (W P : Nat) (em : Int) : Prop where
  sw : f.signWeight = 2 ^ (W - 1)
  bi : f.binade = 2 ^ (P - 1)
  ir : f.infRung = infP W P
  lp : f.leastPlace = em - (P : Int) + 1
  fb : f.fractionBits = P - 1
  p8 : 8 ≤ P
  w1 : 1 ≤ W
  b2 : 2 ^ P ≤ infP W P
  iw : infP W P + 2 ^ (P - 1) = 2 ^ (W - 1)
  neg : em - (P : Int) + 1 < 0
theorem ie64 : If Ieee.double 64 53 (-1022) := ⟨rfl, rfl, rfl, rfl, rfl, by decide, by decide, by decide, by decide, by decide⟩
theorem ie32 : If Ieee.single 32 24 (-126) := ⟨rfl, rfl, rfl, rfl, rfl, by decide, by decide, by decide, by decide, by decide⟩

/-- M * 2^z = V. -/
theorem p2_gen {M V a b : Nat} {z : Int} (hz : z = (a : Int) - (b : Int)) (h : M * 2 ^ a = V * 2 ^ b) : M * p2 z = V * p2 (-z) := by
  rcases Nat.le_total b a with c | c
  · obtain ⟨d, rfl⟩ := Nat.exists_eq_add_of_le c
    have e1 : p2 z = 2 ^ d := by unfold p2; rw [hz]; congr 1; omega
    have e2 : p2 (-z) = 1 := p2_neg (by omega)
    rw [e1, e2, Nat.mul_one]
    rw [Nat.add_comm, Nat.pow_add, ← Nat.mul_assoc] at h
    exact Nat.eq_of_mul_eq_mul_right (Nat.two_pow_pos b) h
  · obtain ⟨d, rfl⟩ := Nat.exists_eq_add_of_le c
    have e1 : p2 (-z) = 2 ^ d := by unfold p2; rw [hz]; congr 1; omega
    have e2 : p2 z = 1 := p2_neg (by omega)
    rw [e1, e2, Nat.mul_one]
    rw [Nat.add_comm, Nat.pow_add, ← Nat.mul_assoc] at h
    exact Nat.eq_of_mul_eq_mul_right (Nat.two_pow_pos a) h
theorem blen_shr (n q : Nat) : blen (n / 2 ^ q) = blen n - q := by
  by_cases h : n / 2 ^ q = 0
  · have hlt : n < 2 ^ q := by
      rcases Nat.div_eq_zero_iff.1 h with e | e
      · have := Nat.two_pow_pos q; omega
      · exact e
    have := blen_le_iff.2 hlt
    rw [h, blen_zero]; omega
  · have hn : n ≠ 0 := by rintro rfl; exact h (Nat.zero_div _)
    have h1 := blen_le hn
    have h2 := blen_lt n
    have h3 : q < blen n := by
      rcases Nat.lt_or_ge q (blen n) with g | g
      · exact g
      · have := blen_le_iff.1 g
        exact absurd (Nat.div_eq_of_lt this) h
    have := blen_eq (n := n / 2 ^ q) (k := blen n - q - 1) (by
      rw [Nat.le_div_iff_mul_le (Nat.two_pow_pos q), ← Nat.pow_add, show blen n - q - 1 + q = blen n - 1 by omega]; exact h1) (by
      rw [Nat.div_lt_iff_lt_mul (Nat.two_pow_pos q), ← Nat.pow_add, show blen n - q - 1 + 1 + q = blen n by omega]; exact h2)
    rw [this]; omega

/-- To the nearest even. -/
theorem even_cut (neg : Bool) (n drop : Nat) : Ieee.Toward.even.cut neg n drop = cutN 0 neg n (2 ^ drop) := by
  have key : ∀ g : Nat, (let low := n / 2 ^ g; let rest := n % 2 ^ g; low + (decide (2 ^ g < 2 * rest) || (2 ^ g == 2 * rest && low % 2 == 1)).toNat) = cutN 0 neg n (2 ^ g) := by
    intro g
    have hp := Nat.two_pow_pos g
    unfold cutN chs
    simp only [ups, if_true]
    generalize n / 2 ^ g = u
    generalize n % 2 ^ g = r
    generalize 2 ^ g = G at *
    unfold lft
    by_cases c0 : r = 0
    · subst c0
      rw [if_pos rfl, if_neg (by omega)]
      have e1 : decide (G < 2 * 0) = false := decide_eq_false (by omega)
      have e2 : (G == 2 * 0) = false := beq_eq_false_iff_ne.2 (by omega)
      rw [e1, e2]; rfl
    · rw [if_neg c0]
      by_cases c1 : 2 * r < G
      · have e1 : decide (G < 2 * r) = false := decide_eq_false (by omega)
        have e2 : (G == 2 * r) = false := beq_eq_false_iff_ne.2 (by omega)
        rw [if_pos c1, e1, e2, if_neg (by simp)]; rfl
      · rw [if_neg c1]
        by_cases c2 : 2 * r = G
        · have e1 : decide (G < 2 * r) = false := decide_eq_false (by omega)
          have e2 : (G == 2 * r) = true := beq_iff_eq.2 (by omega)
          rw [if_pos c2, e1, e2]
          cases (u % 2 == 1)
          · rw [if_neg (by simp)]; rfl
          · rw [if_pos (by simp)]; rfl
        · have e1 : decide (G < 2 * r) = true := decide_eq_true (by omega)
          rw [if_neg c2, e1, if_pos (by simp)]; rfl
  unfold Ieee.Toward.cut
  simp only [Nat.one_shiftLeft]
  rcases Nat.le_total drop (n.log2 + 2) with c | c
  · rw [Nat.min_eq_left c]; exact key drop
  · rw [Nat.min_eq_right c]
    have hn : n < 2 ^ (n.log2 + 1) := Nat.lt_log2_self
    have h2 : 2 ^ (n.log2 + 2) = 2 * 2 ^ (n.log2 + 1) := by rw [Nat.pow_succ, Nat.mul_comm]
    have h3 : 2 ^ (n.log2 + 2) ≤ 2 ^ drop := pow_mono2 c
    have z : ∀ G : Nat, 2 * n < G → cutN 0 neg n G = 0 := by
      intro G hG
      unfold cutN chs
      rw [Nat.div_eq_of_lt (by omega), Nat.mod_eq_of_lt (by omega)]
      unfold lft ups
      by_cases c0 : n = 0
      · rw [if_pos c0, if_neg (by omega)]
      · rw [if_neg c0, if_pos hG, if_neg (by simp)]
    rw [z _ (by omega)]
    have := key (n.log2 + 2)
    rw [z _ (by omega)] at this
    exact this

theorem rnd_zero (P : Nat) (m : Int) (neg : Bool) {B : Nat} (hB : 0 < B) : rnd P m neg 0 B = 0 := by
  unfold rnd shf cutN
  rw [Nat.zero_div, blen_zero, Nat.zero_sub, Nat.zero_mul, Nat.zero_div, Nat.zero_mod, Nat.zero_add]
  have : lft 0 (B * 2 ^ 0) = 0 := lft_zero.2 rfl
  rw [this, chs_zero]

section
variable {f : Ieee.Format} {W P : Nat} {em : Int} (h : If f W P em)
include h

theorem word_eq (neg : Bool) (r : Nat) : f.word neg r = r + sgB neg W := by
  unfold Ieee.Format.word sgB
  rw [h.sw]
  cases neg
  · rw [if_neg (by simp), if_neg (by simp)]; rfl
  · rw [if_pos rfl, if_pos rfl, Nat.add_comm]

/-- What is written of a number: its rounding's place. -/
theorem nearest_eq {mag : Nat} {z : Int} {A B : Nat} (hB : 0 < B) (neg : Bool) (he : mag * p2 z * B = A * p2 (-z)) : f.nearest neg mag (em - (P : Int) + 1 + z) = min (rnd P 0 neg A B) (infP W P) + sgB neg W := by
  have hp8 := h.p8
  unfold Ieee.Format.nearest
  by_cases h0 : mag = 0
  · rw [if_pos h0, word_eq h]
    subst h0
    have hA : A = 0 := by
      rw [Nat.zero_mul, Nat.zero_mul] at he
      rcases Nat.mul_eq_zero.1 he.symm with g | g
      · exact g
      · have := p2_pos (-z); omega
    rw [hA, rnd_zero P 0 neg hB, Nat.zero_min]
  · rw [if_neg h0, word_eq h, h.lp, h.fb, h.bi, h.ir]
    rw [even_cut, Nat.shiftLeft_eq]
    rw [rnd_cross P 0 neg hB (p2_pos (-z)) (A' := mag * p2 z) he.symm]
    have hbl : blen mag = mag.log2 + 1 := by unfold blen; rw [if_neg h0]
    have hs : shf P (mag * p2 z) (p2 (-z)) = (max (em - (P : Int) + 1 + z + (mag.log2 : Int) - ((P - 1 : Nat) : Int)) (em - (P : Int) + 1) - (em - (P : Int) + 1)).toNat := by
      unfold shf
      rcases Int.le_total 0 z with c | c
      · rw [p2_neg (show -z ≤ 0 by omega), Nat.div_one]
        unfold p2
        rw [blen_pow_mul h0, hbl]
        omega
      · rw [p2_neg c, Nat.mul_one]
        unfold p2
        rw [blen_shr, hbl]
        omega
    unfold rnd
    rw [← hs]
    generalize hq : shf P (mag * p2 z) (p2 (-z)) = s at *
    have hl : max (em - (P : Int) + 1 + z + (mag.log2 : Int) - ((P - 1 : Nat) : Int)) (em - (P : Int) + 1) = em - (P : Int) + 1 + (s : Int) := by omega
    rw [hl]
    have e1 : (em - (P : Int) + 1 + z - (em - (P : Int) + 1 + (s : Int))).toNat = (z - (s : Int)).toNat := by congr 1; omega
    have e2 : (em - (P : Int) + 1 + (s : Int) - (em - (P : Int) + 1 + z)).toNat = ((s : Int) - z).toNat := by congr 1; omega
    rw [e1, e2]
    have hc := p2_cross z (s : Int) 0
    rw [Int.zero_sub, Int.sub_zero, Int.sub_zero, p2_neg (show (0 : Int) - (s : Int) ≤ 0 by omega), Nat.mul_one, p2_nat] at hc
    have hcut : cutN 0 neg (mag * 2 ^ (z - (s : Int)).toNat) (2 ^ ((s : Int) - z).toNat) = cutN 0 neg (mag * p2 z) (p2 (-z) * 2 ^ s) := by
      refine cutN_cross 0 neg (Nat.two_pow_pos _) (Nat.mul_pos (p2_pos _) (Nat.two_pow_pos _)) ?_
      show mag * p2 (z - (s : Int)) * (p2 (-z) * 2 ^ s) = mag * p2 z * p2 ((s : Int) - z)
      rw [Nat.mul_assoc, hc, Nat.mul_assoc]
    rw [hcut]

/-- What is written of a number of the format. -/
theorem nearest_exact {mag : Nat} {z : Int} {K : Nat} (hK : K < infP W P) (neg : Bool) (he : mag * p2 z = plV P K * p2 (-z)) : f.nearest neg mag (em - (P : Int) + 1 + z) = K + sgB neg W := by
  have h8 := h.p8
  rw [nearest_eq h (A := plV P K) (B := 1) (by decide) neg (by rw [Nat.mul_one]; exact he)]
  have := (rnd_exact (P := P) (k := K) (B := 1) (by omega) (by decide) 0 neg).1
  rw [Nat.mul_one] at this
  rw [this, Nat.min_eq_left (by omega)]

/-! ### What a word reads as -/
theorem read_sign {a : Nat} (ha : a < 2 ^ W) : (a / 2 ^ (W - 1) % 2 == 1) = ps W a := by
  have hw := h.w1
  have hp := Nat.two_pow_pos (W - 1)
  have h2 : 2 ^ W = 2 * 2 ^ (W - 1) := by rw [show W = (W - 1) + 1 by omega, Nat.pow_succ, Nat.mul_comm]; rfl
  unfold ps
  by_cases c : 2 ^ (W - 1) ≤ a
  · have e : a / 2 ^ (W - 1) = 1 := by
      refine Nat.le_antisymm ?_ (Nat.div_pos c hp)
      have : a / 2 ^ (W - 1) < 2 := by rw [Nat.div_lt_iff_lt_mul hp]; omega
      omega
    rw [e, decide_eq_true c]; rfl
  · rw [Nat.div_eq_of_lt (by omega), decide_eq_false c]; rfl
theorem read_num {a : Nat} (ha : a < 2 ^ W) (hk : pk W a < infP W P) : ∃ m q : Nat, f.read a = .number (ps W a) m (em - (P : Int) + 1 + (q : Int)) ∧ m * 2 ^ q = plV P (pk W a) ∧ m < 2 ^ P ∧ (q = 0 ∨ 2 ^ (P - 1) ≤ m) := by
  have h8 := h.p8
  have hh := pow_half (P := P) (by omega)
  have hp := Nat.two_pow_pos (P - 1)
  have hm := Nat.mod_lt (pk W a) hp
  unfold Ieee.Format.read
  rw [h.sw, h.bi, h.ir, h.lp, read_sign h ha]
  change pk W a < infP W P at hk
  rw [show a % 2 ^ (W - 1) = pk W a from rfl]
  by_cases c : pk W a < 2 ^ (P - 1)
  · refine ⟨pk W a, 0, by dsimp only; rw [if_pos c, Int.natCast_zero, Int.add_zero], ?_, by omega, .inl rfl⟩
    unfold plV
    rw [if_pos (by omega), Nat.pow_zero, Nat.mul_one]
  · refine ⟨2 ^ (P - 1) + pk W a % 2 ^ (P - 1), pk W a / 2 ^ (P - 1) - 1, by dsimp only; rw [if_neg c, if_pos hk], ?_, by omega, .inr (by omega)⟩
    unfold plV
    by_cases c2 : pk W a < 2 ^ P
    · have e1 : pk W a / 2 ^ (P - 1) = 1 := by
        refine Nat.le_antisymm ?_ (Nat.div_pos (by omega) hp)
        have : pk W a / 2 ^ (P - 1) < 2 := by rw [Nat.div_lt_iff_lt_mul hp]; omega
        omega
      have hd := Nat.div_add_mod (pk W a) (2 ^ (P - 1))
      rw [e1] at hd
      rw [if_pos c2, e1, Nat.sub_self, Nat.pow_zero]; omega
    · rw [if_neg c2]
theorem read_inf {a : Nat} (ha : a < 2 ^ W) (hk : pk W a = infP W P) : f.read a = .infinity (ps W a) := by
  have h8 := h.p8
  have hh := pow_half (P := P) (by omega)
  have := h.b2
  unfold Ieee.Format.read
  rw [h.sw, h.bi, h.ir, read_sign h ha, show a % 2 ^ (W - 1) = pk W a from rfl]
  dsimp only
  rw [if_neg (by omega), if_neg (by omega), if_pos hk]
theorem read_nan {a : Nat} (ha : a < 2 ^ W) (hk : infP W P < pk W a) : ∃ t, f.read a = .nan (ps W a) t := by
  have h8 := h.p8
  have hh := pow_half (P := P) (by omega)
  have := h.b2
  unfold Ieee.Format.read
  rw [h.sw, h.bi, h.ir, read_sign h ha, show a % 2 ^ (W - 1) = pk W a from rfl]
  dsimp only
  rw [if_neg (by omega), if_neg (by omega), if_neg (by omega)]
  exact ⟨_, rfl⟩
/-- A word of a sign and a place. -/
theorem pat_of {K : Nat} (hK : K < 2 ^ (W - 1)) (s : Bool) : pk W (K + sgB s W) = K ∧ ps W (K + sgB s W) = s ∧ K + sgB s W < 2 ^ W := by
  have hw := h.w1
  have h2 : 2 ^ W = 2 * 2 ^ (W - 1) := by rw [show W = (W - 1) + 1 by omega, Nat.pow_succ, Nat.mul_comm]; rfl
  unfold pk ps sgB
  cases s
  · rw [if_neg (by simp), Nat.add_zero, Nat.mod_eq_of_lt hK, decide_eq_false (by omega)]
    exact ⟨rfl, rfl, by omega⟩
  · rw [if_pos rfl, Nat.add_mod_right, Nat.mod_eq_of_lt hK, decide_eq_true (by omega)]
    exact ⟨rfl, rfl, by omega⟩
end
end Go.Proofs.Ytmoeaeflljpboaa.X
