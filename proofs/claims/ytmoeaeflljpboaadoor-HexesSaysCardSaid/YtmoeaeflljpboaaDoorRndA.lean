/- Plain law: rounding of a quotient of naturals to a whole number and to a place of a format; no conditions beyond those that each states. -/
import Derived.Test.YtmoeaeflljpboaaDoorNatD
namespace Go.Proofs.YtmoeaeflljpboaaDoor.X
open Go Go.Rex
set_option linter.unusedVariables false

/-! ### What is left, and which way -/
/-- What is left of r by d: 0 nothing, 1 less than a half, 2 a half, 3 more. -/
def lft (r d : Nat) : Nat := if r = 0 then 0 else if 2 * r < d then 1 else if 2 * r = d then 2 else 3
def ups (m : Int) (neg odd : Bool) (left : Nat) : Bool :=
  if m = 0 then (left == 3 || left == 2 && odd)
  else if m = 1 then decide (2 ≤ left)
  else if m = 3 then !neg
  else if m = 4 then neg
  else if m = 5 then !odd
  else false
def chs (m : Int) (neg : Bool) (u left : Nat) : Nat := if 0 < left ∧ ups m neg (u % 2 == 1) left = true then u + 1 else u
/-- A / B as a whole number. -/
def cutN (m : Int) (neg : Bool) (A B : Nat) : Nat := chs m neg (A / B) (lft (A % B) B)
/-- What is left of A / B. -/
def lftN (A B : Nat) : Nat := lft (A % B) B

theorem lft_scale (r d : Nat) {c : Nat} (hc : 0 < c) : lft (r * c) (d * c) = lft r d := by
  have h1 : r * c = 0 ↔ r = 0 := by
    constructor
    · intro h; rcases Nat.mul_eq_zero.1 h with h | h <;> omega
    · intro h; rw [h, Nat.zero_mul]
  have h2 : 2 * (r * c) < d * c ↔ 2 * r < d := by rw [← Nat.mul_assoc]; exact Nat.mul_lt_mul_right hc
  have h3 : 2 * (r * c) = d * c ↔ 2 * r = d := by rw [← Nat.mul_assoc]; exact ⟨fun h => Nat.eq_of_mul_eq_mul_right hc h, fun h => by rw [h]⟩
  unfold lft
  simp only [h1, h2, h3]
theorem lftN_scale (A B : Nat) {c : Nat} (hc : 0 < c) : lftN (A * c) (B * c) = lftN A B := by
  unfold lftN
  rw [Nat.mul_mod_mul_right, lft_scale _ _ hc]
theorem cutN_scale (m : Int) (neg : Bool) (A B : Nat) {c : Nat} (hc : 0 < c) : cutN m neg (A * c) (B * c) = cutN m neg A B := by
  unfold cutN
  rw [Nat.mul_mod_mul_right, lft_scale _ _ hc, Nat.mul_div_mul_right _ _ hc]
theorem lftN_cross {A B A' B' : Nat} (hB : 0 < B) (hB' : 0 < B') (h : A * B' = A' * B) : lftN A B = lftN A' B' := by
  rw [← lftN_scale A B hB', h, Nat.mul_comm B B', lftN_scale A' B' hB]
theorem cutN_cross (m : Int) (neg : Bool) {A B A' B' : Nat} (hB : 0 < B) (hB' : 0 < B') (h : A * B' = A' * B) : cutN m neg A B = cutN m neg A' B' := by
  rw [← cutN_scale m neg A B hB', h, Nat.mul_comm B B', cutN_scale m neg A' B' hB]
theorem div_cross {A B A' B' : Nat} (hB : 0 < B) (hB' : 0 < B') (h : A * B' = A' * B) : A / B = A' / B' := by
  rw [← Nat.mul_div_mul_right A B hB', h, Nat.mul_comm B B', Nat.mul_div_mul_right A' B' hB]
theorem lft_le3 (r d : Nat) : lft r d ≤ 3 := by unfold lft; split <;> (try split) <;> (try split) <;> omega
theorem lft_zero {r d : Nat} : lft r d = 0 ↔ r = 0 := by unfold lft; split <;> (try split) <;> (try split) <;> omega
theorem lftN_zero {A B : Nat} : lftN A B = 0 ↔ A % B = 0 := lft_zero
theorem chs_ge (m : Int) (neg : Bool) (u l : Nat) : u ≤ chs m neg u l := by unfold chs; split <;> omega
theorem chs_le (m : Int) (neg : Bool) (u l : Nat) : chs m neg u l ≤ u + 1 := by unfold chs; split <;> omega
theorem chs_zero (m : Int) (neg : Bool) (u : Nat) : chs m neg u 0 = u := by unfold chs; rw [if_neg (by omega)]
/-- More left: not lower. -/
theorem ups_mono (m : Int) (neg odd : Bool) {l l' : Nat} (h0 : 0 < l) (h : l ≤ l') (h3 : l' ≤ 3) (hu : ups m neg odd l = true) : ups m neg odd l' = true := by
  unfold ups at *
  split
  · rename_i e; rw [if_pos e] at hu
    have : l' = 1 ∨ l' = 2 ∨ l' = 3 := by omega
    have : l = 1 ∨ l = 2 ∨ l = 3 := by omega
    cases odd <;> simp_all <;> omega
  · rename_i e; rw [if_neg e] at hu
    split
    · rename_i e; rw [if_pos e] at hu
      simp only [decide_eq_true_eq] at *; omega
    · rename_i e; rw [if_neg e] at hu
      exact hu
theorem chs_mono (m : Int) (neg : Bool) (u : Nat) {l l' : Nat} (h : l ≤ l') (h3 : l' ≤ 3) : chs m neg u l ≤ chs m neg u l' := by
  by_cases hl : l = 0
  · rw [hl, chs_zero]; exact chs_ge _ _ _ _
  · unfold chs
    split
    · rename_i e
      rw [if_pos ⟨by omega, ups_mono m neg _ (by omega) h h3 e.2⟩]
      exact Nat.le_refl _
    · split <;> omega

/-! ### A sticky rest: the quotient's own floor knows enough -/
/-- Of A / B with a rest, divided by 2^t further: as of the floor and a half. -/
theorem sticky_div {A B t : Nat} (hB : 0 < B) : A / (B * 2 ^ t) = A / B / 2 ^ t := (Nat.div_div_eq_div_mul A B (2 ^ t)).symm
theorem sticky_lft {A B t : Nat} (hB : 0 < B) (hr : A % B ≠ 0) : lftN A (B * 2 ^ (t + 1)) = lftN (2 * (A / B) + 1) (2 * 2 ^ (t + 1)) := by
  have hlt := Nat.mod_lt A hB
  have hd := Nat.div_add_mod A B
  unfold lftN
  rw [Nat.mod_mul]
  generalize A / B = n at *
  generalize A % B = r at *
  have hp := Nat.two_pow_pos t
  have h2 : 2 ^ (t + 1) = 2 * 2 ^ t := by rw [Nat.pow_succ, Nat.mul_comm]
  rw [h2]
  generalize 2 ^ t = T at *
  have e : (2 * n + 1) % (2 * (2 * T)) = 2 * (n % (2 * T)) + 1 := by
    rw [Nat.mod_mul, show (2 * n + 1) % 2 = 1 by omega, show (2 * n + 1) / 2 = n by omega]; omega
  rw [e]
  have hx := Nat.mod_lt n (show 0 < 2 * T by omega)
  generalize n % (2 * T) = x at *
  -- r + B x by B * 2T against 2 x + 1 by 4 T
  unfold lft
  rw [if_neg (show ¬ (r + B * x = 0) by omega), if_neg (show ¬ (2 * x + 1 = 0) by omega)]
  have key : ∀ y : Nat, x < y → B * x + B ≤ B * y := fun y hy => by
    have := Nat.mul_le_mul_left B (show x + 1 ≤ y from hy)
    rw [Nat.mul_add, Nat.mul_one] at this; exact this
  have e2 : B * (2 * T) = 2 * (B * T) := by rw [Nat.mul_left_comm]
  rw [e2]
  by_cases hxT : x < T
  · have := key T hxT
    rw [if_pos (by omega), if_pos (by omega)]
  · have : B * T ≤ B * x := Nat.mul_le_mul_left B (by omega)
    rw [if_neg (by omega), if_neg (by omega), if_neg (by omega), if_neg (by omega)]
theorem sticky_half {n t : Nat} : (2 * n + 1) / (2 * 2 ^ t) = n / 2 ^ t := by
  rw [← Nat.div_div_eq_div_mul, show (2 * n + 1) / 2 = n by omega]
theorem sticky_cut (m : Int) (neg : Bool) {A B t : Nat} (hB : 0 < B) (hr : A % B ≠ 0) : cutN m neg A (B * 2 ^ (t + 1)) = cutN m neg (2 * (A / B) + 1) (2 * 2 ^ (t + 1)) := by
  have h := sticky_lft (t := t) hB hr
  unfold lftN at h
  unfold cutN
  rw [h, sticky_div hB, sticky_half]
/-- Four times the quotient, with a bit for what is lost: its two low bits tell what is left. -/
theorem jam_lft {A B : Nat} (hB : 0 < B) {j : Nat} (hj : j = if A % B = 0 then A / B else A / B / 2 * 2 + 1) : lftN A (B * 4) = (if j % 4 = 0 then 0 else j % 4) := by
  have hlt := Nat.mod_lt A hB
  unfold lftN
  rw [Nat.mod_mul]
  generalize A / B = n at *
  generalize A % B = r at *
  unfold lft
  have h4 := Nat.mod_lt n (show 0 < 4 by decide)
  have hc : n % 4 = 0 ∨ n % 4 = 1 ∨ n % 4 = 2 ∨ n % 4 = 3 := by omega
  by_cases h0 : r = 0
  · rw [if_pos h0] at hj
    subst hj; subst h0
    rcases hc with e | e | e | e <;> rw [e]
    · simp
    · rw [if_neg (by omega), if_pos (by omega)]; rfl
    · rw [if_neg (by omega), if_neg (by omega), if_pos (by omega)]; rfl
    · rw [if_neg (by omega), if_neg (by omega), if_neg (by omega)]; rfl
  · rw [if_neg h0] at hj
    rw [if_neg (by omega)]
    rcases hc with e | e | e | e
    · rw [e, if_pos (by omega), if_neg (by omega)]; omega
    · rw [e, if_pos (by omega), if_neg (by omega)]; omega
    · rw [e, if_neg (by omega), if_neg (by omega), if_neg (by omega)]; omega
    · rw [e, if_neg (by omega), if_neg (by omega), if_neg (by omega)]; omega

/-! ### Places of a format with P bits of precision, in units of the least place -/
/-- The number at place k. -/
def plV (P k : Nat) : Nat := if k < 2 ^ P then k else (2 ^ (P - 1) + k % 2 ^ (P - 1)) * 2 ^ (k / 2 ^ (P - 1) - 1)
/-- How far above the least place the last bit of A / B lies. -/
def shf (P A B : Nat) : Nat := blen (A / B) - P
/-- The place of A / B, rounded. -/
def rnd (P : Nat) (m : Int) (neg : Bool) (A B : Nat) : Nat := shf P A B * 2 ^ (P - 1) + cutN m neg A (B * 2 ^ shf P A B)
/-- The place at or below A / B. -/
def flr (P A B : Nat) : Nat := shf P A B * 2 ^ (P - 1) + A / (B * 2 ^ shf P A B)

theorem pow_half {P : Nat} (hP : 1 ≤ P) : 2 ^ P = 2 * 2 ^ (P - 1) := by rw [show P = (P - 1) + 1 by omega, Nat.pow_succ, Nat.mul_comm]; rfl
theorem shf_cross {P A B A' B' : Nat} (hB : 0 < B) (hB' : 0 < B') (h : A * B' = A' * B) : shf P A B = shf P A' B' := by
  unfold shf; rw [div_cross hB hB' h]
theorem rnd_cross (P : Nat) (m : Int) (neg : Bool) {A B A' B' : Nat} (hB : 0 < B) (hB' : 0 < B') (h : A * B' = A' * B) : rnd P m neg A B = rnd P m neg A' B' := by
  unfold rnd
  rw [shf_cross hB hB' h]
  have hp := Nat.two_pow_pos (shf P A' B')
  rw [cutN_cross m neg (Nat.mul_pos hB hp) (Nat.mul_pos hB' hp)]
  rw [← Nat.mul_assoc, h, Nat.mul_assoc]
theorem flr_cross (P : Nat) {A B A' B' : Nat} (hB : 0 < B) (hB' : 0 < B') (h : A * B' = A' * B) : flr P A B = flr P A' B' := by
  unfold flr
  rw [shf_cross hB hB' h]
  have hp := Nat.two_pow_pos (shf P A' B')
  rw [div_cross (A := A) (B := B * 2 ^ shf P A' B') (A' := A') (B' := B' * 2 ^ shf P A' B') (Nat.mul_pos hB hp) (Nat.mul_pos hB' hp) (by rw [← Nat.mul_assoc, h, Nat.mul_assoc])]
theorem plV_at {P s u : Nat} (hP : 1 ≤ P) (h : s = 0 ∨ 2 ^ (P - 1) ≤ u) (hu : u ≤ 2 ^ P) : plV P (s * 2 ^ (P - 1) + u) = u * 2 ^ s := by
  have h2 := pow_half hP
  have hp := Nat.two_pow_pos (P - 1)
  unfold plV
  by_cases hu2 : u = 2 ^ P
  · have e1 : s * 2 ^ (P - 1) + u = 2 ^ (P - 1) * (s + 2) := by rw [hu2, h2, Nat.mul_add, Nat.mul_comm s, Nat.mul_comm _ 2]
    rw [if_neg (by omega), e1, Nat.mul_mod_right, Nat.mul_div_cancel_left _ hp, show s + 2 - 1 = s + 1 by omega, Nat.pow_succ, hu2, h2]
    generalize 2 ^ s = S; grind
  · by_cases hs : s = 0
    · subst hs
      rw [if_pos (by omega)]; omega
    · have hu1 : 2 ^ (P - 1) ≤ u := by omega
      obtain ⟨v, hv⟩ : ∃ v, u = 2 ^ (P - 1) + v := ⟨u - 2 ^ (P - 1), by omega⟩
      have hvl : v < 2 ^ (P - 1) := by omega
      have e1 : s * 2 ^ (P - 1) + u = 2 ^ (P - 1) * (s + 1) + v := by rw [hv, Nat.mul_add, Nat.mul_one, Nat.mul_comm s]; omega
      have hge : 2 ^ (P - 1) * 2 ≤ 2 ^ (P - 1) * (s + 1) := Nat.mul_le_mul_left _ (by omega)
      rw [if_neg (by omega), e1, Nat.mul_add_mod, Nat.mod_eq_of_lt hvl, Nat.mul_add_div hp, Nat.div_eq_of_lt hvl, hv, show s + 1 + 0 - 1 = s by omega]
theorem plV_step {P : Nat} (hP : 1 ≤ P) (k : Nat) : ∃ s u : Nat, k = s * 2 ^ (P - 1) + u ∧ (s = 0 ∨ 2 ^ (P - 1) ≤ u) ∧ u < 2 ^ P := by
  have h2 := pow_half hP
  have hp := Nat.two_pow_pos (P - 1)
  by_cases h : k < 2 ^ P
  · exact ⟨0, k, by omega, .inl rfl, h⟩
  · have hd := Nat.div_add_mod k (2 ^ (P - 1))
    have hm := Nat.mod_lt k hp
    have hq : 2 ≤ k / 2 ^ (P - 1) := (Nat.le_div_iff_mul_le hp).2 (by omega)
    refine ⟨k / 2 ^ (P - 1) - 1, 2 ^ (P - 1) + k % 2 ^ (P - 1), ?_, .inr (by omega), by omega⟩
    obtain ⟨q, e⟩ : ∃ q, k / 2 ^ (P - 1) = q + 1 := ⟨k / 2 ^ (P - 1) - 1, by omega⟩
    rw [e] at hd ⊢
    rw [Nat.mul_add, Nat.mul_one, Nat.mul_comm] at hd
    rw [show q + 1 - 1 = q by omega]; omega
theorem plV_lt_succ {P : Nat} (hP : 1 ≤ P) (k : Nat) : plV P k < plV P (k + 1) := by
  obtain ⟨s, u, e, h1, h2⟩ := plV_step hP k
  rw [e, Nat.add_assoc, plV_at hP h1 (by omega), plV_at hP (by omega) (by omega)]
  exact Nat.mul_lt_mul_of_pos_right (by omega) (Nat.two_pow_pos s)
theorem plV_lt {P : Nat} (hP : 1 ≤ P) {k l : Nat} (h : k < l) : plV P k < plV P l := by
  induction l with
  | zero => omega
  | succ l ih =>
    have := plV_lt_succ hP l
    rcases Nat.lt_or_ge k l with h' | h'
    · have := ih h'; omega
    · have : k = l := by omega
      subst this; assumption
theorem plV_le {P : Nat} (hP : 1 ≤ P) {k l : Nat} : plV P k ≤ plV P l ↔ k ≤ l := by
  constructor
  · intro h
    rcases Nat.lt_or_ge l k with h' | h'
    · have := plV_lt hP h'; omega
    · exact h'
  · intro h
    rcases Nat.lt_or_ge k l with h' | h'
    · exact Nat.le_of_lt (plV_lt hP h')
    · have : k = l := by omega
      subst this; exact Nat.le_refl _
theorem plV_inj {P : Nat} (hP : 1 ≤ P) {k l : Nat} (h : plV P k = plV P l) : k = l := by
  have h1 := (plV_le hP).1 (Nat.le_of_eq h)
  have h2 := (plV_le hP).1 (Nat.le_of_eq h.symm)
  omega
/-- The last bit's place: the floor has at most P bits, and P of them where it lies higher. -/
theorem shf_facts {P A B : Nat} (hP : 1 ≤ P) (hB : 0 < B) : A / (B * 2 ^ shf P A B) < 2 ^ P ∧ (shf P A B = 0 ∨ 2 ^ (P - 1) ≤ A / (B * 2 ^ shf P A B)) := by
  have hl := blen_lt (A / B)
  rw [← Nat.div_div_eq_div_mul]
  unfold shf
  generalize A / B = n at *
  constructor
  · rw [Nat.div_lt_iff_lt_mul (Nat.two_pow_pos _), ← Nat.pow_add]
    exact Nat.lt_of_lt_of_le hl (Nat.pow_le_pow_right (by decide) (by omega))
  · by_cases h : blen n ≤ P
    · left; omega
    · right
      have hn : n ≠ 0 := by rintro rfl; rw [blen_zero] at h; omega
      have := blen_le hn
      rw [Nat.le_div_iff_mul_le (Nat.two_pow_pos _), ← Nat.pow_add]
      exact Nat.le_trans (Nat.pow_le_pow_right (by decide) (by omega)) this
theorem flr_facts {P A B : Nat} (hP : 1 ≤ P) (hB : 0 < B) : plV P (flr P A B) * B ≤ A ∧ A < plV P (flr P A B + 1) * B := by
  obtain ⟨h1, h2⟩ := shf_facts (A := A) hP hB
  have hp := Nat.mul_pos hB (Nat.two_pow_pos (shf P A B))
  have hd := Nat.div_add_mod A (B * 2 ^ shf P A B)
  have hm := Nat.mod_lt A hp
  unfold flr
  rw [Nat.add_assoc, plV_at hP h2 (by omega), plV_at hP (by omega) (by omega)]
  generalize A / (B * 2 ^ shf P A B) = u at *
  generalize shf P A B = s at *
  have e1 : u * 2 ^ s * B = B * 2 ^ s * u := by rw [Nat.mul_assoc, Nat.mul_comm, Nat.mul_comm (2 ^ s)]
  have e2 : (u + 1) * 2 ^ s * B = B * 2 ^ s * u + B * 2 ^ s := by rw [Nat.mul_assoc, Nat.mul_comm, Nat.mul_comm (2 ^ s), Nat.mul_add, Nat.mul_one]
  rw [e1, e2]
  omega
/-- The floor is the only one. -/
theorem flr_eq {P A B k : Nat} (hP : 1 ≤ P) (hB : 0 < B) (h1 : plV P k * B ≤ A) (h2 : A < plV P (k + 1) * B) : flr P A B = k := by
  obtain ⟨g1, g2⟩ := flr_facts (A := A) hP hB
  have a1 : plV P k < plV P (flr P A B + 1) := Nat.lt_of_mul_lt_mul_right (a := B) (by omega)
  have a2 : plV P (flr P A B) < plV P (k + 1) := Nat.lt_of_mul_lt_mul_right (a := B) (by omega)
  have b1 : ¬ (flr P A B + 1 ≤ k) := fun h => by have := (plV_le hP).2 h; omega
  have b2 : ¬ (k + 1 ≤ flr P A B) := fun h => by have := (plV_le hP).2 h; omega
  omega
/-- What is left above the floor's place. -/
def lftP (P A B : Nat) : Nat := lftN A (B * 2 ^ shf P A B)
theorem lftP_cross {P A B A' B' : Nat} (hB : 0 < B) (hB' : 0 < B') (h : A * B' = A' * B) : lftP P A B = lftP P A' B' := by
  unfold lftP
  rw [shf_cross hB hB' h]
  have hp := Nat.two_pow_pos (shf P A' B')
  exact lftN_cross (Nat.mul_pos hB hp) (Nat.mul_pos hB' hp) (by rw [← Nat.mul_assoc, h, Nat.mul_assoc])
theorem flr_odd {P A B : Nat} (hP : 2 ≤ P) : (flr P A B % 2 == 1) = (A / (B * 2 ^ shf P A B) % 2 == 1) := by
  unfold flr
  rw [show P - 1 = (P - 2) + 1 by omega, Nat.pow_succ, ← Nat.mul_assoc]
  have : (shf P A B * 2 ^ (P - 2) * 2 + A / (B * 2 ^ shf P A B)) % 2 = A / (B * 2 ^ shf P A B) % 2 := by omega
  rw [this]
theorem chs_shift (m : Int) (neg : Bool) {x u l : Nat} (h : ((x + u) % 2 == 1) = (u % 2 == 1)) : chs m neg (x + u) l = x + chs m neg u l := by
  unfold chs
  rw [h]
  split <;> omega
/-- The rounding: the floor's place or the next. -/
theorem rnd_flr {P : Nat} (hP : 2 ≤ P) (m : Int) (neg : Bool) (A B : Nat) : rnd P m neg A B = chs m neg (flr P A B) (lftP P A B) := by
  have h := flr_odd (A := A) (B := B) hP
  unfold flr at *
  rw [chs_shift m neg h]
  rfl
/-- Just where the floor's number is the number nothing is left. -/
theorem lftP_zero {P A B : Nat} (hP : 1 ≤ P) (hB : 0 < B) : lftP P A B = 0 ↔ A = plV P (flr P A B) * B := by
  obtain ⟨h1, h2⟩ := shf_facts (A := A) hP hB
  have hd := Nat.div_add_mod A (B * 2 ^ shf P A B)
  unfold lftP
  rw [lftN_zero]
  unfold flr
  rw [plV_at hP h2 (by omega)]
  generalize A / (B * 2 ^ shf P A B) = u at *
  generalize A % (B * 2 ^ shf P A B) = r at *
  generalize shf P A B = s at *
  have e1 : u * 2 ^ s * B = B * 2 ^ s * u := by rw [Nat.mul_assoc, Nat.mul_comm, Nat.mul_comm (2 ^ s)]
  rw [e1]
  omega
/-- What is left, by the numbers on both sides. -/
theorem lftP_val {P A B : Nat} (hP : 1 ≤ P) (hB : 0 < B) : lftP P A B = lft (A - plV P (flr P A B) * B) (plV P (flr P A B + 1) * B - plV P (flr P A B) * B) := by
  obtain ⟨h1, h2⟩ := shf_facts (A := A) hP hB
  have hd := Nat.div_add_mod A (B * 2 ^ shf P A B)
  unfold lftP lftN flr
  rw [Nat.add_assoc, plV_at hP h2 (by omega), plV_at hP (by omega) (by omega)]
  generalize A / (B * 2 ^ shf P A B) = u at *
  generalize A % (B * 2 ^ shf P A B) = r at *
  generalize shf P A B = s at *
  have e1 : u * 2 ^ s * B = B * 2 ^ s * u := by rw [Nat.mul_assoc, Nat.mul_comm, Nat.mul_comm (2 ^ s)]
  have e2 : (u + 1) * 2 ^ s * B = B * 2 ^ s * u + B * 2 ^ s := by rw [Nat.mul_assoc, Nat.mul_comm, Nat.mul_comm (2 ^ s), Nat.mul_add, Nat.mul_one]
  rw [e1, e2, show A - B * 2 ^ s * u = r by omega, show B * 2 ^ s * u + B * 2 ^ s - B * 2 ^ s * u = B * 2 ^ s by omega]
/-- A number of the format stays. -/
theorem rnd_exact {P k B : Nat} (hP : 2 ≤ P) (hB : 0 < B) (m : Int) (neg : Bool) : rnd P m neg (plV P k * B) B = k ∧ lftP P (plV P k * B) B = 0 := by
  have hf : flr P (plV P k * B) B = k := flr_eq (by omega) hB (Nat.le_refl _) (Nat.mul_lt_mul_of_pos_right (plV_lt_succ (by omega) k) hB)
  have hl : lftP P (plV P k * B) B = 0 := (lftP_zero (by omega) hB).2 (by rw [hf])
  exact ⟨by rw [rnd_flr hP, hl, hf, chs_zero], hl⟩
/-- The order stays. -/
theorem flr_mono {P A B A' B' : Nat} (hP : 1 ≤ P) (hB : 0 < B) (hB' : 0 < B') (h : A * B' ≤ A' * B) : flr P A B ≤ flr P A' B' := by
  obtain ⟨g1, g2⟩ := flr_facts (A := A) hP hB
  obtain ⟨k1, k2⟩ := flr_facts (A := A') hP hB'
  have a1 : plV P (flr P A B) < plV P (flr P A' B' + 1) := by
    have b1 : plV P (flr P A B) * B * B' ≤ A * B' := Nat.mul_le_mul_right _ g1
    have b2 : A' * B < plV P (flr P A' B' + 1) * B' * B := Nat.mul_lt_mul_of_pos_right k2 hB
    have e : plV P (flr P A B) * B * B' = plV P (flr P A B) * (B * B') := Nat.mul_assoc ..
    have e2 : plV P (flr P A' B' + 1) * B' * B = plV P (flr P A' B' + 1) * (B * B') := by rw [Nat.mul_assoc, Nat.mul_comm B']
    exact Nat.lt_of_mul_lt_mul_right (a := B * B') (by omega)
  have : ¬ (flr P A' B' + 1 ≤ flr P A B) := fun h => by have := (plV_le hP).2 h; omega
  omega
theorem lft_mono {r d r' d' : Nat} (hd : 0 < d) (hd' : 0 < d') (h : r * d' ≤ r' * d) : lft r d ≤ lft r' d' := by
  by_cases h0 : r = 0
  · rw [h0]; exact Nat.zero_le _
  · have hr' : r' ≠ 0 := by
      rintro rfl
      rw [Nat.zero_mul] at h
      have := Nat.mul_pos (Nat.pos_of_ne_zero h0) hd'
      omega
    have k1 : 2 * r' < d' → 2 * r < d := fun hh => by
      have a := Nat.mul_lt_mul_of_pos_right hh hd
      have e : 2 * r' * d = 2 * (r' * d) := Nat.mul_assoc ..
      have e2 : 2 * r * d' = 2 * (r * d') := Nat.mul_assoc ..
      rw [Nat.mul_comm d' d] at a
      exact Nat.lt_of_mul_lt_mul_right (a := d') (by omega)
    have k2 : 2 * r' = d' → 2 * r ≤ d := fun hh => by
      have e : 2 * r' * d = 2 * (r' * d) := Nat.mul_assoc ..
      have e2 : 2 * r * d' = 2 * (r * d') := Nat.mul_assoc ..
      rw [hh, Nat.mul_comm d' d] at e
      exact Nat.le_of_mul_le_mul_right (c := d') (by omega) hd'
    unfold lft
    rw [if_neg h0, if_neg hr']
    by_cases c1 : 2 * r' < d'
    · rw [if_pos (k1 c1), if_pos c1]; exact Nat.le_refl _
    · rw [if_neg c1]
      by_cases c2 : 2 * r' = d'
      · have := k2 c2
        rw [if_pos c2]
        split <;> (try split) <;> omega
      · rw [if_neg c2]
        split <;> (try split) <;> omega
theorem rnd_mono {P A B A' B' : Nat} (hP : 2 ≤ P) (hB : 0 < B) (hB' : 0 < B') (m : Int) (neg : Bool) (h : A * B' ≤ A' * B) : rnd P m neg A B ≤ rnd P m neg A' B' := by
  have hm := flr_mono (P := P) (by omega) hB hB' h
  rw [rnd_flr hP, rnd_flr hP]
  rcases Nat.lt_or_ge (flr P A B) (flr P A' B') with h' | h'
  · have h1 := chs_le m neg (flr P A B) (lftP P A B)
    have h2 := chs_ge m neg (flr P A' B') (lftP P A' B')
    omega
  · have e : flr P A B = flr P A' B' := by omega
    rw [e]
    refine chs_mono m neg _ ?_ (lft_le3 _ _)
    rw [lftP_val (by omega) hB, lftP_val (by omega) hB', e]
    obtain ⟨g1, g2⟩ := flr_facts (P := P) (A := A) (by omega) hB
    obtain ⟨k1, k2⟩ := flr_facts (P := P) (A := A') (by omega) hB'
    rw [e] at g1 g2
    have hs := plV_lt_succ (P := P) (by omega) (flr P A' B')
    generalize flr P A' B' = k at *
    generalize plV P k = v at *
    generalize plV P (k + 1) = w at *
    obtain ⟨d, hd⟩ : ∃ d, w = v + d := ⟨w - v, by omega⟩
    subst hd
    have hd0 : 0 < d := by omega
    rw [Nat.add_mul, Nat.add_mul, Nat.add_sub_cancel_left, Nat.add_sub_cancel_left]
    refine lft_mono (Nat.mul_pos hd0 hB) (Nat.mul_pos hd0 hB') ?_
    rw [Nat.sub_mul, Nat.sub_mul]
    have e1 : v * B * (d * B') = v * B' * (d * B) := by grind
    have e2 : A * (d * B') = d * (A * B') := by grind
    have e3 : A' * (d * B) = d * (A' * B) := by grind
    rw [e1, e2, e3]
    exact Nat.sub_le_sub_right (Nat.mul_le_mul_left d h) _
end Go.Proofs.YtmoeaeflljpboaaDoor.X
