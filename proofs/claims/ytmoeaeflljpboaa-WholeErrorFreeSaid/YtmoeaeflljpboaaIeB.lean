/- Plain law: what the machine's operations on floats give, where the operands are numbers: sums, products, quotients that are exact, order, conversions. Conditions: words are of their format's width. -/
import Derived.Test.YtmoeaeflljpboaaIeA
namespace Go.Proofs.Ytmoeaeflljpboaa.X
open Go Go.Rex
set_option linter.unusedVariables false

/-- A number, by its sign and its place. -/
structure Fl (W P : Nat) (x : Int) (s : Bool) (K : Nat) : Prop where
  e : x = ((K + sgB s W : Nat) : Int)
  lt : K < infP W P
/-- With a sign. -/
def sval (s : Bool) (V : Nat) : Int := if s then -(V : Int) else (V : Int)
theorem signed_eq (s : Bool) (m u : Nat) : Ieee.signed s m u = sval s (m * 2 ^ u) := by
  unfold Ieee.signed sval
  rw [Nat.shiftLeft_eq]
theorem sval_mul (s : Bool) (V c : Nat) : sval s (V * c) = sval s V * (c : Int) := by
  unfold sval
  cases s
  · rw [if_neg (by simp), if_neg (by simp)]; exact Int.natCast_mul ..
  · rw [if_pos rfl, if_pos rfl, Int.neg_mul]; rw [Int.natCast_mul]
theorem natAbs_sval (s : Bool) (V : Nat) : (sval s V).natAbs = V := by unfold sval; cases s <;> simp
theorem sval_sign (s : Bool) (V : Nat) : (if sval s V = 0 then s && s else decide (sval s V < 0)) = s := by
  unfold sval
  cases s
  · rw [if_neg (show ¬ (false = true) by simp)]
    split
    · rfl
    · exact decide_eq_false (by omega)
  · rw [if_pos rfl]
    split
    · rfl
    · exact decide_eq_true (by omega)
theorem xor_hi {K n : Nat} (h : K < 2 ^ n) : K ^^^ 2 ^ n = K + 2 ^ n := by
  have h1 : (K ^^^ 2 ^ n) % 2 ^ n = K := by rw [Nat.xor_mod_two_pow, Nat.mod_self, Nat.xor_zero, Nat.mod_eq_of_lt h]
  have h2 : (K ^^^ 2 ^ n) / 2 ^ n = 1 := by
    rw [← Nat.shiftRight_eq_div_pow, Nat.shiftRight_xor_distrib, Nat.shiftRight_eq_div_pow, Nat.shiftRight_eq_div_pow, Nat.div_eq_of_lt h, Nat.div_self (Nat.two_pow_pos n)]; rfl
  have := Nat.div_add_mod (K ^^^ 2 ^ n) (2 ^ n)
  rw [h1, h2] at this; omega
theorem compare_scale (a b : Int) {c : Int} (hc : 0 < c) : compare (a * c) (b * c) = compare a b := by
  show compareOfLessAndEq _ _ = compareOfLessAndEq _ _
  unfold compareOfLessAndEq
  have h1 : a * c < b * c ↔ a < b := Int.mul_lt_mul_right hc
  have h2 : a * c = b * c ↔ a = b := ⟨fun e => Int.eq_of_mul_eq_mul_right (by omega) e, fun e => by rw [e]⟩
  by_cases c1 : a < b
  · rw [if_pos c1, if_pos (h1.2 c1)]
  · rw [if_neg c1, if_neg (fun e => c1 (h1.1 e))]
    by_cases c2 : a = b
    · rw [if_pos c2, if_pos (h2.2 c2)]
    · rw [if_neg c2, if_neg (fun e => c2 (h2.1 e))]
theorem cmp_eq_iff (a b : Int) : (compare a b == Ordering.eq) = decide (a = b) := by
  rw [show compare a b = compareOfLessAndEq a b from rfl]
  unfold compareOfLessAndEq
  by_cases c1 : a < b
  · rw [if_pos c1, decide_eq_false (by omega)]; rfl
  · rw [if_neg c1]
    by_cases c2 : a = b
    · rw [if_pos c2, decide_eq_true c2]; rfl
    · rw [if_neg c2, decide_eq_false c2]; rfl
theorem cmp_lt_iff (a b : Int) : (compare a b == Ordering.lt) = decide (a < b) := by
  rw [show compare a b = compareOfLessAndEq a b from rfl]
  unfold compareOfLessAndEq
  by_cases c1 : a < b
  · rw [if_pos c1, decide_eq_true c1]; rfl
  · rw [if_neg c1, decide_eq_false c1]
    by_cases c2 : a = b
    · rw [if_pos c2]; rfl
    · rw [if_neg c2]; rfl
theorem cmp_gt_iff (a b : Int) : (compare a b == Ordering.gt) = decide (b < a) := by
  rw [show compare a b = compareOfLessAndEq a b from rfl]
  unfold compareOfLessAndEq
  by_cases c1 : a < b
  · rw [if_pos c1, decide_eq_false (by omega)]; rfl
  · rw [if_neg c1]
    by_cases c2 : a = b
    · rw [if_pos c2, decide_eq_false (by omega)]; rfl
    · rw [if_neg c2, decide_eq_true (by omega)]; rfl
theorem fOf_nat (a : Nat) : fOf (a : Int) = (a : Int) := by unfold fOf; rw [Int.toNat_natCast]

theorem plV0 (P : Nat) : plV P 0 = 0 := by unfold plV; rw [if_pos (Nat.two_pow_pos P)]
theorem fArith_of {op : BinOp} {k : FloatKind} {x y : Int} (hx : 0 ≤ x) (hy : 0 ≤ y) : fArith op k x y = optF (floatBits op k x.toNat y.toNat) := by
  unfold fArith; rw [if_pos ⟨hx, hy⟩]

section
variable {k : FloatKind} {W P : Nat} {em : Int} (h : If k.format W P em)
include h

theorem inf_lt : infP W P < 2 ^ (W - 1) := by have := h.iw; have := Nat.two_pow_pos (P - 1); omega
theorem Fl.pat {x : Int} {s : Bool} {K : Nat} (hx : Fl W P x s K) : pk W x.toNat = K ∧ ps W x.toNat = s ∧ x.toNat < 2 ^ W ∧ 0 ≤ x := by
  have := inf_lt h; have h1 := hx.lt
  rw [hx.e, Int.toNat_natCast]
  obtain ⟨a, b, c⟩ := pat_of h (K := K) (by omega) s
  exact ⟨a, b, c, by omega⟩
theorem Fl.read {x : Int} {s : Bool} {K : Nat} (hx : Fl W P x s K) : ∃ m q : Nat, k.format.read x.toNat = .number s m (em - (P : Int) + 1 + (q : Int)) ∧ m * 2 ^ q = plV P K ∧ m < 2 ^ P ∧ (q = 0 ∨ 2 ^ (P - 1) ≤ m) := by
  obtain ⟨a, b, c, d⟩ := hx.pat h
  have := read_num h c (by rw [a]; exact hx.lt)
  rw [a, b] at this
  exact this
/-- A pattern that is a number. -/
theorem fl_of {a : Nat} (ha : a < 2 ^ W) (hk : pk W a < infP W P) : Fl W P (a : Int) (ps W a) (pk W a) := by
  refine ⟨?_, hk⟩
  have hw := h.w1
  have hp := Nat.two_pow_pos (W - 1)
  have h2 : 2 ^ W = 2 * 2 ^ (W - 1) := by rw [show W = (W - 1) + 1 by omega, Nat.pow_succ, Nat.mul_comm]; rfl
  have hd := Nat.div_add_mod a (2 ^ (W - 1))
  unfold pk ps sgB
  by_cases c : 2 ^ (W - 1) ≤ a
  · have e : a / 2 ^ (W - 1) = 1 := by
      refine Nat.le_antisymm ?_ (Nat.div_pos c hp)
      have : a / 2 ^ (W - 1) < 2 := by rw [Nat.div_lt_iff_lt_mul hp]; omega
      omega
    rw [e] at hd
    rw [decide_eq_true c, if_pos rfl]; omega
  · rw [decide_eq_false c, if_neg (by simp), Nat.mod_eq_of_lt (by omega)]; rfl
theorem inf_of {a : Nat} (ha : a < 2 ^ W) (hk : pk W a = infP W P) : (a : Int) = ((infP W P + sgB (ps W a) W : Nat) : Int) := by
  have hw := h.w1
  have hp := Nat.two_pow_pos (W - 1)
  have h2 : 2 ^ W = 2 * 2 ^ (W - 1) := by rw [show W = (W - 1) + 1 by omega, Nat.pow_succ, Nat.mul_comm]; rfl
  have hd := Nat.div_add_mod a (2 ^ (W - 1))
  rw [← hk]
  unfold pk ps sgB
  by_cases c : 2 ^ (W - 1) ≤ a
  · have e : a / 2 ^ (W - 1) = 1 := by
      refine Nat.le_antisymm ?_ (Nat.div_pos c hp)
      have : a / 2 ^ (W - 1) < 2 := by rw [Nat.div_lt_iff_lt_mul hp]; omega
      omega
    rw [e] at hd
    rw [decide_eq_true c, if_pos rfl]; omega
  · rw [decide_eq_false c, if_neg (by simp), Nat.mod_eq_of_lt (by omega)]; rfl

/-! ### Order -/
theorem fOrd_num {x y : Int} {s t : Bool} {K J : Nat} (hx : Fl W P x s K) (hy : Fl W P y t J) : fOrd k x y = some (compare (sval s (plV P K)) (sval t (plV P J))) := by
  obtain ⟨m, q, r1, e1, _⟩ := hx.read h
  obtain ⟨n, r, r2, e2, _⟩ := hy.read h
  have a1 := (hx.pat h).2.2.2
  have a2 := (hy.pat h).2.2.2
  unfold fOrd
  rw [if_pos ⟨a1, a2⟩]
  unfold Ieee.Format.order
  rw [r1, r2]
  show some (compare (Ieee.signed s m _) (Ieee.signed t n _)) = _
  rw [signed_eq, signed_eq, ← e1, ← e2]
  have key : ∀ d : Nat, (sval s (m * 2 ^ (q - d)) * ((2 ^ d : Nat) : Int) = sval s (m * 2 ^ q) ∨ q < d) ∧ (sval t (n * 2 ^ (r - d)) * ((2 ^ d : Nat) : Int) = sval t (n * 2 ^ r) ∨ r < d) := by
    intro d
    constructor
    · by_cases c : q < d
      · exact .inr c
      · refine .inl ?_
        rw [← sval_mul, Nat.mul_assoc, ← Nat.pow_add, show q - d + d = q by omega]
    · by_cases c : r < d
      · exact .inr c
      · refine .inl ?_
        rw [← sval_mul, Nat.mul_assoc, ← Nat.pow_add, show r - d + d = r by omega]
  obtain ⟨k1, k2⟩ := key (min q r)
  have k1 := k1.resolve_right (by omega)
  have k2 := k2.resolve_right (by omega)
  rw [← k1, ← k2, compare_scale _ _ (Int.natCast_pos.2 (Nat.two_pow_pos _))]
  congr 3
  · congr 2; omega
  · congr 3; omega
theorem fEq_num {x y : Int} {s t : Bool} {K J : Nat} (hx : Fl W P x s K) (hy : Fl W P y t J) : fCmp .eql k x y = decide (sval s (plV P K) = sval t (plV P J)) := by
  unfold fCmp
  simp only
  rw [fOrd_num h hx hy, ← cmp_eq_iff]; rfl
theorem fNe_num {x y : Int} {s t : Bool} {K J : Nat} (hx : Fl W P x s K) (hy : Fl W P y t J) : fCmp .neq k x y = !decide (sval s (plV P K) = sval t (plV P J)) := by
  unfold fCmp
  simp only
  rw [fOrd_num h hx hy, ← cmp_eq_iff]; rfl
theorem fLt_num {x y : Int} {s t : Bool} {K J : Nat} (hx : Fl W P x s K) (hy : Fl W P y t J) : fCmp .lss k x y = decide (sval s (plV P K) < sval t (plV P J)) := by
  unfold fCmp
  simp only
  rw [fOrd_num h hx hy, ← cmp_lt_iff]; rfl
theorem fGt_num {x y : Int} {s t : Bool} {K J : Nat} (hx : Fl W P x s K) (hy : Fl W P y t J) : fCmp .gtr k x y = decide (sval t (plV P J) < sval s (plV P K)) := by
  unfold fCmp
  simp only
  rw [fOrd_num h hx hy, ← cmp_gt_iff]; rfl
theorem fl_zero (s : Bool) : Fl W P ((sgB s W : Nat) : Int) s 0 := ⟨by rw [Nat.zero_add], by have := h.b2; have := Nat.two_pow_pos P; omega⟩
theorem fl_zero' : Fl W P 0 false 0 := by
  have := fl_zero h false
  simpa [sgB] using this
omit h in
theorem sval_zero_iff (s : Bool) (V : Nat) : sval s V = 0 ↔ V = 0 := by unfold sval; cases s <;> simp
/-- Is it a zero? -/
theorem fEq_zero {x : Int} {s : Bool} {K : Nat} (hx : Fl W P x s K) : fCmp .eql k x 0 = decide (K = 0) ∧ fCmp .neq k x 0 = !decide (K = 0) ∧ fCmp .lss k x 0 = (s && !decide (K = 0)) := by
  have h8 := h.p8
  have z : sval s (plV P K) = sval false (plV P 0) ↔ K = 0 := by
    rw [plV0 P]
    show sval s (plV P K) = 0 ↔ _
    rw [sval_zero_iff, plV_zero (by omega)]
  refine ⟨?_, ?_, ?_⟩
  · rw [fEq_num h hx (fl_zero' h)]; exact decide_eq_decide.2 z
  · rw [fNe_num h hx (fl_zero' h)]; rw [decide_eq_decide.2 z]
  · rw [fLt_num h hx (fl_zero' h), plV0 P]
    have z2 := plV_zero (P := P) (by omega) (k := K)
    have e : sval false 0 = 0 := rfl
    rw [e]
    unfold sval
    cases s
    · rw [if_neg (by simp)]
      exact decide_eq_false (by omega)
    · rw [if_pos rfl]
      by_cases c : K = 0
      · rw [decide_eq_true c, z2.2 c]; rfl
      · rw [decide_eq_false c]
        have : plV P K ≠ 0 := fun e => c (z2.1 e)
        exact decide_eq_true (by omega)
theorem ord_inf_num {x y : Int} {s t : Bool} {J : Nat} (hx : x = ((infP W P + sgB s W : Nat) : Int)) (hy : Fl W P y t J) : fOrd k x y = some (if s then .lt else .gt) ∧ fOrd k y x = some (if s then .gt else .lt) := by
  obtain ⟨n, r, r2, e2, _⟩ := hy.read h
  have a2 := (hy.pat h).2.2.2
  obtain ⟨p1, p2', p3⟩ := pat_of h (K := infP W P) (inf_lt h) s
  have r1 := read_inf h p3 p1
  rw [p2'] at r1
  subst hx
  constructor
  · unfold fOrd
    rw [if_pos ⟨by omega, a2⟩, Int.toNat_natCast]
    unfold Ieee.Format.order
    rw [r1, r2]; rfl
  · unfold fOrd
    rw [if_pos ⟨a2, by omega⟩, Int.toNat_natCast]
    unfold Ieee.Format.order
    rw [r1, r2]; rfl
theorem ord_inf_self (s : Bool) : fOrd k ((infP W P + sgB s W : Nat) : Int) ((infP W P + sgB s W : Nat) : Int) = some .eq := by
  obtain ⟨p1, p2', p3⟩ := pat_of h (K := infP W P) (inf_lt h) s
  have r1 := read_inf h p3 p1
  unfold fOrd
  rw [if_pos ⟨by omega, by omega⟩, Int.toNat_natCast]
  unfold Ieee.Format.order
  rw [r1]
  cases (ps W (infP W P + sgB s W)) <;> rfl
theorem ord_nan {a : Nat} (ha : a < 2 ^ W) (hk : infP W P < pk W a) (y : Int) : fOrd k (a : Int) y = none := by
  obtain ⟨t, r1⟩ := read_nan h ha hk
  unfold fOrd
  split
  · rw [Int.toNat_natCast]
    unfold Ieee.Format.order
    rw [r1]
    exact order_nan_l _ _ _
  · rfl

/-! ### Sums, products, quotients -/
theorem add_self_at {x : Int} {s : Bool} {K : Nat} (hx : Fl W P x s K) : fArith .add k x x = ((min (rnd P 0 s (2 * plV P K) 1) (infP W P) + sgB s W : Nat) : Int) := by
  obtain ⟨m, q, r1, e1, _⟩ := hx.read h
  have a1 := (hx.pat h).2.2.2
  have h8 := h.p8
  rw [fArith_of a1 a1]
  show optF (k.format.add x.toNat x.toNat) = _
  unfold Ieee.Format.add
  rw [r1]
  have hz : em - (P : Int) + 1 + (q : Int) - min (em - (P : Int) + 1 + (q : Int)) (em - (P : Int) + 1 + (q : Int)) = 0 := by omega
  have hsum : (Ieee.Datum.number s m (em - (P : Int) + 1 + (q : Int))).sum (Ieee.Datum.number s m (em - (P : Int) + 1 + (q : Int))) = some (.number s (2 * m) (em - (P : Int) + 1 + (q : Int))) := by
    show some (Ieee.Datum.number _ _ _) = _
    rw [hz, signed_eq, Int.toNat_zero, Nat.pow_zero, Nat.mul_one, show min (em - (P : Int) + 1 + (q : Int)) (em - (P : Int) + 1 + (q : Int)) = em - (P : Int) + 1 + (q : Int) by omega, show sval s m + sval s m = sval s (2 * m) by unfold sval; cases s <;> simp <;> omega, natAbs_sval, sval_sign]
  rw [hsum]
  show ((k.format.nearest s (2 * m) (em - (P : Int) + 1 + (q : Int)) : Nat) : Int) = _
  rw [nearest_eq h (A := 2 * plV P K) (B := 1) (by decide) s]
  rw [p2_nat, p2_neg (by omega), Nat.mul_one, Nat.mul_one, Nat.mul_assoc, e1]
/-- Twice itself, exactly. -/
theorem add_self {x : Int} {s : Bool} {K R : Nat} (hx : Fl W P x s K) (hR : plV P R = 2 * plV P K) (hl : R < infP W P) : Fl W P (fArith .add k x x) s R := by
  have h8 := h.p8
  refine ⟨?_, hl⟩
  rw [add_self_at h hx, ← hR]
  have := (rnd_exact (P := P) (k := R) (B := 1) (by omega) (by decide) 0 s).1
  rw [Nat.mul_one] at this
  rw [this, Nat.min_eq_left (by omega)]
/-- A number that is its own double is a zero. -/
theorem add_self_eq {x : Int} {s : Bool} {K : Nat} (hx : Fl W P x s K) : fCmp .eql k (fArith .add k x x) x = decide (K = 0) := by
  have h8 := h.p8
  rw [add_self_at h hx]
  by_cases c : K = 0
  · subst c
    rw [plV0 P, Nat.mul_zero, rnd_zero P 0 s (by decide), Nat.zero_min, decide_eq_true rfl, Nat.zero_add]
    rw [fEq_num h (fl_zero h s) hx]; exact decide_eq_true rfl
  · rw [decide_eq_false c]
    have hm : K + 1 ≤ rnd P 0 s (2 * plV P K) 1 := by
      have e := (rnd_exact (P := P) (k := K + 1) (B := 1) (by omega) (by decide) 0 s).1
      rw [Nat.mul_one] at e
      have hle : plV P (K + 1) ≤ 2 * plV P K := by
        obtain ⟨z, u, e, h1, h2⟩ := plV_step (P := P) (by omega) K
        rw [e, Nat.add_assoc, plV_at (by omega) h1 (by omega), plV_at (P := P) (by omega) (by omega) (by omega), ← Nat.mul_assoc]
        refine Nat.mul_le_mul_right _ ?_
        have hp := Nat.two_pow_pos (P - 1)
        rcases h1 with rfl | h1
        · have : u ≠ 0 := by rintro rfl; omega
          omega
        · omega
      have := rnd_mono (P := P) (A := plV P (K + 1)) (B := 1) (A' := 2 * plV P K) (B' := 1) (by omega) (by decide) (by decide) 0 s (by omega)
      rw [e] at this; exact this
    rcases Nat.lt_or_ge (rnd P 0 s (2 * plV P K) 1) (infP W P) with g | g
    · rw [Nat.min_eq_left (by omega), fEq_num h ⟨rfl, g⟩ hx]
      refine decide_eq_false fun e => ?_
      have : plV P (rnd P 0 s (2 * plV P K) 1) = plV P K := by
        unfold sval at e
        cases s <;> simp at e <;> omega
      have := plV_inj (P := P) (by omega) this
      omega
    · rw [Nat.min_eq_right g]
      unfold fCmp
      simp only
      rw [(ord_inf_num h rfl hx).1]
      cases s <;> rfl
theorem add_self_inf (s : Bool) : fArith .add k ((infP W P + sgB s W : Nat) : Int) ((infP W P + sgB s W : Nat) : Int) = ((infP W P + sgB s W : Nat) : Int) := by
  obtain ⟨p1, p2', p3⟩ := pat_of h (K := infP W P) (inf_lt h) s
  have r1 := read_inf h p3 p1
  rw [p2'] at r1
  rw [fArith_of (by omega) (by omega), Int.toNat_natCast]
  show optF (k.format.add _ _) = _
  unfold Ieee.Format.add
  rw [r1]
  have : (Ieee.Datum.infinity s).sum (Ieee.Datum.infinity s) = some (.infinity s) := by
    show (if s = s then _ else _) = _
    rw [if_pos rfl]
  rw [this]
  show ((k.format.word s k.format.infRung : Nat) : Int) = _
  rw [word_eq h, h.ir]
/-- How many places lie below 1. -/
def dOf (P : Nat) (em : Int) : Nat := (-(em - (P : Int) + 1)).toNat
/-- A product that is exact. -/
theorem mul_exact {x y : Int} {s t : Bool} {K J R : Nat} (hx : Fl W P x s K) (hy : Fl W P y t J) (hR : plV P K * plV P J = plV P R * 2 ^ dOf P em) (hl : R < infP W P) : Fl W P (fArith .mul k x y) (s ^^ t) R := by
  obtain ⟨m, q, r1, e1, _⟩ := hx.read h
  obtain ⟨n, r, r2, e2, _⟩ := hy.read h
  have hn := h.neg
  have a1 := (hx.pat h).2.2.2
  have a2 := (hy.pat h).2.2.2
  refine ⟨?_, hl⟩
  rw [fArith_of a1 a2]
  show optF (k.format.mul x.toNat y.toNat) = _
  unfold Ieee.Format.mul
  rw [r1, r2]
  show ((k.format.nearest (s ^^ t) (m * n) (em - (P : Int) + 1 + (q : Int) + (em - (P : Int) + 1 + (r : Int))) : Nat) : Int) = _
  have hz : ((q + r : Nat) : Int) - ((dOf P em : Nat) : Int) = em - (P : Int) + 1 + (q : Int) + (r : Int) := by unfold dOf; omega
  rw [show em - (P : Int) + 1 + (q : Int) + (em - (P : Int) + 1 + (r : Int)) = em - (P : Int) + 1 + (em - (P : Int) + 1 + (q : Int) + (r : Int)) by omega]
  rw [nearest_exact h hl]
  refine p2_gen hz.symm ?_
  rw [← hR, ← e1, ← e2, Nat.pow_add]; grind
/-- A quotient by a power of two that is exact. -/
theorem quo_exact {x y : Int} {s : Bool} {K R j : Nat} (hx : Fl W P x s K) (hK : K ≠ 0) (hy : Fl W P y false ((j + 1) * 2 ^ (P - 1))) (hR : plV P K * 2 ^ dOf P em = plV P R * 2 ^ (P - 1 + j)) (hl : R < infP W P) : Fl W P (fArith .quo k x y) s R := by
  have h8 := h.p8
  have hp := Nat.two_pow_pos (P - 1)
  have hh := pow_half (P := P) (by omega)
  obtain ⟨m, q, r1, e1, hmP, _⟩ := hx.read h
  have hn := h.neg
  have a1 := (hx.pat h).2.2.2
  obtain ⟨b1, b2', b3, a2⟩ := hy.pat h
  -- what the divisor reads as
  have r2 : k.format.read y.toNat = .number false (2 ^ (P - 1)) (em - (P : Int) + 1 + (j : Int)) := by
    have hk := hy.lt
    unfold Ieee.Format.read
    rw [h.sw, h.bi, h.ir, h.lp, read_sign h b3, show y.toNat % 2 ^ (W - 1) = pk W y.toNat from rfl, b1, b2']
    dsimp only
    have h1 : ¬ ((j + 1) * 2 ^ (P - 1) < 2 ^ (P - 1)) := by rw [Nat.add_mul, Nat.one_mul]; omega
    rw [if_neg h1, if_pos hk, Nat.mul_mod_left, Nat.mul_div_cancel _ hp, Nat.add_zero, Nat.add_sub_cancel]
  have hm0 : m ≠ 0 := by
    rintro rfl
    rw [Nat.zero_mul] at e1
    exact hK ((plV_zero (by omega)).1 e1.symm)
  have hlog : m.log2 < P := (Nat.log2_lt hm0).2 hmP
  refine ⟨?_, hl⟩
  rw [fArith_of a1 a2]
  show optF (k.format.div x.toNat y.toNat) = _
  unfold Ieee.Format.div
  rw [r1, r2, h.fb]
  have hq : (Ieee.Datum.number s m (em - (P : Int) + 1 + (q : Int))).quotient (P - 1 + 2) (Ieee.Datum.number false (2 ^ (P - 1)) (em - (P : Int) + 1 + (j : Int))) =
      some (.number s (m * 2 ^ (P - 1 + 2 - m.log2 + 1)) (em - (P : Int) + 1 + (q : Int) - (em - (P : Int) + 1 + (j : Int)) - ((P - 1 + 2 + (P - 1) - m.log2 : Nat) : Int) - 1)) := by
    show (if 2 ^ (P - 1) = 0 then _ else some (Ieee.Datum.number (s ^^ false) _ _)) = _
    rw [if_neg (by omega), Nat.log2_two_pow, Nat.shiftLeft_eq]
    have e : m * 2 ^ (P - 1 + 2 + (P - 1) - m.log2) = m * 2 ^ (P - 1 + 2 - m.log2) * 2 ^ (P - 1) := by
      rw [Nat.mul_assoc, ← Nat.pow_add]; congr 2; omega
    rw [e, Nat.mul_div_cancel _ hp, Nat.mul_mod_left]
    congr 2
    · cases s <;> rfl
    · show 2 * (m * 2 ^ (P - 1 + 2 - m.log2)) + 0 = _
      rw [Nat.pow_succ]; grind
  rw [hq]
  show ((k.format.nearest s _ _ : Nat) : Int) = _
  rw [show em - (P : Int) + 1 + (q : Int) - (em - (P : Int) + 1 + (j : Int)) - ((P - 1 + 2 + (P - 1) - m.log2 : Nat) : Int) - 1 = em - (P : Int) + 1 + (((q + dOf P em : Nat) : Int) - ((j + (P - 1 + 2 + (P - 1) - m.log2) + 1 : Nat) : Int)) by unfold dOf; omega]
  rw [nearest_exact h hl]
  refine p2_gen rfl ?_
  have e2 : m * 2 ^ (P - 1 + 2 - m.log2 + 1) * 2 ^ (q + dOf P em) = m * 2 ^ q * 2 ^ dOf P em * 2 ^ (P - 1 + 2 - m.log2 + 1) := by rw [Nat.pow_add 2 q]; grind
  rw [e2, e1, hR, Nat.mul_assoc, ← Nat.pow_add]
  congr 2
  omega
theorem fneg_at {x : Int} {s : Bool} {K : Nat} (hx : Fl W P x s K) (hW : W = 1 + k.format.exponentBits + k.format.fractionBits) : Fl W P (fNeg k x) (!s) K := by
  obtain ⟨a, b, c, d⟩ := hx.pat h
  refine ⟨?_, hx.lt⟩
  have hl := inf_lt h
  have hlt := hx.lt
  unfold fNeg
  rw [if_pos d]
  unfold Op.negFloat
  rw [show k.format.exponentBits + k.format.fractionBits = W - 1 by omega, hx.e, Int.toNat_natCast]
  congr 1
  have hp := Nat.two_pow_pos (W - 1)
  have e0 : K ^^^ 2 ^ (W - 1) = K + 2 ^ (W - 1) := xor_hi (by omega)
  unfold sgB
  cases s
  · rw [if_neg (show ¬ (false = true) by simp), Nat.add_zero, if_pos (show (!false) = true from rfl)]; exact e0
  · rw [if_pos rfl, if_neg (show ¬ ((!true) = true) by simp), Nat.add_zero, ← e0, Nat.xor_assoc, Nat.xor_self, Nat.xor_zero]
/-- An integer that is exact. -/
theorem ofInt_exact {n : Int} {R : Nat} (hR : plV P R = n.natAbs * 2 ^ dOf P em) (hl : R < infP W P) : Fl W P (fOfInt k n) (decide (n < 0)) R := by
  have hn := h.neg
  refine ⟨?_, hl⟩
  unfold fOfInt FloatKind.nearest
  show ((k.format.nearest (decide (n < 0)) n.natAbs 0 : Nat) : Int) = _
  have := nearest_exact h hl (decide (n < 0)) (mag := n.natAbs) (z := -(em - (P : Int) + 1)) (by
    refine p2_gen (a := dOf P em) (b := 0) (by unfold dOf; omega) ?_
    rw [Nat.pow_zero, Nat.mul_one]; exact hR.symm)
  rw [show em - (P : Int) + 1 + -(em - (P : Int) + 1) = 0 by omega] at this
  rw [this]
end
end Go.Proofs.Ytmoeaeflljpboaa.X
