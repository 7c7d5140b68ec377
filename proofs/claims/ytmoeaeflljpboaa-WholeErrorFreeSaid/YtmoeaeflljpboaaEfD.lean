/- Plain law: the machine's sums and differences of two numbers, rounded. Conditions: both are numbers. -/
import Derived.Test.YtmoeaeflljpboaaEfC
namespace Go.Proofs.Ytmoeaeflljpboaa.X
open Go Go.Rex
set_option linter.unusedVariables false
section
variable {k : FloatKind} {W P : Nat} {em : Int} (h : If k.format W P em)
include h
/-- What a sum of two numbers is. -/
theorem sum_core {s t : Bool} {m m' q q' V V' : Nat} (e1 : m * 2 ^ q = V) (e2 : m' * 2 ^ q' = V') {z : Int} (hz : z = sval s V + sval t V') {n : Bool} (hn : n = if z = 0 then s && t else decide (z < 0)) :
    optF (((Ieee.Datum.number s m (em - (P : Int) + 1 + (q : Int))).sum (Ieee.Datum.number t m' (em - (P : Int) + 1 + (q' : Int)))).map k.format.write) = ((min (rnd P 0 n z.natAbs 1) (infP W P) + sgB n W : Nat) : Int) := by
  obtain ⟨u, hu⟩ : ∃ u : Nat, u = min q q' := ⟨_, rfl⟩
  have hm : min (em - (P : Int) + 1 + (q : Int)) (em - (P : Int) + 1 + (q' : Int)) = em - (P : Int) + 1 + (u : Int) := by omega
  have h1 : (em - (P : Int) + 1 + (q : Int) - (em - (P : Int) + 1 + (u : Int))).toNat = q - u := by omega
  have h2 : (em - (P : Int) + 1 + (q' : Int) - (em - (P : Int) + 1 + (u : Int))).toNat = q' - u := by omega
  have hS : (sval s (m * 2 ^ (q - u)) + sval t (m' * 2 ^ (q' - u))) * ((2 ^ u : Nat) : Int) = z := by
    rw [hz, Int.add_mul, ← sval_mul, ← sval_mul, Nat.mul_assoc, Nat.mul_assoc, ← Nat.pow_add, ← Nat.pow_add, show q - u + u = q by omega, show q' - u + u = q' by omega, e1, e2]
  have hsum : (Ieee.Datum.number s m (em - (P : Int) + 1 + (q : Int))).sum (Ieee.Datum.number t m' (em - (P : Int) + 1 + (q' : Int))) = some (.number (if sval s (m * 2 ^ (q - u)) + sval t (m' * 2 ^ (q' - u)) = 0 then s && t else decide (sval s (m * 2 ^ (q - u)) + sval t (m' * 2 ^ (q' - u)) < 0)) (sval s (m * 2 ^ (q - u)) + sval t (m' * 2 ^ (q' - u))).natAbs (em - (P : Int) + 1 + (u : Int))) := by
    show some (Ieee.Datum.number _ _ _) = _
    rw [hm, h1, h2, signed_eq, signed_eq]
  rw [hsum]
  generalize sval s (m * 2 ^ (q - u)) + sval t (m' * 2 ^ (q' - u)) = S at *
  have hp := Nat.two_pow_pos u
  have hn' : (if S = 0 then s && t else decide (S < 0)) = n := by
    rw [hn]
    by_cases c : S = 0
    · rw [if_pos c, if_pos (by rw [← hS, c, Int.zero_mul])]
    · have hzn : z ≠ 0 := by
        rw [← hS]
        exact Int.mul_ne_zero c (by omega)
      rw [if_neg c, if_neg hzn]
      by_cases c2 : S < 0
      · rw [decide_eq_true c2, decide_eq_true]
        rw [← hS]; exact Int.mul_neg_of_neg_of_pos c2 (by omega)
      · rw [decide_eq_false c2, decide_eq_false]
        rw [← hS]
        have := Int.mul_nonneg (show 0 ≤ S by omega) (show (0 : Int) ≤ ((2 ^ u : Nat) : Int) by omega)
        omega
  rw [hn']
  show ((k.format.nearest n S.natAbs (em - (P : Int) + 1 + (u : Int)) : Nat) : Int) = _
  rw [nearest_eq h (A := z.natAbs) (B := 1) (by decide) n]
  rw [p2_nat, p2_neg (by omega), Nat.mul_one, Nat.mul_one, ← hS, Int.natAbs_mul, Int.natAbs_natCast]
theorem add_at {x y : Int} {s t : Bool} {K J : Nat} (hx : Fl W P x s K) (hy : Fl W P y t J) {z : Int} (hz : z = sval s (plV P K) + sval t (plV P J)) {n : Bool} (hn : n = if z = 0 then s && t else decide (z < 0)) :
    fArith .add k x y = ((min (rnd P 0 n z.natAbs 1) (infP W P) + sgB n W : Nat) : Int) := by
  obtain ⟨m, q, r1, e1, _⟩ := hx.read h
  obtain ⟨m', q', r2, e2, _⟩ := hy.read h
  rw [fArith_of (hx.pat h).2.2.2 (hy.pat h).2.2.2]
  show optF (k.format.add x.toNat y.toNat) = _
  unfold Ieee.Format.add
  rw [r1, r2]
  exact sum_core h e1 e2 hz hn
omit h in
theorem sval_opp (t : Bool) (V : Nat) : sval (!t) V = -sval t V := by unfold sval; cases t <;> simp
theorem sub_at {x y : Int} {s t : Bool} {K J : Nat} (hx : Fl W P x s K) (hy : Fl W P y t J) {z : Int} (hz : z = sval s (plV P K) - sval t (plV P J)) {n : Bool} (hn : n = if z = 0 then s && !t else decide (z < 0)) :
    fArith .sub k x y = ((min (rnd P 0 n z.natAbs 1) (infP W P) + sgB n W : Nat) : Int) := by
  obtain ⟨m, q, r1, e1, _⟩ := hx.read h
  obtain ⟨m', q', r2, e2, _⟩ := hy.read h
  rw [fArith_of (hx.pat h).2.2.2 (hy.pat h).2.2.2]
  show optF (k.format.sub x.toNat y.toNat) = _
  unfold Ieee.Format.sub
  rw [r1, r2]
  exact sum_core h (t := !t) e1 e2 (by rw [hz, sval_opp, Int.sub_eq_add_neg]) hn
/-- A product. -/
theorem mul_at {x y : Int} {s t : Bool} {K J : Nat} (hx : Fl W P x s K) (hy : Fl W P y t J) :
    fArith .mul k x y = ((min (rnd P 0 (s ^^ t) (plV P K * plV P J) (2 ^ dOf P em)) (infP W P) + sgB (s ^^ t) W : Nat) : Int) := by
  obtain ⟨m, q, r1, e1, _⟩ := hx.read h
  obtain ⟨n, r, r2, e2, _⟩ := hy.read h
  have hn := h.neg
  rw [fArith_of (hx.pat h).2.2.2 (hy.pat h).2.2.2]
  show optF (k.format.mul x.toNat y.toNat) = _
  unfold Ieee.Format.mul
  rw [r1, r2]
  show ((k.format.nearest (s ^^ t) (m * n) (em - (P : Int) + 1 + (q : Int) + (em - (P : Int) + 1 + (r : Int))) : Nat) : Int) = _
  have hz : ((q + r : Nat) : Int) - ((dOf P em : Nat) : Int) = em - (P : Int) + 1 + (q : Int) + (r : Int) := by unfold dOf; omega
  rw [show em - (P : Int) + 1 + (q : Int) + (em - (P : Int) + 1 + (r : Int)) = em - (P : Int) + 1 + (em - (P : Int) + 1 + (q : Int) + (r : Int)) by omega]
  rw [nearest_eq h (A := plV P K * plV P J) (B := 2 ^ dOf P em) (Nat.two_pow_pos _)]
  rw [Nat.mul_right_comm]
  refine p2_gen hz.symm ?_
  rw [← e1, ← e2, Nat.pow_add]; grind
/-- A sum that is a number. -/
theorem add_fin {x y : Int} {s t : Bool} {K J : Nat} (hx : Fl W P x s K) (hy : Fl W P y t J) {z : Int} (hz : z = sval s (plV P K) + sval t (plV P J)) {n : Bool} (hn : n = if z = 0 then s && t else decide (z < 0)) (hf : rnd P 0 n z.natAbs 1 < infP W P) :
    Fl W P (fArith .add k x y) n (rnd P 0 n z.natAbs 1) := ⟨by rw [add_at h hx hy hz hn, Nat.min_eq_left (by omega)], hf⟩
theorem sub_fin {x y : Int} {s t : Bool} {K J : Nat} (hx : Fl W P x s K) (hy : Fl W P y t J) {z : Int} (hz : z = sval s (plV P K) - sval t (plV P J)) {n : Bool} (hn : n = if z = 0 then s && !t else decide (z < 0)) (hf : rnd P 0 n z.natAbs 1 < infP W P) :
    Fl W P (fArith .sub k x y) n (rnd P 0 n z.natAbs 1) := ⟨by rw [sub_at h hx hy hz hn, Nat.min_eq_left (by omega)], hf⟩
theorem mul_fin {x y : Int} {s t : Bool} {K J : Nat} (hx : Fl W P x s K) (hy : Fl W P y t J) (hf : rnd P 0 (s ^^ t) (plV P K * plV P J) (2 ^ dOf P em) < infP W P) :
    Fl W P (fArith .mul k x y) (s ^^ t) (rnd P 0 (s ^^ t) (plV P K * plV P J) (2 ^ dOf P em)) := ⟨by rw [mul_at h hx hy, Nat.min_eq_left (by omega)], hf⟩
/-- Is a result finite? As the program asks it: less itself. -/
theorem self_less {x : Int} {s : Bool} {K : Nat} (hx : Fl W P x s K) : fCmp .neq k (fArith .sub k x x) 0 = false := by
  have hz : (0 : Int) = sval s (plV P K) - sval s (plV P K) := by omega
  have e := sub_at h hx hx hz (n := s && !s) (by rw [if_pos rfl])
  rw [e]
  have e0 : rnd P 0 (s && !s) (0 : Int).natAbs 1 = 0 := rnd_zero P 0 _ (by decide)
  rw [e0, Nat.zero_min, Nat.zero_add]
  rw [(fEq_zero h (fl_zero h (s && !s))).2.1]
  rfl
end
/-- The sign does not matter to the nearest, nor that of nothing. -/
theorem rnd_even_sign (P : Nat) (a b : Bool) (A B : Nat) : rnd P 0 a A B = rnd P 0 b A B := by
  unfold rnd cutN chs ups; rfl
/-- A float's value in units of 2^-1074. -/
def zv (s : Bool) (K : Nat) : Int := sval s (plV 53 K)
theorem RN_sval {z : Int} {n : Bool} (hn : z ≠ 0 → n = decide (z < 0)) : sval n (plV 53 (rnd 53 0 n z.natAbs 1)) = RN z := by
  unfold RN
  by_cases c : z = 0
  · subst c
    rw [show (0 : Int).natAbs = 0 from rfl, rnd_zero 53 0 n (by decide), rnd_zero 53 0 _ (by decide), plV0 53]
    cases n <;> rfl
  · rw [hn c]
end Go.Proofs.Ytmoeaeflljpboaa.X
