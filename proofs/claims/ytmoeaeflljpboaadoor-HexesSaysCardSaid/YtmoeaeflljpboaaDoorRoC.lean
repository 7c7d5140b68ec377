/- Plain law: layer 3's Canon, layer 5's Exact, Ratio and Parts, by the plain rounding to a place. Conditions: format and mode are such, the sizes are within the limits. -/
import Derived.Test.YtmoeaeflljpboaaDoorRoB
import Derived.Test.YtmoeaeflljpboaaDoorDyA
namespace Go.Proofs.YtmoeaeflljpboaaDoor.X
open Go Go.Rex
set_option linter.unusedVariables false

/-! ### The zeros at a natural's end -/
def tz (n : Nat) : Nat := if n = 0 then 0 else if n % 2 = 1 then 0 else tz (n / 2) + 1
termination_by n
decreasing_by exact Nat.div_lt_self (by omega) (by decide)
theorem tz_odd (m : Nat) : tz (2 * m + 1) = 0 := by rw [tz, if_neg (by omega), if_pos (by omega)]
theorem tz_eq (t m : Nat) : tz (2 ^ t * (2 * m + 1)) = t := by
  induction t with
  | zero => rw [Nat.pow_zero, Nat.one_mul, tz_odd]
  | succ t ih =>
    have hp : 0 < 2 ^ t * (2 * m + 1) := Nat.mul_pos (Nat.two_pow_pos t) (by omega)
    have e : 2 ^ (t + 1) * (2 * m + 1) = 2 * (2 ^ t * (2 * m + 1)) := by rw [Nat.pow_succ]; grind
    rw [e, tz, if_neg (by omega), if_neg (by omega), Nat.mul_div_cancel_left _ (by decide), ih]
theorem tz_spec {n : Nat} (h : n ≠ 0) : ∃ m, n = 2 ^ tz n * (2 * m + 1) := by
  induction n using Nat.strongRecOn with
  | _ n ih =>
    by_cases c : n % 2 = 1
    · refine ⟨n / 2, ?_⟩
      have : tz n = 0 := by rw [tz, if_neg h, if_pos c]
      rw [this]; omega
    · obtain ⟨m, hm⟩ := ih (n / 2) (by omega) (by omega)
      refine ⟨m, ?_⟩
      have : tz n = tz (n / 2) + 1 := by conv => lhs; rw [tz, if_neg h, if_neg c]
      rw [this, Nat.pow_succ, Nat.mul_right_comm, ← hm]; omega
/-- Without the zeros at its end. -/
def oddN (n : Nat) : Nat := n / 2 ^ tz n
theorem oddN_mul {n : Nat} (h : n ≠ 0) : oddN n * 2 ^ tz n = n := by
  obtain ⟨m, hm⟩ := tz_spec h
  unfold oddN
  conv => lhs; rw [show n / 2 ^ tz n = 2 * m + 1 by
    conv => lhs; rw [show n / 2 ^ tz n = 2 ^ tz n * (2 * m + 1) / 2 ^ tz n by rw [← hm]]
    rw [Nat.mul_div_cancel_left _ (Nat.two_pow_pos _)]]
  rw [Nat.mul_comm]; exact hm.symm
theorem oddN_odd {n : Nat} (h : n ≠ 0) : oddN n % 2 = 1 := by
  obtain ⟨m, hm⟩ := tz_spec h
  have : oddN n = 2 * m + 1 := by
    unfold oddN
    conv => lhs; rw [show n / 2 ^ tz n = 2 ^ tz n * (2 * m + 1) / 2 ^ tz n by rw [← hm]]
    rw [Nat.mul_div_cancel_left _ (Nat.two_pow_pos _)]
  rw [this]; omega
theorem oddN_ne {n : Nat} (h : n ≠ 0) : oddN n ≠ 0 := by have := oddN_odd h; omega
theorem oddN_le (n : Nat) : oddN n ≤ n := Nat.div_le_self _ _
theorem tz_blen {n : Nat} (h : n ≠ 0) : tz n < blen n := by
  have h1 := oddN_mul h
  have h2 := oddN_ne h
  have := blen_pow_mul h2 (tz n)
  rw [h1] at this
  have := blen_pos h2
  omega
theorem odd_all {a : List Int} (ha : WF a) (la : Lb a) (hl : (digs (val a)).length ≤ 100000) (hv : val a ≠ 0) (neg : Bool) {e : Int} (he : -1000000000 ≤ e ∧ e ≤ 1000000000) : Ev (fun k => dyad_odd k neg a e) (neg, (digs (oddN (val a)), e + (tz (val a) : Int))) := by
  obtain ⟨t, m, h1, h2, h3⟩ := odd_ev ha la hl hv neg he
  have : t = tz (val a) := by rw [h1, tz_eq]
  subst this
  exact h3
/-! ### Canon -/
theorem Canon_ok {a : List Int} (ha : WF a) (hl : a.length ≤ 1024) {e : Int} (he : -40000 ≤ e ∧ e ≤ 40000) (hv : val a ≠ 0) (ht : e + (tz (val a) : Int) ≤ 40000) (neg : Bool) : Ev (fun k => dyad_Canon k neg a e) (neg, (digs (oddN (val a)), (e + (tz (val a) : Int), (0 : Int)))) := by
  have hd : (digs (val a)).length ≤ 1024 := Nat.le_trans (digs_length_lt.2 (val_lt ha)) hl
  have ho : (digs (oddN (val a))).length ≤ 1024 := Nat.le_trans (digs_len_mono (oddN_le _)) hd
  refine Ev.congr (fun k => dyad_Canon_eq k _ _ _) (Ev.bind (Ev.congr (fun k => dyad_refuses_eq k _ _ _) (Ev.neg (dF (by omega)) (Ev.neg (dF (by omega)) (Ev.neg (dF (by omega)) (Ev.some (0 : Int)))))) (Ev.neg (nF rfl) (Ev.bind (Ev.congr (fun k => dyad_answer_eq k _ _ _) (Ev.bind (odd_all ha (by unfold Lb; omega) (by omega) hv neg (by omega)) (Ev.neg (dF ?_) (Ev.neg (dF ?_) (Ev.neg (dF ?_) (Ev.some _)))))) (Ev.some _))))
  · show ¬ (((digs (oddN (val a))).length : Int) > 1024); omega
  · show ¬ (e + (tz (val a) : Int) < -40000); omega
  · show ¬ (e + (tz (val a) : Int) > 40000); omega
theorem Canon_zero {a : List Int} (ha : WF a) (hl : a.length ≤ 1024) {e : Int} (he : -40000 ≤ e ∧ e ≤ 40000) (hv : val a = 0) (neg : Bool) : Ev (fun k => dyad_Canon k neg a e) (false, (([] : List Int), ((0 : Int), (0 : Int)))) := by
  exact Ev.congr (fun k => dyad_Canon_eq k _ _ _) (Ev.bind (Ev.congr (fun k => dyad_refuses_eq k _ _ _) (Ev.neg (dF (by omega)) (Ev.neg (dF (by omega)) (Ev.neg (dF (by omega)) (Ev.some (0 : Int)))))) (Ev.neg (nF rfl) (Ev.bind (Ev.congr (fun k => dyad_answer_eq k _ _ _) (Ev.bind (odd_zero ha (by unfold Lb; omega) hv neg e) (Ev.neg (dF (by simp)) (Ev.neg (dF (by simp)) (Ev.neg (dF (by simp)) (Ev.some _)))))) (Ev.some _))))
theorem Canon_exp {a : List Int} (ha : WF a) (hl : a.length ≤ 1024) {e : Int} (he : -40000 ≤ e ∧ e ≤ 40000) (hv : val a ≠ 0) (ht : 40000 < e + (tz (val a) : Int)) (neg : Bool) : Ev (fun k => dyad_Canon k neg a e) (false, (([] : List Int), ((0 : Int), (30 : Int)))) := by
  have hd : (digs (val a)).length ≤ 1024 := Nat.le_trans (digs_length_lt.2 (val_lt ha)) hl
  have ho : (digs (oddN (val a))).length ≤ 1024 := Nat.le_trans (digs_len_mono (oddN_le _)) hd
  refine Ev.congr (fun k => dyad_Canon_eq k _ _ _) (Ev.bind (Ev.congr (fun k => dyad_refuses_eq k _ _ _) (Ev.neg (dF (by omega)) (Ev.neg (dF (by omega)) (Ev.neg (dF (by omega)) (Ev.some (0 : Int)))))) (Ev.neg (nF rfl) (Ev.bind (Ev.congr (fun k => dyad_answer_eq k _ _ _) (Ev.bind (odd_all ha (by unfold Lb; omega) (by omega) hv neg (by omega)) (Ev.neg (dF ?_) (Ev.neg (dF ?_) (Ev.pos (dT ?_) (Ev.some _)))))) (Ev.some _))))
  · show ¬ (((digs (oddN (val a))).length : Int) > 1024); omega
  · show ¬ (e + (tz (val a) : Int) < -40000); omega
  · show e + (tz (val a) : Int) > 40000; omega
/-- The argument's errors. -/
def badE (a : List Int) (e : Int) : Int := if 1024 < a.length then 5 else if e < -40000 ∨ 40000 < e then 30 else 0
theorem refuses_all (a : List Int) (e : Int) (neg : Bool) : Ev (fun k => dyad_refuses k neg a e) (badE a e) := by
  refine Ev.congr (fun k => dyad_refuses_eq k _ _ _) ?_
  unfold badE
  by_cases c1 : 1024 < a.length
  · rw [if_pos c1]; exact Ev.pos (dT (by omega)) (Ev.some _)
  · rw [if_neg c1]
    refine Ev.neg (dF (by omega)) ?_
    by_cases c2 : e < -40000
    · rw [if_pos (show e < -40000 ∨ 40000 < e from .inl c2)]; exact Ev.pos (dT c2) (Ev.some _)
    · by_cases c3 : 40000 < e
      · rw [if_pos (show e < -40000 ∨ 40000 < e from .inr c3)]; exact Ev.neg (dF c2) (Ev.pos (dT c3) (Ev.some _))
      · rw [if_neg (show ¬ (e < -40000 ∨ 40000 < e) by omega)]; exact Ev.neg (dF c2) (Ev.neg (dF c3) (Ev.some _))
theorem Canon_bad {a : List Int} {e : Int} (h : badE a e ≠ 0) (neg : Bool) : Ev (fun k => dyad_Canon k neg a e) (false, (([] : List Int), ((0 : Int), badE a e))) :=
  Ev.congr (fun k => dyad_Canon_eq k _ _ _) (Ev.bind (refuses_all a e neg) (Ev.pos (nT h) (Ev.some _)))

/-! ### The same number, otherwise -/
/-- A number A / B * 2^e in places of 2^l. -/
def rA (A : Nat) (e l : Int) : Nat := A * p2 (e - l)
def rB (B : Nat) (e l : Int) : Nat := B * p2 (l - e)
theorem rB_pos {B : Nat} (h : 0 < B) (e l : Int) : 0 < rB B e l := Nat.mul_pos h (p2_pos _)
theorem q_r (n : Nat) (e : Int) (more : Bool) (l : Int) : qA n e more l = rA (nuN n more) e l ∧ qB e more l = rB (nuD more) e l := ⟨rfl, rfl⟩
/-- Factors of two go from one side to the other. -/
theorem r_shift {A B A' B' : Nat} {e e' : Int} (l : Int) (k : Nat) (he : e = e' + (k : Int)) (h : A' * B = A * 2 ^ k * B') : rA A e l * rB B' e' l = rA A' e' l * rB B e l := by
  have hc := p2_cross e l e'
  rw [p2_neg (z := e' - e) (by omega), Nat.one_mul, show e - e' = (k : Int) by omega, p2_nat] at hc
  unfold rA rB
  have e1 : A * p2 (e - l) * (B' * p2 (l - e')) = A * B' * (p2 (e - l) * p2 (l - e')) := by grind
  have e2 : A' * p2 (e' - l) * (B * p2 (l - e)) = A' * B * (p2 (e' - l) * p2 (l - e)) := by grind
  rw [e1, e2, h, hc]
  grind
/-- A quotient with a rest rounds as its floor and an unknown rest. -/
theorem rnOut_sticky (W : Nat) {P : Nat} (hP : 2 ≤ P) (m : Int) (neg : Bool) {A B : Nat} (hB : 0 < B) (hr : A % B ≠ 0) (hb : P + 2 ≤ blen (A / B)) (e l : Int) : rnOut W P m neg (rA A e l) (rB B e l) = rnOut W P m neg (qA (A / B) e true l) (qB e true l) := by
  have hn : A / B ≠ 0 := by rintro h0; rw [h0, blen_zero] at hb; omega
  have hq := blen_q hn e true l
  have bp := rB_pos hB e l
  have bq := qB_pos e true l
  -- the floors have as many bits
  have hfl : blen (rA A e l / rB B e l) = ((blen (A / B) : Int) + e - l).toNat := by
    unfold rA rB
    rcases Int.lt_or_le e l with c | c
    · obtain ⟨y, hy⟩ : ∃ y : Nat, l - e = (y : Int) := ⟨(l - e).toNat, by omega⟩
      rw [p2_neg (z := e - l) (by omega), hy, p2_nat, Nat.mul_one, ← Nat.div_div_eq_div_mul, blen_div_pow hn]; omega
    · obtain ⟨x, hx⟩ : ∃ x : Nat, e - l = (x : Int) := ⟨(e - l).toNat, by omega⟩
      rw [p2_neg (z := l - e) (by omega), hx, p2_nat, Nat.mul_one]
      have h1 := blen_le hn
      have h2 := blen_lt (A / B)
      have h3 := blen_pos hn
      have h4 := Nat.div_mul_le_self A B
      have h5 := Nat.lt_div_mul_add (a := A) hB
      have hx0 := Nat.two_pow_pos x
      have lo : 2 ^ (blen (A / B) - 1 + x) ≤ A * 2 ^ x / B := by
        rw [Nat.le_div_iff_mul_le hB, Nat.pow_add, Nat.mul_right_comm]
        exact Nat.mul_le_mul_right _ (Nat.le_trans (Nat.mul_le_mul_right B h1) h4)
      have hi : A * 2 ^ x / B < 2 ^ (blen (A / B) - 1 + x + 1) := by
        rw [Nat.div_lt_iff_lt_mul hB, show blen (A / B) - 1 + x + 1 = blen (A / B) + x by omega, Nat.pow_add, Nat.mul_right_comm]
        refine Nat.mul_lt_mul_of_pos_right (Nat.lt_of_lt_of_le h5 ?_) hx0
        have := Nat.mul_le_mul_right B (show A / B + 1 ≤ 2 ^ blen (A / B) from h2)
        rw [Nat.add_mul, Nat.one_mul] at this; omega
      have := blen_eq lo hi
      omega
  have hsh : shf P (rA A e l) (rB B e l) = shf P (qA (A / B) e true l) (qB e true l) := by
    unfold shf; rw [hfl, hq]
  -- at a place high enough
  have at_t : ∀ (z : Int) (t : Nat), z - e = ((t + 1 : Nat) : Int) → cutN m neg (rA A e z) (rB B e z) = cutN m neg (qA (A / B) e true z) (qB e true z) ∧ lftN (rA A e z) (rB B e z) = lftN (qA (A / B) e true z) (qB e true z) := by
    intro z t hz
    have e1 : rA A e z = A := by unfold rA; rw [p2_neg (by omega), Nat.mul_one]
    have e2 : rB B e z = B * 2 ^ (t + 1) := by unfold rB; rw [hz, p2_nat]
    have e3 : qA (A / B) e true z = 2 * (A / B) + 1 := by unfold qA nuN; rw [if_pos rfl, p2_neg (by omega), Nat.mul_one]
    have e4 : qB e true z = 2 * 2 ^ (t + 1) := by unfold qB nuD; rw [if_pos rfl, hz, p2_nat]
    rw [e1, e2, e3, e4]
    exact ⟨sticky_cut m neg hB hr, sticky_lft hB hr⟩
  -- from the places of 2^l to those of 2^(l+s)
  have up : ∀ s : Nat, (rA A e (l + s) * (rB B e l * 2 ^ s) = rA A e l * rB B e (l + s)) ∧ (qA (A / B) e true (l + s) * (qB e true l * 2 ^ s) = qA (A / B) e true l * qB e true (l + s)) := by
    intro s
    have h1 := p2_cross e (l + s) l
    rw [p2_neg (z := l - (l + (s : Int))) (by omega), Nat.mul_one, show l + (s : Int) - l = (s : Int) by omega, p2_nat] at h1
    have h2 := q_cross (A / B) e true (q := l + s) (l := l) (by omega)
    rw [show l + (s : Int) - l = (s : Int) by omega, p2_nat] at h2
    refine ⟨?_, h2⟩
    unfold rA rB
    have e1 : A * p2 (e - (l + (s : Int))) * (B * p2 (l - e) * 2 ^ s) = A * B * (p2 (e - (l + (s : Int))) * (p2 (l - e) * 2 ^ s)) := by grind
    have e2 : A * p2 (e - l) * (B * p2 (l + (s : Int) - e)) = A * B * (p2 (e - l) * p2 (l + (s : Int) - e)) := by grind
    rw [e1, e2, h1]
  have main : ∀ s : Nat, (∃ t : Nat, l + (s : Int) - e = ((t + 1 : Nat) : Int)) → cutN m neg (rA A e l) (rB B e l * 2 ^ s) = cutN m neg (qA (A / B) e true l) (qB e true l * 2 ^ s) ∧ lftN (rA A e l) (rB B e l * 2 ^ s) = lftN (qA (A / B) e true l) (qB e true l * 2 ^ s) := by
    intro s ⟨t, ht⟩
    obtain ⟨u1, u2⟩ := up s
    obtain ⟨a1, a2⟩ := at_t (l + s) t ht
    have hs := Nat.two_pow_pos s
    have b1 := Nat.mul_pos bp hs
    have b2 := rB_pos hB e (l + s)
    have b3 := Nat.mul_pos bq hs
    have b4 := qB_pos e true (l + s)
    rw [← cutN_cross m neg b2 b1 u1, ← cutN_cross m neg b4 b3 u2, ← lftN_cross b2 b1 u1, ← lftN_cross b4 b3 u2]
    exact ⟨a1, a2⟩
  have hs1 : (shf P (qA (A / B) e true l) (qB e true l) : Int) = (((blen (A / B) : Int) + e - l).toNat - P : Nat) := by unfold shf; rw [hq]
  obtain ⟨m1, m2⟩ := main (shf P (qA (A / B) e true l) (qB e true l)) ⟨(l + (shf P (qA (A / B) e true l) (qB e true l) : Int) - e - 1).toNat, by omega⟩
  have hrnd : rnd P m neg (rA A e l) (rB B e l) = rnd P m neg (qA (A / B) e true l) (qB e true l) := by unfold rnd; rw [hsh, m1]
  have hlp : lftP P (rA A e l) (rB B e l) = lftP P (qA (A / B) e true l) (qB e true l) := by unfold lftP; rw [hsh, m2]
  have hlow : ∀ {X Y : Nat}, 0 < Y → (X < Y * 2 ^ (P - 1) ↔ blen (X / Y) ≤ P - 1) := fun {X Y} hY => by
    rw [blen_le_iff, Nat.div_lt_iff_lt_mul hY, Nat.mul_comm Y]
  have hti : tinyB P m neg (rA A e l) (rB B e l) = tinyB P m neg (qA (A / B) e true l) (qB e true l) := by
    unfold tinyB
    by_cases c : rA A e l < rB B e l * 2 ^ (P - 1)
    · have c2 : qA (A / B) e true l < qB e true l * 2 ^ (P - 1) := by
        rw [hlow bp, hfl] at c
        rw [hlow bq, hq]; exact c
      have c3 := (hlow bq).1 c2
      rw [hq] at c3
      rw [decide_eq_true c, decide_eq_true c2]
      -- one place lower
      obtain ⟨t, ht⟩ : ∃ t : Nat, l - 1 - e = ((t + 1 : Nat) : Int) := ⟨(l - 1 - e - 1).toNat, by omega⟩
      obtain ⟨a1, a2⟩ := at_t (l - 1) t ht
      have h1 : rA A e (l - 1) * rB B e l = 2 * rA A e l * rB B e (l - 1) := by
        unfold rA rB
        rw [p2_neg (z := e - (l - 1)) (by omega), p2_neg (z := e - l) (by omega), ht, show l - e = ((t + 2 : Nat) : Int) by omega, p2_nat, p2_nat, Nat.pow_succ 2 (t + 1)]
        grind
      have h2 := q_cross (A / B) e true (q := l) (l := l - 1) (by omega)
      rw [show l - (l - 1) = ((1 : Nat) : Int) by omega, p2_nat, Nat.pow_one] at h2
      have h3 : qA (A / B) e true (l - 1) * qB e true l = 2 * qA (A / B) e true l * qB e true (l - 1) := by
        rw [← h2]; grind
      rw [← cutN_cross m neg (rB_pos hB e (l - 1)) bp h1, ← cutN_cross m neg (qB_pos e true (l - 1)) bq h3, a1]
    · have c2 : ¬ (qA (A / B) e true l < qB e true l * 2 ^ (P - 1)) := by
        rw [hlow bp, hfl] at c
        rw [hlow bq, hq]; exact c
      rw [decide_eq_false c, decide_eq_false c2]; rfl
  unfold rnOut
  rw [hrnd, hlp, hti]
end Go.Proofs.YtmoeaeflljpboaaDoor.X
