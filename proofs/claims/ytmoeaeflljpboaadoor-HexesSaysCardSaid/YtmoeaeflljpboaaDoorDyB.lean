/- Plain law: layer 3's Cmp and Neg of exact numbers whose naturals are odd or nothing. Conditions: the exponents are in their range, the naturals short. -/
import Derived.Test.YtmoeaeflljpboaaDoorDyA
namespace Go.Proofs.YtmoeaeflljpboaaDoor.X
open Go Go.Rex
set_option linter.unusedVariables false

/-- A number's natural and exponent are short enough. -/
structure Sm (n : Nat) (e : Int) : Prop where
  len : (digs n).length ≤ 1000
  e0 : -40000 ≤ e
  e1 : e ≤ 40000
theorem refuses_ev {n : Nat} {e : Int} (h : Sm n e) (neg : Bool) : Ev (fun k => dyad_refuses k neg (digs n) e) 0 := by
  have h1 := h.len; have h2 := h.e0; have h3 := h.e1
  exact Ev.congr (fun k => dyad_refuses_eq k _ _ _) (Ev.neg (dF (by omega)) (Ev.neg (dF (by omega)) (Ev.neg (dF (by omega)) (Ev.some _))))
theorem two_ev {n m : Nat} {e f : Int} (h : Sm n e) (g : Sm m f) (a b : Bool) : Ev (fun k => dyad_two k a (digs n) e b (digs m) f) 0 :=
  Ev.congr (fun k => dyad_two_eq k _ _ _ _ _ _) (Ev.bind (refuses_ev h a) (Ev.neg (nF rfl) (Ev.bind (refuses_ev g b) (Ev.some _))))
theorem lb_short {n m : Nat} (h : (digs n).length ≤ m) (hm : m ≤ 17592186044416) : Lb (digs n) := Nat.le_trans h hm
theorem Sign_ev {n : Nat} (hl : (digs n).length ≤ 100000) (neg : Bool) (e : Int) : Ev (fun k => dyad_Sign k neg (digs n) e) (if n = 0 then 0 else if neg then -1 else 1) := by
  have ht := Trim_ev (WF.digs n) (lb_short hl (by omega))
  rw [val_digs] at ht
  refine Ev.congr (fun k => dyad_Sign_eq k _ _ _) (Ev.bind ht ?_)
  by_cases h : n = 0
  · rw [if_pos h, h, digs_zero]
    exact Ev.pos (bT rfl) (Ev.some _)
  · have := digs_len_pos.2 h
    rw [if_neg h]
    refine Ev.neg (bF (by omega)) ?_
    cases neg
    · exact Ev.neg (by simp) (Ev.some _)
    · exact Ev.pos rfl (Ev.some _)
theorem pow_len {n b : Nat} {m : Nat} (h : (digs n).length ≤ m) : (digs (n * 2 ^ b)).length ≤ m + b / 64 + 1 := by
  rw [digs_length_lt] at *
  have h1 : 2 ^ b ≤ 18446744073709551616 ^ (b / 64 + 1) := by
    rw [← two_64]
    exact Nat.pow_le_pow_right (by decide) (by omega)
  rw [Nat.add_assoc, Nat.pow_add]
  exact Nat.lt_of_lt_of_le (Nat.mul_lt_mul_of_pos_right h (Nat.two_pow_pos b)) (Nat.mul_le_mul_left _ h1)

theorem sum_len {x y m : Nat} (hx : (digs x).length ≤ m) (hy : (digs y).length ≤ m) : (digs (x + y)).length ≤ m + 1 := by
  rw [digs_length_lt] at *
  rw [pow_s]
  omega
/-- The sign of a sum, by the numbers at a common place. -/
def sg (neg : Bool) (x : Nat) : Int := if neg then -(x : Int) else (x : Int)
def sgn (x : Int) : Int := if x < 0 then -1 else if x = 0 then 0 else 1
theorem wrapS {x : Int} (h0 : -1000000000 ≤ x) (h1 : x ≤ 1000000000) : IntKind.i64.wrap x = x := wrapI (by omega) (by omega)

theorem odd_sign {n : Nat} (hn : n ≠ 0) (hl : (digs n).length ≤ 100000) (neg : Bool) {e : Int} (he : -1000000000 ≤ e ∧ e ≤ 1000000000) :
    ∃ (r : Nat) (f : Int), r ≠ 0 ∧ (digs r).length ≤ 100000 ∧ Ev (fun k => dyad_odd k neg (digs n) e) (neg, (digs r, f)) := by
  obtain ⟨t, m, h1, h2, h3⟩ := odd_ev (WF.digs n) (lb_short hl (by omega)) (by rw [val_digs]; exact hl) (by rw [val_digs]; exact hn) neg he
  rw [val_digs] at h1 h3
  refine ⟨n / 2 ^ t, e + t, ?_, Nat.le_trans (digs_len_mono (Nat.div_le_self _ _)) hl, h3⟩
  rw [h1, Nat.mul_div_cancel_left _ (Nat.two_pow_pos t)]
  omega
/-- A sum's sign, of numbers that are not zero. -/
theorem sum_ev {A B : Nat} {e f : Int} (hA : A ≠ 0) (hB : B ≠ 0) (la : (digs A).length ≤ 2000) (lb : (digs B).length ≤ 2000) (he : -200000 ≤ e ∧ e ≤ 200000) (hf : -200000 ≤ f ∧ f ≤ 200000) (a b : Bool) :
    ∃ (neg : Bool) (r : Nat) (g : Int), (digs r).length ≤ 100000 ∧ (if r = 0 then 0 else if neg then -1 else 1) = sgn (sg a (A * 2 ^ (e - min e f).toNat) + sg b (B * 2 ^ (f - min e f).toNat)) ∧ Ev (fun k => dyad_sum k a (digs A) e b (digs B) f) (neg, (digs r, g)) := by
  have pA := digs_len_pos.2 hA
  have pB := digs_len_pos.2 hB
  have hmn : mnI e f = min e f := by unfold mnI; split <;> omega
  obtain ⟨x, hx⟩ : ∃ x : Nat, e - min e f = (x : Int) := ⟨(e - min e f).toNat, by omega⟩
  obtain ⟨y, hy⟩ : ∃ y : Nat, f - min e f = (y : Int) := ⟨(f - min e f).toNat, by omega⟩
  have hx4 : x ≤ 400000 := by omega
  have hy4 : y ≤ 400000 := by omega
  have ral := raised_ev (N := A) (by_ := x) (by omega)
  have rbl := raised_ev (N := B) (by_ := y) (by omega)
  have hal : Ev (fun k => dyad_aligned k a (digs A) e b (digs B) f) (digs (A * 2 ^ x), (digs (B * 2 ^ y), min e f)) := by
    refine Ev.congr (fun k => dyad_aligned_eq k _ _ _ _ _ _) ?_
    rw [hmn, hx, hy, wrapS (by omega) (by omega), wrapS (by omega) (by omega)]
    exact Ev.bind ral (Ev.bind rbl (Ev.some _))
  have kA : (digs (A * 2 ^ x)).length ≤ 10000 := Nat.le_trans (pow_len la) (by omega)
  have kB : (digs (B * 2 ^ y)).length ≤ 10000 := Nat.le_trans (pow_len lb) (by omega)
  have nA : A * 2 ^ x ≠ 0 := by have := Nat.mul_pos (Nat.pos_of_ne_zero hA) (Nat.two_pow_pos x); omega
  have nB : B * 2 ^ y ≠ 0 := by have := Nat.mul_pos (Nat.pos_of_ne_zero hB) (Nat.two_pow_pos y); omega
  rw [hx, hy, Int.toNat_natCast, Int.toNat_natCast]
  have hmin : -1000000000 ≤ min e f ∧ min e f ≤ 1000000000 := by omega
  have start : ∀ (neg : Bool) (r : Nat) (g : Int), Ev (fun k => (if a == b then ((nat_Add k (digs (A * 2 ^ x)) (digs (B * 2 ^ y)))).bind fun o1 => ((dyad_odd k a o1 (min e f))).bind fun o2 => some (o2.1, (o2.2.1, o2.2.2)) else ((nat_Cmp k (digs (A * 2 ^ x)) (digs (B * 2 ^ y)))).bind fun o3 => (if decide (o3 < 0) then ((nat_Sub k (digs (B * 2 ^ y)) (digs (A * 2 ^ x)))).bind fun o4 => ((dyad_odd k b o4.1 (min e f))).bind fun o5 => some (o5.1, (o5.2.1, o5.2.2)) else ((nat_Sub k (digs (A * 2 ^ x)) (digs (B * 2 ^ y)))).bind fun o6 => ((dyad_odd k a o6.1 (min e f))).bind fun o7 => some (o7.1, (o7.2.1, o7.2.2))))) (neg, (digs r, g)) →
      Ev (fun k => dyad_sum k a (digs A) e b (digs B) f) (neg, (digs r, g)) := fun neg r g h =>
    Ev.congr (fun k => dyad_sum_eq k _ _ _ _ _ _) (Ev.neg (bF (by omega)) (Ev.neg (bF (by omega)) (Ev.bind hal h)))
  have hadd := Add_ev (WF.digs (A * 2 ^ x)) (WF.digs (B * 2 ^ y)) (lb_short kA (by omega)) (lb_short kB (by omega)) (by rw [val_digs]; omega) (by rw [val_digs]; omega)
  have hcmp := Cmp_ev (WF.digs (A * 2 ^ x)) (WF.digs (B * 2 ^ y)) (lb_short kA (by omega)) (lb_short kB (by omega))
  have hsab : B * 2 ^ y ≤ A * 2 ^ x → _ := fun h => Sub_ev (WF.digs (A * 2 ^ x)) (WF.digs (B * 2 ^ y)) (lb_short kA (by omega)) (lb_short kB (by omega)) (by rw [val_digs, val_digs]; exact h)
  have hsba : A * 2 ^ x ≤ B * 2 ^ y → _ := fun h => Sub_ev (WF.digs (B * 2 ^ y)) (WF.digs (A * 2 ^ x)) (lb_short kB (by omega)) (lb_short kA (by omega)) (by rw [val_digs, val_digs]; exact h)
  rw [val_digs, val_digs] at hadd hcmp
  simp only [val_digs] at hsab hsba
  generalize A * 2 ^ x = X at *
  generalize B * 2 ^ y = Y at *
  by_cases hab : a = b
  · subst hab
    have kS : (digs (X + Y)).length ≤ 100000 := Nat.le_trans (sum_len kA kB) (by omega)
    obtain ⟨r, g, h1, h2, h3⟩ := odd_sign (n := X + Y) (by omega) kS a hmin
    refine ⟨a, r, g, h2, ?_, start _ _ _ (Ev.pos (by simp) (Ev.bind hadd (Ev.bind h3 (Ev.some _))))⟩
    rw [if_neg h1]
    cases a <;> simp [sg, sgn] <;> omega
  · have hne : ¬ ((a == b) = true) := by simpa using hab
    have hb : b = !a := by cases a <;> cases b <;> simp_all
    rcases Nat.lt_trichotomy X Y with h | h | h
    · obtain ⟨r, g, h1, h2, h3⟩ := odd_sign (n := Y - X) (by omega) (Nat.le_trans (digs_len_mono (Nat.sub_le _ _)) (by omega)) b hmin
      refine ⟨b, r, g, h2, ?_, start _ _ _ (Ev.neg hne (Ev.bind hcmp (Ev.pos (dT (by rw [cmpN, if_pos h]; omega)) (Ev.bind (hsba (by omega)) (Ev.bind h3 (Ev.some _))))))⟩
      rw [if_neg h1, hb]
      cases a <;> simp [sg, sgn] <;> omega
    · subst h
      refine ⟨false, 0, 0, by rw [digs_zero]; simp, ?_, start _ _ _ (Ev.neg hne (Ev.bind hcmp (Ev.neg (dF (by rw [cmpN, if_neg (by omega), if_neg (by omega)]; omega)) (Ev.bind (hsab (by omega)) ?_))))⟩
      · rw [if_pos rfl, hb]
        cases a <;> simp [sg, sgn] <;> omega
      · rw [Nat.sub_self, digs_zero]
        exact Ev.bind (odd_zero WF.nil (by unfold Lb; simp) rfl a _) (Ev.some _)
    · obtain ⟨r, g, h1, h2, h3⟩ := odd_sign (n := X - Y) (by omega) (Nat.le_trans (digs_len_mono (Nat.sub_le _ _)) (by omega)) a hmin
      refine ⟨a, r, g, h2, ?_, start _ _ _ (Ev.neg hne (Ev.bind hcmp (Ev.neg (dF (by rw [cmpN, if_neg (by omega), if_pos h]; omega)) (Ev.bind (hsab (by omega)) (Ev.bind h3 (Ev.some _))))))⟩
      rw [if_neg h1, hb]
      cases a <;> simp [sg, sgn] <;> omega
/-! ### Cmp -/
/-- An odd number's value at a place is what it was. -/
theorem odd_place {n t m : Nat} (h : n = 2 ^ t * (2 * m + 1)) (d : Nat) : n / 2 ^ t * 2 ^ (t + d) = n * 2 ^ d := by
  rw [h, Nat.mul_div_cancel_left _ (Nat.two_pow_pos t), Nat.pow_add]; grind
theorem sgn_scale (x y : Nat) (p : Nat) (a b : Bool) : sgn (sg a (x * 2 ^ p) + sg b (y * 2 ^ p)) = sgn (sg a x + sg b y) := by
  have hp : 0 < 2 ^ p := Nat.two_pow_pos p
  have hp' : (0 : Int) < ((2 ^ p : Nat) : Int) := by omega
  have e : sg a (x * 2 ^ p) + sg b (y * 2 ^ p) = (sg a x + sg b y) * ((2 ^ p : Nat) : Int) := by
    cases a <;> cases b <;> simp only [sg, if_true, Bool.false_eq_true, if_false, Int.natCast_mul] <;> grind
  rw [e]
  generalize sg a x + sg b y = z
  generalize ((2 ^ p : Nat) : Int) = q at *
  unfold sgn
  by_cases h1 : z < 0
  · rw [if_pos h1, if_pos (Int.mul_neg_of_neg_of_pos h1 hp')]
  · rw [if_neg h1]
    by_cases h2 : z = 0
    · rw [if_pos h2, h2]; simp
    · rw [if_neg h2]
      have := Int.mul_pos (show 0 < z by omega) hp'
      rw [if_neg (by omega), if_neg (by omega)]
/-! ### Neg -/
theorem DNeg_ev {n : Nat} {e : Int} (h : Sm n e) (h39 : e ≤ 39000 - 64 * 1) (hl : (digs n).length ≤ 10) (hn : n ≠ 0) (neg : Bool) : ∃ (t m : Nat), n = 2 ^ t * (2 * m + 1) ∧ t ≤ 640 ∧ Ev (fun k => dyad_Neg k neg (digs n) e) (!neg, (digs (n / 2 ^ t), (e + (t : Int), (0 : Int)))) := by
  have h1 := h.len; have h2 := h.e0; have h3 := h.e1
  obtain ⟨t, m, k1, k2, k3⟩ := odd_ev (WF.digs n) (lb_short h1 (by omega)) (by rw [val_digs]; omega) (by rw [val_digs]; exact hn) (!neg) (e := e) (by omega)
  rw [val_digs] at k1 k2 k3
  have hrl : (digs (n / 2 ^ t)).length ≤ 1000 := Nat.le_trans (digs_len_mono (Nat.div_le_self _ _)) h1
  refine ⟨t, m, k1, by omega, Ev.congr (fun k => dyad_Neg_eq k _ _ _) (Ev.bind (refuses_ev h neg) (Ev.neg (nF rfl) (Ev.bind (Ev.congr (fun k => dyad_answer_eq k _ _ _) (Ev.bind k3 (Ev.neg (dF ?_) (Ev.neg (dF ?_) (Ev.neg (dF ?_) (Ev.some _)))))) (Ev.some _))))⟩
  · show ¬ (((digs (n / 2 ^ t)).length : Int) > 1024); omega
  · show ¬ (e + (t : Int) < -40000); omega
  · show ¬ (e + (t : Int) > 40000); omega
end Go.Proofs.YtmoeaeflljpboaaDoor.X
