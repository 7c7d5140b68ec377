/- Plain law: layer 3's odd and raised. Conditions: the words are words, the lists are not longer than memory. -/
import Derived.Test.YtmoeaeflljpboaaDoorNatTz
import Derived.Test.YtmoeaeflljpboaaDoorDyRaise
namespace Go.Proofs.YtmoeaeflljpboaaDoor.X
open Go Go.Rex
set_option linter.unusedVariables false

/-! ### raised -/
theorem raised_l0 {a : List Int} (ha : WF a) {w s : Nat} (hs : s < 64) (hl : w + a.length + 1 ≤ 17592186044416) (n : Nat) : ∀ (i : Nat) (p : List Int), i + n = a.length → WF p → p.length = w + a.length + 1 → (∀ j, w + i + 1 ≤ j → p.getD j 0 = 0) → (p.getD (w + i) 0).toNat < 2 ^ s → val p = 18446744073709551616 ^ w * (val (a.take i) * 2 ^ s) →
    Ev2 (fun k m => dyad_raised.l0 k m (w : Int) (s : Int) a (a.length : Int) (i : Int) p) (digs (18446744073709551616 ^ w * (val a * 2 ^ s))) := by
  induction n with
  | zero =>
    intro i p hi hp hpl hz hc hv
    refine Ev2.step (fun k m => dyad_raised.l0_eq k m _ _ _ _ _ _) (Ev2.neg (dF (by omega)) (Ev2.call (Ev.eq (Trim_ev hp (by unfold Lb; omega)) ?_) (Ev2.some _)))
    rw [hv, List.take_of_length_le (by omega)]
  | succ n ih =>
    intro i p hi hp hpl hz hc hv
    refine Ev2.step (fun k m => dyad_raised.l0_eq k m _ _ _ _ _ _) ?_
    have ra := ha.getD i
    obtain ⟨x, ex⟩ := Int.eq_ofNat_of_zero_le ra.1
    have rp := hp.getD (w + i)
    obtain ⟨c, ec⟩ := Int.eq_ofNat_of_zero_le rp.1
    have e1 := take_succ_val' a i
    rw [ex, Int.toNat_natCast] at e1
    rw [ec, Int.toNat_natCast] at hc
    have e64 : IntKind.u64.wrap (64 - (s : Int)) = ((64 - s : Nat) : Int) := by rw [wrap_u64]; omega
    have hxW : x < 18446744073709551616 := by omega
    rw [add_i w i (by omega), succ_i (w + i) (by omega), succ_i i (by omega), Int.toNat_natCast, Int.toNat_natCast, Int.toNat_natCast, ex, ec, e64]
    obtain ⟨lo, hi', h1, h2, h3, h4, h5, h6⟩ := shl_word (x := x) (s := s) hxW hs
    rw [shlK_nat x s (by omega), h1, shrK_nat x (64 - s) (by omega), h2]
    have hsum : lo + c < 18446744073709551616 := or_room hs hc h5 h6
    have hhi : hi' < 18446744073709551616 := Nat.lt_trans h4 (Nat.pow_lt_pow_right (m := s) (n := 64) (by decide) hs)
    have hcc : c < 18446744073709551616 := by omega
    rw [orK_add' c lo s hc h6 (by omega)]
    clear h6
    have l1 : w + i < p.length := by omega
    have l2 : w + i + 1 < (p.set (w + i) ((c + lo : Nat) : Int)).length := by rw [List.length_set]; omega
    refine Ev2.pos (dT (by omega)) (Ev2.pos ⟨by omega, by omega⟩ (Ev2.pos ⟨by omega, by omega⟩ (Ev2.pos (by omega) (Ev2.pos ⟨by omega, by omega⟩ ?_))))
    by_cases cs : 0 < s
    · refine Ev2.pos (dT (by omega)) (Ev2.pos (by omega) (Ev2.pos ⟨by omega, by omega⟩ ?_))
      have q1 : WF ((p.set (w + i) ((c + lo : Nat) : Int)).set (w + i + 1) (hi' : Int)) := (hp.set _ (by omega) (by omega)).set _ (by omega) (by omega)
      have q2 : ((p.set (w + i) ((c + lo : Nat) : Int)).set (w + i + 1) (hi' : Int)).length = w + a.length + 1 := by rw [List.length_set, List.length_set, hpl]
      have q3 : ∀ j, w + (i + 1) + 1 ≤ j → ((p.set (w + i) ((c + lo : Nat) : Int)).set (w + i + 1) (hi' : Int)).getD j 0 = 0 := fun j hj => by
        rw [Rex.getD_set_ne _ (by omega), Rex.getD_set_ne _ (by omega)]; exact hz j (by omega)
      have q4 : (((p.set (w + i) ((c + lo : Nat) : Int)).set (w + i + 1) (hi' : Int)).getD (w + (i + 1)) 0).toNat < 2 ^ s := by
        rw [show w + (i + 1) = w + i + 1 by omega, Rex.getD_set_self _ l2, Int.toNat_natCast]; exact h4
      have n1 : w + i ≠ w + i + 1 := by omega
      have z1 : (p.set (w + i) ((c + lo : Nat) : Int)).getD (w + i + 1) 0 = 0 := by rw [Rex.getD_set_ne p n1]; exact hz _ (by omega)
      refine ih (i + 1) _ (by omega) q1 q2 q3 q4 ?_
      exact left_set l1 l2 ec z1 hv e1 h3
    · refine Ev2.neg (dF (by omega)) ?_
      have hs0 : s = 0 := by omega
      subst hs0
      have q1 : WF (p.set (w + i) ((c + lo : Nat) : Int)) := hp.set _ (by omega) (by omega)
      have q2 : (p.set (w + i) ((c + lo : Nat) : Int)).length = w + a.length + 1 := by rw [List.length_set, hpl]
      have q3 : ∀ j, w + (i + 1) + 1 ≤ j → (p.set (w + i) ((c + lo : Nat) : Int)).getD j 0 = 0 := fun j hj => by
        rw [Rex.getD_set_ne _ (by omega)]; exact hz j (by omega)
      have q4 : ((p.set (w + i) ((c + lo : Nat) : Int)).getD (w + (i + 1)) 0).toNat < 2 ^ 0 := by
        rw [show w + (i + 1) = w + i + 1 by omega, Rex.getD_set_ne p (by omega), hz _ (by omega)]; decide
      refine ih (i + 1) _ (by omega) q1 q2 q3 q4 ?_
      exact left_set0 l1 ec hv e1 (by rw [Nat.pow_zero, Nat.mul_one] at h1; omega)
theorem raised_ev {N by_ : Nat} (hl : by_ / 64 + (digs N).length + 1 ≤ 17592186044416) : Ev (fun k => dyad_raised k (digs N) (by_ : Int)) (digs (N * 2 ^ by_)) := by
  refine Ev.congr (fun k => dyad_raised_eq k _ _) ?_
  by_cases h0 : N = 0
  · rw [h0, digs_zero]
    exact Ev.pos (bT rfl) (Ev.eq (Ev.some _) (by rw [Nat.zero_mul, digs_zero]))
  · have hlen := digs_len_pos.2 h0
    refine Ev.neg (bF (by omega)) ?_
    rw [show (64 : Int) = ((64 : Nat) : Int) from rfl, tdiv_nat, tmod_nat, wrapI (x := ((by_ / 64 : Nat) : Int)) (by omega) (by omega), wrapUn (n := by_ % 64) (by omega), add_i _ _ (by omega), succ_i _ (by omega), Int.toNat_natCast]
    refine Ev.pos ⟨by omega, by omega⟩ ?_
    have hrep : ∀ j, (List.replicate (by_ / 64 + (digs N).length + 1) (0 : Int)).getD j 0 = 0 := fun j => by
      simp [List.getD_eq_getElem?_getD, List.getElem?_replicate]; split <;> rfl
    have := (raised_l0 (WF.digs N) (w := by_ / 64) (s := by_ % 64) (Nat.mod_lt _ (by decide)) hl (digs N).length 0 (List.replicate (by_ / 64 + (digs N).length + 1) 0) (by omega) (WF.replicate _) (by simp) (fun j _ => hrep j) (by rw [hrep]; exact Nat.two_pow_pos _) (by rw [val_replicate]; simp [val])).ev
    refine Ev.eq this ?_
    rw [val_digs]
    congr 1
    have : 2 ^ by_ = 18446744073709551616 ^ (by_ / 64) * 2 ^ (by_ % 64) := by
      rw [← two_64, ← Nat.pow_add]; congr 1; omega
    rw [this]; grind

/-! ### odd -/
theorem odd_l0 {v : Nat} (hv : v ≠ 0) (hl : (digs v).length ≤ 100000) (neg : Bool) (N : List Int) {e : Int} (he : -1000000000 ≤ e ∧ e ≤ 1000000000) (n : Nat) : ∀ j : Nat, j + n + 1 = (digs v).length → (∀ i, i < j → (digs v).getD i 0 = 0) →
    ∃ t m : Nat, v = 2 ^ t * (2 * m + 1) ∧ t ≤ 64 * (digs v).length ∧ Ev2 (fun k l => dyad_odd.l0 k l ((64 * j : Nat) : Int) neg N e false 0 (digs v)) (neg, (digs (v / 2 ^ t), e + (t : Int))) := by
  have lbv : Lb (digs v) := by unfold Lb; omega
  -- a word that is not zero
  have hit : ∀ j : Nat, j < (digs v).length → (∀ i, i < j → (digs v).getD i 0 = 0) → (digs v).getD j 0 ≠ 0 →
      ∃ t m : Nat, v = 2 ^ t * (2 * m + 1) ∧ t ≤ 64 * (digs v).length ∧ Ev2 (fun k l => dyad_odd.l0 k l ((64 * j : Nat) : Int) neg N e false 0 (digs v)) (neg, (digs (v / 2 ^ t), e + (t : Int))) := by
    intro j hj hlow hne
    have rj := (WF.digs v).getD j
    obtain ⟨x, ex⟩ := Int.eq_ofNat_of_zero_le rj.1
    obtain ⟨z, m, hm, hz, hev⟩ := tz_ev (n := x) (by omega) (by omega)
    have low0 : ∀ i, i ≤ j → val ((digs v).take i) = 0 := by
      intro i
      induction i with
      | zero => intro _; simp [val]
      | succ i ihi => intro hi; rw [take_succ_val', ihi (by omega), hlow i (by omega)]; rfl
    have hval : v = 18446744073709551616 ^ j * (x + 18446744073709551616 * val ((digs v).drop (j + 1))) := by
      have h1 := val_take_drop (digs v) j
      rw [val_digs, low0 j (Nat.le_refl _), drop_val (digs v) hj, ex, Int.toNat_natCast] at h1
      omega
    have hw := w_eq z hz
    obtain ⟨q, hq⟩ : ∃ q, 64 - z = q + 1 := ⟨63 - z, by omega⟩
    have hodd : v = 2 ^ (64 * j + z) * (2 * (m + 2 ^ q * val ((digs v).drop (j + 1))) + 1) := by
      rw [hq, Nat.pow_succ] at hw
      generalize val ((digs v).drop (j + 1)) = D at *
      rw [hval, hm, Nat.pow_add, two_64, ← hw]; grind
    refine ⟨64 * j + z, _, hodd, by omega, ?_⟩
    refine Ev2.step (fun k l => dyad_odd.l0_eq k l _ _ _ _ _ _ _) ?_
    have hd : IntKind.i64.wrap ((((64 * j : Nat) : Int)).tdiv 64) = (j : Int) := by
      rw [show (64 : Int) = ((64 : Nat) : Int) from rfl, tdiv_nat, Nat.mul_div_cancel_left _ (by decide), wrapI (by omega) (by omega)]
    rw [hd, Int.toNat_natCast, ex]
    refine Ev2.pos ⟨by omega, by omega⟩ (Ev2.neg (bF (by omega)) (Ev2.pos ⟨by omega, by omega⟩ (Ev2.call (Ev.of hev) ?_)))
    rw [add_i (64 * j) z (by omega)]
    have hs := Shr_ev (WF.digs v) lbv (64 * j + z) (by omega)
    rw [val_digs] at hs
    refine Ev2.call hs (Ev2.eq (Ev2.some _) ?_)
    rw [wrapI (by omega) (by omega)]
  induction n with
  | zero =>
    intro j hj hlow
    refine hit j (by omega) hlow ?_
    have hn := Neat.digs v (by rw [Ne, digs_nil]; exact hv)
    rwa [show (digs v).length - 1 = j by omega] at hn
  | succ n ih =>
    intro j hj hlow
    by_cases c : (digs v).getD j 0 = 0
    · obtain ⟨t, m, h1, h2, h3⟩ := ih (j + 1) (by omega) (fun i hi => by
        rcases Nat.lt_or_ge i j with h | h
        · exact hlow i h
        · rw [show i = j by omega]; exact c)
      refine ⟨t, m, h1, h2, Ev2.step (fun k l => dyad_odd.l0_eq k l _ _ _ _ _ _ _) ?_⟩
      have hd : IntKind.i64.wrap ((((64 * j : Nat) : Int)).tdiv 64) = (j : Int) := by
        rw [show (64 : Int) = ((64 : Nat) : Int) from rfl, tdiv_nat, Nat.mul_div_cancel_left _ (by decide), wrapI (by omega) (by omega)]
      have h64 : IntKind.i64.wrap (((64 * j : Nat) : Int) + 64) = ((64 * (j + 1) : Nat) : Int) := by rw [wrapI (by omega) (by omega)]; omega
      rw [hd, Int.toNat_natCast, c, h64]
      exact Ev2.pos ⟨by omega, by omega⟩ (Ev2.pos (bT rfl) h3)
    · exact hit j (by omega) hlow c
/-- The same value with an odd natural. -/
theorem odd_ev {a : List Int} (ha : WF a) (la : Lb a) (hl : (digs (val a)).length ≤ 100000) (hv : val a ≠ 0) (neg : Bool) {e : Int} (he : -1000000000 ≤ e ∧ e ≤ 1000000000) :
    ∃ t m : Nat, val a = 2 ^ t * (2 * m + 1) ∧ t ≤ 64 * (digs (val a)).length ∧ Ev (fun k => dyad_odd k neg a e) (neg, (digs (val a / 2 ^ t), e + (t : Int))) := by
  have hp := digs_len_pos.2 hv
  obtain ⟨t, m, h1, h2, h3⟩ := odd_l0 hv hl neg a he ((digs (val a)).length - 1) 0 (by omega) (fun i hi => by omega)
  exact ⟨t, m, h1, h2, Ev.congr (fun k => dyad_odd_eq k _ _ _) (Ev.bind (Trim_ev ha la) (Ev.neg (bF (by omega)) h3.ev))⟩
theorem odd_zero {a : List Int} (ha : WF a) (la : Lb a) (hv : val a = 0) (neg : Bool) (e : Int) : Ev (fun k => dyad_odd k neg a e) (false, (([] : List Int), (0 : Int))) := by
  refine Ev.congr (fun k => dyad_odd_eq k _ _ _) (Ev.bind (Trim_ev ha la) ?_)
  rw [hv, digs_zero]
  exact Ev.pos (bT rfl) (Ev.some _)
end Go.Proofs.YtmoeaeflljpboaaDoor.X
