/- Plain law: layer 3's odd and raised. Conditions: the words are words, the lists are not longer than memory. -/
import Derived.Test.YtbaaggmicpigeaaGreatDoorNatTz
import Derived.Test.YtbaaggmicpigeaaGreatDoorDyRaise
namespace Go.Proofs.YtbaaggmicpigeaaGreatDoor.X
open Go Go.Rex
set_option linter.unusedVariables false

/-! ### raised -/
/-! ### odd -/
theorem odd_l0 {v : Nat} (hv : v ≠ 0) (hl : (digs v).length ≤ 100000) (neg : Bool) (N : List Int) {e : Int} (he : -1000000000 ≤ e ∧ e ≤ 1000000000) (n : Nat) : ∀ j : Nat, j + n + 1 = (digs v).length → (∀ i, i < j → (digs v).getD i 0 = 0) →
    ∃ t m : Nat, v = 2 ^ t * (2 * m + 1) ∧ t ≤ 64 * (digs v).length ∧ Ev2 (fun k l => dyad_odd.l0 k l ((64 * j : Nat) : Int) neg N e false 0 (digs v)) (neg, (digs (v / 2 ^ t), e + (t : Int))) := by
  have lbv : Lb (digs v) := by unfold Lb; omega
  -- a word that is not zero
  have hit : ∀ j : Nat, j < (digs v).length → (∀ i, i < j → (digs v).getD i 0 = 0) → (digs v).getD j 0 ≠ 0 →
      ∃ t m : Nat, v = 2 ^ t * (2 * m + 1) ∧ t ≤ 64 * (digs v).length ∧ Ev2 (fun k l => dyad_odd.l0 k l ((64 * j : Nat) : Int) neg N e false 0 (digs v)) (neg, (digs (v / 2 ^ t), e + (t : Int))) := by
    intro j hj hlow hne
    have rj := (WF.digs v).getD j
    obtain ⟨x, ex⟩ := Int.eq_ofNat_of_zero_le rj.1
    obtain ⟨z, m, hm, hz, hev⟩ := tz_ev (n := x) (by omega) (by omega)
    have low0 : ∀ i, i ≤ j → val ((digs v).take i) = 0 := by
      intro i
      induction i with
      | zero => intro _; simp [val]
      | succ i ihi => intro hi; rw [take_succ_val', ihi (by omega), hlow i (by omega)]; rfl
    have hval : v = 18446744073709551616 ^ j * (x + 18446744073709551616 * val ((digs v).drop (j + 1))) := by
      have h1 := val_take_drop (digs v) j
      rw [val_digs, low0 j (Nat.le_refl _), drop_val (digs v) hj, ex, Int.toNat_natCast] at h1
      omega
    have hw := w_eq z hz
    obtain ⟨q, hq⟩ : ∃ q, 64 - z = q + 1 := ⟨63 - z, by omega⟩
    have hodd : v = 2 ^ (64 * j + z) * (2 * (m + 2 ^ q * val ((digs v).drop (j + 1))) + 1) := by
      rw [hq, Nat.pow_succ] at hw
      generalize val ((digs v).drop (j + 1)) = D at *
      rw [hval, hm, Nat.pow_add, two_64, ← hw]; grind
    refine ⟨64 * j + z, _, hodd, by omega, ?_⟩
    refine Ev2.step (fun k l => dyad_odd.l0_eq k l _ _ _ _ _ _ _) ?_
    have hd : IntKind.i64.wrap ((((64 * j : Nat) : Int)).tdiv 64) = (j : Int) := by
      rw [show (64 : Int) = ((64 : Nat) : Int) from rfl, tdiv_nat, Nat.mul_div_cancel_left _ (by decide), wrapI (by omega) (by omega)]
    rw [hd, Int.toNat_natCast, ex]
    refine Ev2.pos ⟨by omega, by omega⟩ (Ev2.neg (bF (by omega)) (Ev2.pos ⟨by omega, by omega⟩ (Ev2.call (Ev.of hev) ?_)))
    rw [add_i (64 * j) z (by omega)]
    have hs := Shr_ev (WF.digs v) lbv (64 * j + z) (by omega)
    rw [val_digs] at hs
    refine Ev2.call hs (Ev2.eq (Ev2.some _) ?_)
    rw [wrapI (by omega) (by omega)]
  induction n with
  | zero =>
    intro j hj hlow
    refine hit j (by omega) hlow ?_
    have hn := Neat.digs v (by rw [Ne, digs_nil]; exact hv)
    rwa [show (digs v).length - 1 = j by omega] at hn
  | succ n ih =>
    intro j hj hlow
    by_cases c : (digs v).getD j 0 = 0
    · obtain ⟨t, m, h1, h2, h3⟩ := ih (j + 1) (by omega) (fun i hi => by
        rcases Nat.lt_or_ge i j with h | h
        · exact hlow i h
        · rw [show i = j by omega]; exact c)
      refine ⟨t, m, h1, h2, Ev2.step (fun k l => dyad_odd.l0_eq k l _ _ _ _ _ _ _) ?_⟩
      have hd : IntKind.i64.wrap ((((64 * j : Nat) : Int)).tdiv 64) = (j : Int) := by
        rw [show (64 : Int) = ((64 : Nat) : Int) from rfl, tdiv_nat, Nat.mul_div_cancel_left _ (by decide), wrapI (by omega) (by omega)]
      have h64 : IntKind.i64.wrap (((64 * j : Nat) : Int) + 64) = ((64 * (j + 1) : Nat) : Int) := by rw [wrapI (by omega) (by omega)]; omega
      rw [hd, Int.toNat_natCast, c, h64]
      exact Ev2.pos ⟨by omega, by omega⟩ (Ev2.pos (bT rfl) h3)
    · exact hit j (by omega) hlow c
/-- The same value with an odd natural. -/
theorem odd_ev {a : List Int} (ha : WF a) (la : Lb a) (hl : (digs (val a)).length ≤ 100000) (hv : val a ≠ 0) (neg : Bool) {e : Int} (he : -1000000000 ≤ e ∧ e ≤ 1000000000) :
    ∃ t m : Nat, val a = 2 ^ t * (2 * m + 1) ∧ t ≤ 64 * (digs (val a)).length ∧ Ev (fun k => dyad_odd k neg a e) (neg, (digs (val a / 2 ^ t), e + (t : Int))) := by
  have hp := digs_len_pos.2 hv
  obtain ⟨t, m, h1, h2, h3⟩ := odd_l0 hv hl neg a he ((digs (val a)).length - 1) 0 (by omega) (fun i hi => by omega)
  exact ⟨t, m, h1, h2, Ev.congr (fun k => dyad_odd_eq k _ _ _) (Ev.bind (Trim_ev ha la) (Ev.neg (bF (by omega)) h3.ev))⟩
theorem odd_zero {a : List Int} (ha : WF a) (la : Lb a) (hv : val a = 0) (neg : Bool) (e : Int) : Ev (fun k => dyad_odd k neg a e) (false, (([] : List Int), (0 : Int))) := by
  refine Ev.congr (fun k => dyad_odd_eq k _ _ _) (Ev.bind (Trim_ev ha la) ?_)
  rw [hv, digs_zero]
  exact Ev.pos (bT rfl) (Ev.some _)
end Go.Proofs.YtbaaggmicpigeaaGreatDoor.X
