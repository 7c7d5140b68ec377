/- Plain law: what Jam and Root of naturals answer, by the numbers that the lists are. Conditions: the words are words, the lists are not longer than memory. -/
import Derived.Test.YtmoeaeflljpboaaDoorNatLen
import Derived.Test.YtmoeaeflljpboaaDoorNatTz
namespace Go.Proofs.YtmoeaeflljpboaaDoor.X
open Go Go.Rex
set_option linter.unusedVariables false

/-! ### divides, Jam -/
theorem two_dvd_odd {n t m : Nat} : 2 ^ t * (2 * m + 1) % 2 ^ n = 0 ↔ n ≤ t := by
  constructor
  · intro h
    rcases Nat.lt_or_ge t n with h' | h'
    · exfalso
      obtain ⟨d, hd⟩ : ∃ d, n = t + (d + 1) := ⟨n - t - 1, by omega⟩
      rw [hd, Nat.pow_add, Nat.mul_mod_mul_left] at h
      have h2 : (2 * m + 1) % 2 ^ (d + 1) = 0 := by
        rcases Nat.mul_eq_zero.1 h with h | h
        · have := Nat.two_pow_pos t; omega
        · exact h
      have h3 : (2 * m + 1) % 2 = 0 := by
        have := Nat.mod_mod_of_dvd (2 * m + 1) (show 2 ∣ 2 ^ (d + 1) from ⟨2 ^ d, by rw [Nat.pow_succ, Nat.mul_comm]⟩)
        rw [h2] at this; omega
      omega
    · exact h'
  · intro h
    obtain ⟨d, rfl⟩ : ∃ d, t = n + d := ⟨t - n, by omega⟩
    rw [Nat.pow_add, Nat.mul_assoc, Nat.mul_mod_right]
theorem divides_l0 {v : Nat} (hl : Lb (digs v)) {n : Nat} (hn : n < 9223372036854775808) (m : Nat) : ∀ j : Nat, j + m = (digs v).length → val ((digs v).take j) = 0 → Ev2 (fun k l => nat_divides.l0 k l (n : Int) (digs v) ((digs v).length : Int) (j : Int)) (decide (v % 2 ^ n = 0)) := by
  unfold Lb at hl
  induction m with
  | zero =>
    intro j hj hz
    refine Ev2.step (fun k l => nat_divides.l0_eq k l _ _ _ _) (Ev2.neg (dF (by omega)) (Ev2.eq (Ev2.some _) ?_))
    rw [List.take_of_length_le (by omega), val_digs] at hz
    subst hz; simp
  | succ m ih =>
    intro j hj hz
    refine Ev2.step (fun k l => nat_divides.l0_eq k l _ _ _ _) ?_
    rw [Int.toNat_natCast, succ_i j (by omega)]
    refine Ev2.pos (dT (by omega)) (Ev2.pos ⟨by omega, by omega⟩ ?_)
    have rj := (WF.digs v).getD j
    obtain ⟨x, ex⟩ := Int.eq_ofNat_of_zero_le rj.1
    rw [ex] at rj ⊢
    by_cases hx : x = 0
    · refine Ev2.neg (nF (by omega)) (ih (j + 1) (by omega) ?_)
      rw [take_succ_val (digs v) (by omega), hz, ex, hx]; rfl
    · obtain ⟨z, q, hq, hz64, hev⟩ := tz_ev (n := x) hx (by omega)
      refine Ev2.pos (nT (by omega)) (Ev2.call (Ev.of hev) (Ev2.eq (Ev2.some _) ?_))
      have h1 := val_take_drop (digs v) j
      rw [val_digs, hz, drop_val (digs v) (by omega), ex, Int.toNat_natCast, Nat.zero_add] at h1
      have hw := w_eq z hz64
      obtain ⟨c, hc⟩ : ∃ c, 64 - z = c + 1 := ⟨63 - z, by omega⟩
      have hodd : v = 2 ^ (64 * j + z) * (2 * (q + 2 ^ c * val ((digs v).drop (j + 1))) + 1) := by
        rw [hc, Nat.pow_succ] at hw
        generalize val ((digs v).drop (j + 1)) = D at *
        rw [h1, hq, Nat.pow_add, two_64, ← hw]; grind
      have h2 : v % 2 ^ n = 0 ↔ n ≤ 64 * j + z := by rw [hodd]; exact two_dvd_odd
      clear hodd h1
      rw [wrapI (x := 64 * (j : Int)) (by omega) (by omega), wrapI (by omega) (by omega)]
      by_cases c1 : n ≤ 64 * j + z
      · rw [decide_eq_true (show (64 * (j : Int) + (z : Int)) ≥ (n : Int) by omega), decide_eq_true (h2.2 c1)]
      · rw [decide_eq_false (show ¬ ((64 * (j : Int) + (z : Int)) ≥ (n : Int)) by omega), decide_eq_false (fun h => c1 (h2.1 h))]
theorem divides_ev {a : List Int} (ha : WF a) (la : Lb a) {n : Nat} (hn : n < 9223372036854775808) : Ev (fun k => nat_divides k a (n : Int)) (decide (val a % 2 ^ n = 0)) := by
  refine Ev.congr (fun k => nat_divides_eq k a _) (Ev.bind (trim_ev ha la) ?_)
  exact (divides_l0 (la.ofv ha) hn (digs (val a)).length 0 (by omega) (by simp [val])).ev
/-- Shifted down, with a bit for what is lost. -/
def jamN (v n : Nat) : Nat := if v % 2 ^ n = 0 then v / 2 ^ n else v / 2 ^ n / 2 * 2 + 1
theorem digs_word {v : Nat} (h0 : v ≠ 0) (h : v < 18446744073709551616) : digs v = [(v : Int)] := by
  rw [digs_pos h0, Nat.mod_eq_of_lt h, Nat.div_eq_of_lt h, digs_zero]
theorem or_one (x : Nat) (h : x < 18446744073709551616) : orK .u64 (x : Int) 1 = ((x / 2 * 2 + 1 : Nat) : Int) := by
  have := orK_nat x 1 h (by decide)
  rw [show ((1 : Nat) : Int) = 1 from rfl] at this
  rw [this]
  congr 1
  have e : x = x / 2 * 2 + x % 2 := by omega
  rcases (show x % 2 = 0 ∨ x % 2 = 1 by omega) with h' | h'
  · rw [or_disj x 1 1 (by decide) (by omega)]; omega
  · have h1 : x ||| 1 = (x / 2 * 2 ||| 1) ||| 1 := by
      rw [or_disj (x / 2 * 2) 1 1 (by decide) (by omega)]
      congr 1; omega
    rw [h1, Nat.or_assoc, show 1 ||| 1 = 1 from rfl, or_disj (x / 2 * 2) 1 1 (by decide) (by omega)]
theorem set_or {v : Nat} (h0 : v ≠ 0) : (digs v).set 0 (orK .u64 ((digs v).getD 0 0) 1) = digs (v / 2 * 2 + 1) := by
  rw [digs_pos h0, digs_pos (show v / 2 * 2 + 1 ≠ 0 by omega)]
  have hm := Nat.mod_lt v (show 0 < 18446744073709551616 by decide)
  simp only [List.set_cons_zero, List.getD_eq_getElem?_getD, List.getElem?_cons_zero, Option.getD_some]
  rw [or_one _ hm]
  congr 1
  · congr 1; omega
  · congr 1; omega
theorem Jam_ev {a : List Int} (ha : WF a) (la : Lb a) {n : Nat} (hn : n < 9223372036854775808) : Ev (fun k => nat_Jam k a (n : Int)) (digs (jamN (val a) n), (0 : Int)) := by
  refine Ev.congr (fun k => nat_Jam_eq k a _) (Ev.neg (dF (by omega)) (Ev.bind (right_ev ha la n hn) (Ev.bind (divides_ev ha la hn) ?_)))
  unfold jamN
  by_cases c : val a % 2 ^ n = 0
  · rw [decide_eq_true c, if_pos c]
    exact Ev.neg (by simp) (Ev.some _)
  · rw [decide_eq_false c, if_neg c]
    refine Ev.pos rfl ?_
    generalize val a / 2 ^ n = v
    by_cases h0 : v = 0
    · subst h0
      rw [digs_zero]
      exact Ev.pos (bT rfl) (Ev.eq (Ev.some _) (by rw [digs_word (by omega) (by omega)]; rfl))
    · have := digs_len_pos.2 h0
      refine Ev.neg (bF (by omega)) (Ev.pos ⟨by omega, by omega⟩ (Ev.pos ⟨by omega, by omega⟩ (Ev.eq (Ev.some _) ?_)))
      rw [set_or h0]
theorem Jam_range {a : List Int} {n : Int} (h : n < 0) : Ev (fun k => nat_Jam k a n) (([] : List Int), (7 : Int)) :=
  Ev.congr (fun k => nat_Jam_eq k a _) (Ev.pos (dT h) (Ev.some _))
end Go.Proofs.YtmoeaeflljpboaaDoor.X
