/- Plain law: the reference's division, bit by bit: quotient and remainder. Conditions: the words are words, the lists are not longer than memory. -/
import Derived.Test.YtbaaggmicpigeaaGreatDoorRfA
namespace Go.Proofs.YtbaaggmicpigeaaGreatDoor.X
open Go Go.Rex
set_option linter.unusedVariables false

/-- A bit is set in a word whose lower bits are nothing. -/
theorem set_bit {q : List Int} (hq : WF q) {i X : Nat} (hi : i / 64 < q.length) (hv : val q = X * 2 ^ (i + 1)) :
    ∃ z : Nat, z < 18446744073709551616 ∧ orK .u64 (q.getD (i / 64) 0) (shlK .u64 1 ((i % 64 : Nat) : Int)) = (z : Int) ∧ val (q.set (i / 64) (z : Int)) = val q + 2 ^ i := by
  obtain ⟨x, hx, ex⟩ := word_nat hq (i / 64)
  have hs : i % 64 < 64 := Nat.mod_lt _ (by decide)
  obtain ⟨d, hd⟩ : ∃ d, 64 - i % 64 = d + 1 := ⟨63 - i % 64, by omega⟩
  have hw := w_eq (i % 64) hs
  rw [hd] at hw
  have hp := Nat.two_pow_pos (i % 64)
  have hpd := Nat.two_pow_pos d
  -- the word's low bits
  have hlow : x % 2 ^ (i % 64 + 1) = 0 := by
    have h1 := word_val hq (i / 64)
    rw [ex, Int.toNat_natCast, hv] at h1
    have e : X * 2 ^ (i + 1) / 18446744073709551616 ^ (i / 64) = X * 2 ^ (i % 64 + 1) := by
      rw [← two_64, show i + 1 = 64 * (i / 64) + (i % 64 + 1) by omega, Nat.pow_add, ← Nat.mul_assoc, Nat.mul_right_comm, Nat.mul_div_cancel _ (Nat.two_pow_pos _)]
    have hdv : 2 ^ (i % 64 + 1) ∣ 18446744073709551616 := ⟨2 ^ d, by rw [← hw, Nat.pow_succ, Nat.pow_succ]; grind⟩
    rw [h1, e, Nat.mod_mod_of_dvd _ hdv, Nat.mul_mod_left]
  have hpow : 2 ^ (i % 64) * 2 ≤ 18446744073709551616 := by
    rw [← hw, Nat.pow_succ]
    have := Nat.mul_le_mul_left (2 ^ (i % 64)) (show 2 ≤ 2 ^ d * 2 by omega)
    exact this
  have e1 : shlK .u64 1 ((i % 64 : Nat) : Int) = ((2 ^ (i % 64) : Nat) : Int) := by
    have := shlK_exact 1 (i % 64) (by omega) (by omega)
    rw [Nat.one_mul] at this; exact this
  have hle : x + 2 ^ (i % 64) < 18446744073709551616 := by
    -- x is a multiple of twice the bit
    have hm := Nat.div_add_mod x (2 ^ (i % 64 + 1))
    rw [hlow, Nat.pow_succ] at hm
    rw [Nat.pow_succ] at hw
    have h2 : 2 ^ (i % 64) * 2 * (x / (2 ^ (i % 64) * 2)) < 2 ^ (i % 64) * 2 * 2 ^ d := by
      have : 2 ^ (i % 64) * (2 ^ d * 2) = 2 ^ (i % 64) * 2 * 2 ^ d := by grind
      omega
    have h3 : x / (2 ^ (i % 64) * 2) < 2 ^ d := Nat.lt_of_mul_lt_mul_left h2
    have h4 := Nat.mul_le_mul_left (2 ^ (i % 64) * 2) (show x / (2 ^ (i % 64) * 2) + 1 ≤ 2 ^ d from h3)
    have : 2 ^ (i % 64) * (2 ^ d * 2) = 2 ^ (i % 64) * 2 * 2 ^ d := by grind
    rw [Nat.mul_add] at h4
    omega
  refine ⟨x + 2 ^ (i % 64), hle, ?_, ?_⟩
  · rw [ex, e1, orK_add x (2 ^ (i % 64)) (i % 64 + 1) (Nat.pow_lt_pow_right (by decide) (by omega)) hlow hle]
  · have v1 := set_val q hi ((x + 2 ^ (i % 64) : Nat) : Int)
    rw [ex, Int.toNat_natCast, Int.toNat_natCast, Nat.mul_add] at v1
    have e2 : 2 ^ i = 18446744073709551616 ^ (i / 64) * 2 ^ (i % 64) := by rw [← two_64, ← Nat.pow_add]; congr 1; omega
    rw [e2]; omega
theorem rquot_l0 {a b : List Int} (ha : WF a) (hb : WF b) (la : Lb a) (lb : Lb b) (hB : val b ≠ 0) (cb : (digs (val b)).length ≤ 1000000000000) (n : Nat) : ∀ (q : List Int) (r : Nat), n ≤ 64 * q.length → q.length ≤ 17592186044416 → WF q → r < val b → val q = val a / 2 ^ n / val b * 2 ^ n → r = val a / 2 ^ n % val b →
    Ev2 (fun k m => vernierref02_quotient.l0 k m a b ((n : Int) - 1) q (digs r)) (digs (val a / val b), digs (val a % val b)) := by
  have lb' := lb
  unfold Lb at lb'
  induction n with
  | zero =>
    intro q r hn hql hq hr hv hrr
    refine Ev2.step (fun k m => vernierref02_quotient.l0_eq k m _ _ _ _ _) (Ev2.neg (dF (by omega)) (Ev2.call (rTrim_ev hq (by unfold Lb; omega)) (Ev2.eq (Ev2.some _) ?_)))
    rw [Nat.pow_zero, Nat.div_one] at hv hrr
    rw [hv, hrr, Nat.mul_one]
  | succ n ih =>
    intro q r hn hql hq hr hv hrr
    refine Ev2.step (fun k m => vernierref02_quotient.l0_eq k m _ _ _ _ _) ?_
    rw [show (((n + 1 : Nat) : Int) - 1) = (n : Int) by omega]
    have hrl : (digs r).length ≤ (digs (val b)).length := digs_len_mono (Nat.le_of_lt hr)
    have up := rup_ev (a := digs r) (WF.digs _) (by unfold Lb; omega) (t := 1) (by decide) (by rw [val_digs]; omega)
    rw [val_digs, Nat.pow_one] at up
    have bit := rBit_ev ha n (by omega)
    have hbit : val a / 2 ^ n = 2 * (val a / 2 ^ (n + 1)) + val a / 2 ^ n % 2 := by
      rw [Nat.pow_succ, ← Nat.div_div_eq_div_mul]; omega
    -- one more bit of the quotient
    generalize val a / 2 ^ n % 2 = c at *
    have hc : c < 2 := by
      have := Nat.mod_lt (val a / 2 ^ n) (show 0 < 2 by decide)
      have h2 : val a / 2 ^ (n + 1) = val a / 2 ^ n / 2 := by rw [Nat.pow_succ, Nat.div_div_eq_div_mul]
      omega
    have hq1 : val a / 2 ^ n = val b * (2 * (val a / 2 ^ (n + 1) / val b)) + (2 * r + c) := by
      have := Nat.div_add_mod (val a / 2 ^ (n + 1)) (val b)
      rw [← hrr] at this
      rw [hbit, Nat.mul_left_comm]; omega
    have hq2 : val a / 2 ^ (n + 1) / val b * 2 ^ (n + 1) = 2 * (val a / 2 ^ (n + 1) / val b) * 2 ^ n := by rw [Nat.pow_succ]; grind
    generalize val a / 2 ^ (n + 1) / val b = Q at *
    generalize val a / 2 ^ n = v at *
    have h2r : (digs (2 * r + c)).length ≤ (digs (val b)).length + 1 := by
      have h := small_len (x := 2 * r) (y := c) (m := (digs (val b)).length) 
      by_cases h0 : val b ≤ 2 * r + c
      · have h1 : 2 * r + c < 2 * val b := by omega
        have h3 := digs_length_lt.1 (Nat.le_refl (digs (val b)).length)
        refine digs_length_lt.2 ?_
        rw [pow_s]
        omega
      · exact Nat.le_trans (digs_len_mono (by omega)) (Nat.le_succ _)
    -- what comes behind the bit
    have rest : Ev2 (fun k m => ((vernierref02_Cmp k (digs (2 * r + c)) b)).bind fun o8 => (if decide (o8 ≥ 0) then ((vernierref02_less k (digs (2 * r + c)) b)).bind fun o9 => (if 0 ≤ (IntKind.i64.wrap ((n : Int).tdiv 64)) ∧ (IntKind.i64.wrap ((n : Int).tdiv 64)) < (q.length : Int) then (if 0 ≤ (IntKind.u64.wrap ((n : Int).tmod 64)) then (if 0 ≤ (IntKind.i64.wrap ((n : Int).tdiv 64)) ∧ (IntKind.i64.wrap ((n : Int).tdiv 64)) < (q.length : Int) then vernierref02_quotient.l0 k m a b (IntKind.i64.wrap ((n : Int) - 1)) (q.set ((IntKind.i64.wrap ((n : Int).tdiv 64)).toNat) (orK IntKind.u64 (q.getD ((IntKind.i64.wrap ((n : Int).tdiv 64)).toNat) 0) (shlK IntKind.u64 1 (IntKind.u64.wrap ((n : Int).tmod 64))))) o9 else none) else none) else none) else vernierref02_quotient.l0 k m a b (IntKind.i64.wrap ((n : Int) - 1)) q (digs (2 * r + c)))) (digs (val a / val b), digs (val a % val b)) := by
      have l2 : Lb (digs (2 * r + c)) := by unfold Lb; omega
      have hcmp := rCmp_ev (a := digs (2 * r + c)) (b := b) (WF.digs _) hb l2 lb
      rw [val_digs] at hcmp
      have ew : IntKind.i64.wrap ((n : Int).tdiv 64) = ((n / 64 : Nat) : Int) := by
        rw [show (64 : Int) = ((64 : Nat) : Int) from rfl, tdiv_nat, wrapI (by omega) (by omega)]
      have es : IntKind.u64.wrap ((n : Int).tmod 64) = ((n % 64 : Nat) : Int) := by
        rw [show (64 : Int) = ((64 : Nat) : Int) from rfl, tmod_nat, wrapUn (by omega)]
      rw [ew, es, Int.toNat_natCast, wrapI (x := (n : Int) - 1) (by omega) (by omega)]
      refine Ev2.call hcmp ?_
      by_cases cge : val b ≤ 2 * r + c
      · have hle := rless_ev (a := digs (2 * r + c)) (b := b) (WF.digs _) hb l2 (by rw [val_digs]; exact cge)
        rw [val_digs] at hle
        obtain ⟨z, hz, ez, evz⟩ := set_bit hq (i := n) (X := Q) (by omega) hv
        refine Ev2.pos (dT (by unfold cmpN; rw [if_neg (by omega)]; split <;> decide)) (Ev2.call hle (Ev2.pos ⟨by omega, by omega⟩ (Ev2.pos (by omega) (Ev2.pos ⟨by omega, by omega⟩ ?_))))
        rw [ez]
        have hdiv : v / val b = 2 * Q + 1 := by
          rw [hq1, show val b * (2 * Q) + (2 * r + c) = val b * (2 * Q + 1) + (2 * r + c - val b) by rw [Nat.mul_add]; omega, Nat.mul_add_div (by omega), Nat.div_eq_of_lt (by omega), Nat.add_zero]
        have hmod : v % val b = 2 * r + c - val b := by
          rw [hq1, show val b * (2 * Q) + (2 * r + c) = val b * (2 * Q + 1) + (2 * r + c - val b) by rw [Nat.mul_add]; omega, Nat.mul_add_mod, Nat.mod_eq_of_lt (by omega)]
        refine ih (q.set (n / 64) (z : Int)) (2 * r + c - val b) (by rw [List.length_set]; omega) (by rw [List.length_set]; omega) (hq.set _ (by omega) (by omega)) (by omega) ?_ hmod.symm
        rw [evz, hv, hq2, hdiv, Nat.add_mul, Nat.one_mul]
      · refine Ev2.neg (dF (by rw [cmpN, if_pos (by omega)]; decide)) ?_
        have hdiv : v / val b = 2 * Q := by
          rw [hq1, Nat.mul_add_div (by omega), Nat.div_eq_of_lt (by omega)]; omega
        have hmod : v % val b = 2 * r + c := by
          rw [hq1, Nat.mul_add_mod, Nat.mod_eq_of_lt (by omega)]
        refine ih q (2 * r + c) (by omega) hql hq (by omega) ?_ hmod.symm
        rw [hv, hq2, hdiv]
    refine Ev2.call up (Ev2.call bit ?_)
    rcases (show c = 0 ∨ c = 1 by omega) with rfl | rfl
    · refine Ev2.neg (bF (by decide)) ?_
      rw [Nat.mul_comm r 2]
      exact rest
    · have h1w : val ((List.replicate 1 (0 : Int)).set 0 1) = 1 := rfl
      have l1 : (digs 1).length ≤ 1 := digs_length_lt.2 (by decide)
      have h2r' : (digs (2 * r)).length ≤ (digs (val b)).length + 1 := Nat.le_trans (digs_len_mono (by omega)) h2r
      have ad := rAdd_ev (a := digs (r * 2)) (b := (List.replicate 1 (0 : Int)).set 0 1) (WF.digs _) (WF.cons (by decide) (by decide) WF.nil) (by rw [Nat.mul_comm]; unfold Lb; omega) (by unfold Lb; simp) (by rw [val_digs, Nat.mul_comm]; omega) (by rw [h1w]; omega)
      rw [val_digs, h1w, Nat.mul_comm r 2] at ad
      rw [Nat.mul_comm r 2]
      exact Ev2.pos (bT (by decide)) (Ev2.call ad rest)
theorem rquot_ev {a b : List Int} (ha : WF a) (hb : WF b) (la : Lb a) (lb : Lb b) (hB : val b ≠ 0) (cb : (digs (val b)).length ≤ 1000000000000) : Ev (fun k => vernierref02_quotient k a b) (digs (val a / val b), digs (val a % val b)) := by
  have sa := size_le a ha
  have la' := la
  unfold Lb at la'
  have hba : blen (val a) ≤ 64 * (digs (val a)).length := blen_bound (by rw [two_64]; exact digs_length_lt.1 (Nat.le_refl _))
  refine Ev.congr (fun k => vernierref02_quotient_eq k a b) (Ev.bind (rLen_ev ha la) (Ev.bind (rLen_ev hb lb) ?_))
  have h1 := blen_lt (val a)
  have h2 := blen_le hB
  have h3 := blen_pos hB
  by_cases c : blen (val a) < blen (val b)
  · refine Ev.pos (dT (by omega)) (Ev.bind (rTrim_ev ha la) (Ev.eq (Ev.some _) ?_))
    have : val a < val b := Nat.lt_of_lt_of_le h1 (Nat.le_trans (Nat.pow_le_pow_right (by decide) (by omega)) h2)
    rw [Nat.div_eq_of_lt this, Nat.mod_eq_of_lt this, digs_zero]
  · refine Ev.neg (dF (by omega)) (Ev.bind (rsize_ev ha la) (Ev.pos ⟨by omega, by omega⟩ ?_))
    have e1 : IntKind.i64.wrap ((IntKind.i64.wrap (((blen (val a) : Nat) : Int) - ((blen (val b) : Nat) : Int))) + 1) = ((blen (val a) - blen (val b) + 1 : Nat) : Int) := by
      rw [sub_i _ _ (by omega) (by omega), succ_i _ (by omega)]
    have e2 : IntKind.i64.wrap (((blen (val a) : Nat) : Int) - ((blen (val b) : Nat) : Int)) = ((blen (val a) - blen (val b) + 1 : Nat) : Int) - 1 := by
      rw [sub_i _ _ (by omega) (by omega)]; omega
    rw [e1, e2, Int.toNat_natCast]
    have hsmall : val a / 2 ^ (blen (val a) - blen (val b) + 1) < val b := by
      rw [Nat.div_lt_iff_lt_mul (Nat.two_pow_pos _)]
      refine Nat.lt_of_lt_of_le h1 ?_
      have : 2 ^ blen (val a) = 2 ^ (blen (val b) - 1) * 2 ^ (blen (val a) - blen (val b) + 1) := by rw [← Nat.pow_add]; congr 1; omega
      rw [this]
      exact Nat.mul_le_mul_right _ h2
    refine Ev.bind (rdown_ev ha la _ (by omega)) (rquot_l0 ha hb la lb hB cb _ (List.replicate (digs (val a)).length 0) _ (by rw [List.length_replicate]; omega) (by rw [List.length_replicate]; omega) (WF.replicate _) hsmall ?_ (Nat.mod_eq_of_lt hsmall).symm).ev
    rw [val_replicate, Nat.div_eq_of_lt hsmall, Nat.zero_mul]
theorem rDivide_ev {a b : List Int} (ha : WF a) (hb : WF b) (la : Lb a) (lb : Lb b) (hB : val b ≠ 0) (cb : (digs (val b)).length ≤ 1000000000000) : Ev (fun k => vernierref02_Divide k a b) (digs (val a / val b), digs (val a % val b)) :=
  Ev.congr (fun k => vernierref02_Divide_eq k a b) (Ev.bind (rquot_ev ha hb la lb hB cb) (Ev.some _))
theorem rUp_ev {a : List Int} (ha : WF a) (la : Lb a) {t : Nat} (ht : t < 1000000000000000) (hl : t / 64 + (digs (val a)).length + 1 ≤ 17592186044416) : Ev (fun k => vernierref02_Up k a (t : Int)) (digs (val a * 2 ^ t)) :=
  Ev.congr (fun k => vernierref02_Up_eq k a _) (Ev.bind (rup_ev ha la ht hl) (Ev.some _))
end Go.Proofs.YtbaaggmicpigeaaGreatDoor.X
