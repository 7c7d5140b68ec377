/- Plain law: what Jam and Root of naturals answer, by the numbers that the lists are. Conditions: the words are words, the lists are not longer than memory. -/
import Derived.Test.YtdhndlcijpgjgaaDoorNatLen
import Derived.Test.YtdhndlcijpgjgaaDoorNatTz
namespace Go.Proofs.YtdhndlcijpgjgaaDoor.X
open Go Go.Rex
set_option linter.unusedVariables false

/-! ### divides, Jam -/
theorem two_dvd_odd {n t m : Nat} : 2 ^ t * (2 * m + 1) % 2 ^ n = 0 ↔ n ≤ t := by
  constructor
  · intro h
    rcases Nat.lt_or_ge t n with h' | h'
    · exfalso
      obtain ⟨d, hd⟩ : ∃ d, n = t + (d + 1) := ⟨n - t - 1, by omega⟩
      rw [hd, Nat.pow_add, Nat.mul_mod_mul_left] at h
      have h2 : (2 * m + 1) % 2 ^ (d + 1) = 0 := by
        rcases Nat.mul_eq_zero.1 h with h | h
        · have := Nat.two_pow_pos t; omega
        · exact h
      have h3 : (2 * m + 1) % 2 = 0 := by
        have := Nat.mod_mod_of_dvd (2 * m + 1) (show 2 ∣ 2 ^ (d + 1) from ⟨2 ^ d, by rw [Nat.pow_succ, Nat.mul_comm]⟩)
        rw [h2] at this; omega
      omega
    · exact h'
  · intro h
    obtain ⟨d, rfl⟩ : ∃ d, t = n + d := ⟨t - n, by omega⟩
    rw [Nat.pow_add, Nat.mul_assoc, Nat.mul_mod_right]
theorem divides_l0 {v : Nat} (hl : Lb (digs v)) {n : Nat} (hn : n < 9223372036854775808) (m : Nat) : ∀ j : Nat, j + m = (digs v).length → val ((digs v).take j) = 0 → Ev2 (fun k l => nat_divides.l0 k l (n : Int) (digs v) ((digs v).length : Int) (j : Int)) (decide (v % 2 ^ n = 0)) := by
  unfold Lb at hl
  induction m with
  | zero =>
    intro j hj hz
    refine Ev2.step (fun k l => nat_divides.l0_eq k l _ _ _ _) (Ev2.neg (dF (by omega)) (Ev2.eq (Ev2.some _) ?_))
    rw [List.take_of_length_le (by omega), val_digs] at hz
    subst hz; simp
  | succ m ih =>
    intro j hj hz
    refine Ev2.step (fun k l => nat_divides.l0_eq k l _ _ _ _) ?_
    rw [Int.toNat_natCast, succ_i j (by omega)]
    refine Ev2.pos (dT (by omega)) (Ev2.pos ⟨by omega, by omega⟩ ?_)
    have rj := (WF.digs v).getD j
    obtain ⟨x, ex⟩ := Int.eq_ofNat_of_zero_le rj.1
    rw [ex] at rj ⊢
    by_cases hx : x = 0
    · refine Ev2.neg (nF (by omega)) (ih (j + 1) (by omega) ?_)
      rw [take_succ_val (digs v) (by omega), hz, ex, hx]; rfl
    · obtain ⟨z, q, hq, hz64, hev⟩ := tz_ev (n := x) hx (by omega)
      refine Ev2.pos (nT (by omega)) (Ev2.call (Ev.of hev) (Ev2.eq (Ev2.some _) ?_))
      have h1 := val_take_drop (digs v) j
      rw [val_digs, hz, drop_val (digs v) (by omega), ex, Int.toNat_natCast, Nat.zero_add] at h1
      have hw := w_eq z hz64
      obtain ⟨c, hc⟩ : ∃ c, 64 - z = c + 1 := ⟨63 - z, by omega⟩
      have hodd : v = 2 ^ (64 * j + z) * (2 * (q + 2 ^ c * val ((digs v).drop (j + 1))) + 1) := by
        rw [hc, Nat.pow_succ] at hw
        generalize val ((digs v).drop (j + 1)) = D at *
        rw [h1, hq, Nat.pow_add, two_64, ← hw]; grind
      have h2 : v % 2 ^ n = 0 ↔ n ≤ 64 * j + z := by rw [hodd]; exact two_dvd_odd
      clear hodd h1
      rw [wrapI (x := 64 * (j : Int)) (by omega) (by omega), wrapI (by omega) (by omega)]
      by_cases c1 : n ≤ 64 * j + z
      · rw [decide_eq_true (show (64 * (j : Int) + (z : Int)) ≥ (n : Int) by omega), decide_eq_true (h2.2 c1)]
      · rw [decide_eq_false (show ¬ ((64 * (j : Int) + (z : Int)) ≥ (n : Int)) by omega), decide_eq_false (fun h => c1 (h2.1 h))]
theorem divides_ev {a : List Int} (ha : WF a) (la : Lb a) {n : Nat} (hn : n < 9223372036854775808) : Ev (fun k => nat_divides k a (n : Int)) (decide (val a % 2 ^ n = 0)) := by
  refine Ev.congr (fun k => nat_divides_eq k a _) (Ev.bind (trim_ev ha la) ?_)
  exact (divides_l0 (la.ofv ha) hn (digs (val a)).length 0 (by omega) (by simp [val])).ev
/-- Shifted down, with a bit for what is lost. -/
def jamN (v n : Nat) : Nat := if v % 2 ^ n = 0 then v / 2 ^ n else v / 2 ^ n / 2 * 2 + 1
theorem digs_word {v : Nat} (h0 : v ≠ 0) (h : v < 18446744073709551616) : digs v = [(v : Int)] := by
  rw [digs_pos h0, Nat.mod_eq_of_lt h, Nat.div_eq_of_lt h, digs_zero]
theorem or_one (x : Nat) (h : x < 18446744073709551616) : orK .u64 (x : Int) 1 = ((x / 2 * 2 + 1 : Nat) : Int) := by
  have := orK_nat x 1 h (by decide)
  rw [show ((1 : Nat) : Int) = 1 from rfl] at this
  rw [this]
  congr 1
  have e : x = x / 2 * 2 + x % 2 := by omega
  rcases (show x % 2 = 0 ∨ x % 2 = 1 by omega) with h' | h'
  · rw [or_disj x 1 1 (by decide) (by omega)]; omega
  · have h1 : x ||| 1 = (x / 2 * 2 ||| 1) ||| 1 := by
      rw [or_disj (x / 2 * 2) 1 1 (by decide) (by omega)]
      congr 1; omega
    rw [h1, Nat.or_assoc, show 1 ||| 1 = 1 from rfl, or_disj (x / 2 * 2) 1 1 (by decide) (by omega)]
theorem set_or {v : Nat} (h0 : v ≠ 0) : (digs v).set 0 (orK .u64 ((digs v).getD 0 0) 1) = digs (v / 2 * 2 + 1) := by
  rw [digs_pos h0, digs_pos (show v / 2 * 2 + 1 ≠ 0 by omega)]
  have hm := Nat.mod_lt v (show 0 < 18446744073709551616 by decide)
  simp only [List.set_cons_zero, List.getD_eq_getElem?_getD, List.getElem?_cons_zero, Option.getD_some]
  rw [or_one _ hm]
  congr 1
  · congr 1; omega
  · congr 1; omega
theorem Jam_ev {a : List Int} (ha : WF a) (la : Lb a) {n : Nat} (hn : n < 9223372036854775808) : Ev (fun k => nat_Jam k a (n : Int)) (digs (jamN (val a) n), (0 : Int)) := by
  refine Ev.congr (fun k => nat_Jam_eq k a _) (Ev.neg (dF (by omega)) (Ev.bind (right_ev ha la n hn) (Ev.bind (divides_ev ha la hn) ?_)))
  unfold jamN
  by_cases c : val a % 2 ^ n = 0
  · rw [decide_eq_true c, if_pos c]
    exact Ev.neg (by simp) (Ev.some _)
  · rw [decide_eq_false c, if_neg c]
    refine Ev.pos rfl ?_
    generalize val a / 2 ^ n = v
    by_cases h0 : v = 0
    · subst h0
      rw [digs_zero]
      exact Ev.pos (bT rfl) (Ev.eq (Ev.some _) (by rw [digs_word (by omega) (by omega)]; rfl))
    · have := digs_len_pos.2 h0
      refine Ev.neg (bF (by omega)) (Ev.pos ⟨by omega, by omega⟩ (Ev.pos ⟨by omega, by omega⟩ (Ev.eq (Ev.some _) ?_)))
      rw [set_or h0]
theorem Jam_range {a : List Int} {n : Int} (h : n < 0) : Ev (fun k => nat_Jam k a n) (([] : List Int), (7 : Int)) :=
  Ev.congr (fun k => nat_Jam_eq k a _) (Ev.pos (dT h) (Ev.some _))
/-! ### Root -/
theorem sqrt_ex (A : Nat) : ∃ r, r * r ≤ A ∧ A < (r + 1) * (r + 1) := by
  induction A with
  | zero => exact ⟨0, by decide, by decide⟩
  | succ A ih =>
    obtain ⟨r, h1, h2⟩ := ih
    rcases Nat.lt_or_ge (A + 1) ((r + 1) * (r + 1)) with h | h
    · exact ⟨r, by omega, h⟩
    · refine ⟨r + 1, h, ?_⟩
      have : (r + 1 + 1) * (r + 1 + 1) = (r + 1) * (r + 1) + 2 * (r + 1) + 1 := by grind
      omega
theorem sqrt_ge {A r x : Nat} (h1 : r * r ≤ A) (hx : 0 < x) : r ≤ (x + A / x) / 2 := by
  rw [Nat.le_div_iff_mul_le (by decide)]
  rcases Nat.lt_or_ge (2 * r) x with h | h
  · have := Nat.le_add_right x (A / x); omega
  · obtain ⟨d, hd⟩ : ∃ d, 2 * r = x + d := ⟨2 * r - x, by omega⟩
    have h3 : d ≤ A / x := by
      rw [Nat.le_div_iff_mul_le hx]
      refine Nat.le_trans ?_ h1
      rcases Nat.le_total x r with h' | h'
      · obtain ⟨y, rfl⟩ : ∃ y, r = x + y := ⟨r - x, by omega⟩
        have : d = x + 2 * y := by omega
        subst this; grind
      · obtain ⟨y, rfl⟩ : ∃ y, x = r + y := ⟨x - r, by omega⟩
        obtain ⟨z, rfl⟩ : ∃ z, r = y + z := ⟨r - y, by omega⟩
        have : d = z := by omega
        subst this
        have : (y + d) * (y + d) = d * (y + d + y) + y * y := by grind
        omega
    omega
theorem sqrt_stop {A r x : Nat} (h2 : A < (r + 1) * (r + 1)) (hx : 0 < x) (hy : x ≤ (x + A / x) / 2) : x ≤ r := by
  rw [Nat.le_div_iff_mul_le (by decide)] at hy
  have h3 : x ≤ A / x := by omega
  rw [Nat.le_div_iff_mul_le hx] at h3
  rcases Nat.lt_or_ge r x with h | h
  · have := Nat.mul_le_mul (show r + 1 ≤ x from h) (show r + 1 ≤ x from h); omega
  · exact h
theorem root_l0 {A r : Nat} (h0 : A ≠ 0) (hA : (digs A).length ≤ 1024) (h1 : r * r ≤ A) (h2 : A < (r + 1) * (r + 1)) (x : Nat) : 0 < x → r ≤ x → (digs x).length ≤ 2000 →
    Ev2 (fun k n => nat_Root.l0 k n (digs A) (digs x)) (digs r, (decide (r * r = A), (0 : Int))) := by
  induction x using Nat.strongRecOn with
  | _ x ih =>
    intro hx hr hl
    have la : Lb (digs A) := by unfold Lb; omega
    have lx : Lb (digs x) := by unfold Lb; omega
    have d := divided_ev (a := digs A) (b := digs x) (WF.digs _) (WF.digs _) la lx (by rw [val_digs]; omega) (by rw [val_digs]; omega)
    rw [val_digs, val_digs] at d
    have hq : (digs (A / x)).length ≤ 1024 := Nat.le_trans (digs_len_mono (Nat.div_le_self _ _)) hA
    have a1 := Add_ev (a := digs x) (b := digs (A / x)) (WF.digs _) (WF.digs _) lx (by unfold Lb; omega) (by rw [val_digs]; omega) (by rw [val_digs]; omega)
    rw [val_digs, val_digs] at a1
    have hs : (digs (x + A / x)).length ≤ 2001 := sum_len_ hl (by omega)
    have r1 := right_ev (a := digs (x + A / x)) (WF.digs _) (by unfold Lb; omega) 1 (by decide)
    rw [val_digs, Nat.pow_one] at r1
    have hy : (digs ((x + A / x) / 2)).length ≤ 2001 := Nat.le_trans (digs_len_mono (Nat.div_le_self _ _)) hs
    have c1 := Cmp_ev (a := digs ((x + A / x) / 2)) (b := digs x) (WF.digs _) (WF.digs _) (by unfold Lb; omega) lx
    rw [val_digs, val_digs] at c1
    refine Ev2.step (fun k n => nat_Root.l0_eq k n _ _) (Ev2.call d (Ev2.call a1 (Ev2.call r1 (Ev2.call c1 ?_))))
    have hge := sqrt_ge (x := x) h1 hx
    have hr0 : 0 < r := by
      rcases Nat.eq_zero_or_pos r with h | h
      · subst h; omega
      · exact h
    by_cases c : (x + A / x) / 2 < x
    · refine Ev2.neg (dF (by rw [cmpN, if_pos c]; decide)) ?_
      have hlx : (digs ((x + A / x) / 2)).length ≤ 2000 := Nat.le_trans (digs_len_mono (Nat.le_of_lt c)) hl
      exact ih _ c (by omega) hge hlx
    · have hxr := sqrt_stop h2 hx (Nat.le_of_not_lt c)
      have e : x = r := by omega
      subst e
      refine Ev2.pos (dT (by unfold cmpN; rw [if_neg c]; split <;> decide)) ?_
      have p := product_ev (a := digs x) (b := digs x) (WF.digs _) (WF.digs _) lx lx (by rw [val_digs]; omega)
      rw [val_digs] at p
      have hpl : (digs (x * x)).length ≤ 1024 := Nat.le_trans (digs_len_mono h1) hA
      have c2 := Cmp_ev (a := digs (x * x)) (b := digs A) (WF.digs _) (WF.digs _) (by unfold Lb; omega) la
      rw [val_digs, val_digs] at c2
      refine Ev2.call p (Ev2.call c2 (Ev2.eq (Ev2.some _) ?_))
      congr 2
      by_cases e : x * x = A
      · rw [decide_eq_true e, e]; simp [cmpN]
      · rw [decide_eq_false e, cmpN, if_pos (by omega)]; rfl
theorem Root_ev {a : List Int} (ha : WF a) (la : Lb a) (hl : (digs (val a)).length ≤ 1024) {r : Nat} (h1 : r * r ≤ val a) (h2 : val a < (r + 1) * (r + 1)) : Ev (fun k => nat_Root k a) (digs r, (decide (r * r = val a), (0 : Int))) := by
  refine Ev.congr (fun k => nat_Root_eq k a) ?_
  rw [set1]
  refine Ev.bind (Ev.eq (great_ev (l := [a]) (fun x hx => by simp at hx; subst hx; exact ⟨ha, la⟩) (by simp)) (r' := false) (by simp; omega)) (Ev.neg (by simp) (Ev.bind (trim_ev ha la) ?_))
  generalize val a = A at *
  by_cases hA : A = 0
  · subst hA
    have : r = 0 := by
      rcases Nat.eq_zero_or_pos r with h | h
      · exact h
      · have := Nat.mul_pos h h; omega
    subst this
    rw [digs_zero]
    exact Ev.pos (bT rfl) (Ev.some _)
  · have hlen := digs_len_pos.2 hA
    refine Ev.neg (bF (by omega)) ?_
    have hb := Len_ev (a := digs A) (WF.digs _) (by unfold Lb; omega)
    rw [val_digs] at hb
    refine Ev.bind hb ?_
    have hbl : blen A ≤ 65536 := by
      exact blen_len hl
    rw [show IntKind.i64.wrap ((IntKind.i64.wrap (((blen A : Nat) : Int) + 1)).tdiv 2) = (((blen A + 1) / 2 : Nat) : Int) by
      rw [succ_i _ (by omega), show (2 : Int) = ((2 : Nat) : Int) from rfl, tdiv_nat, wrapI (by omega) (by omega)]]
    have h1w : ((List.replicate 1 (0 : Int)).set 0 1) = [1] := rfl
    have e1 : val [1] = 1 := rfl
    have d1 : (digs 1).length ≤ 1 := by rw [digs_word (by omega) (by omega)]; simp
    have lf := left_ev (a := [1]) (WF.cons (by decide) (by decide) WF.nil) (by unfold Lb; simp) (n := (blen A + 1) / 2) (by rw [e1]; omega)
    rw [e1, Nat.one_mul] at lf
    have hX : (digs (2 ^ ((blen A + 1) / 2))).length ≤ 1026 := by
      have := shl_len_ (v := 1) (n := (blen A + 1) / 2) d1
      rw [Nat.one_mul] at this; omega
    rw [h1w]
    refine Ev.bind lf (Ev2.ev (root_l0 hA hl h1 h2 _ (Nat.two_pow_pos _) ?_ (by omega)))
    have hlt := blen_lt A
    rcases Nat.lt_or_ge (2 ^ ((blen A + 1) / 2)) r with h | h
    · exfalso
      have k1 := Nat.mul_le_mul (Nat.le_of_lt h) (Nat.le_of_lt h)
      rw [← Nat.pow_add] at k1
      have k2 : 2 ^ blen A ≤ 2 ^ ((blen A + 1) / 2 + (blen A + 1) / 2) := Nat.pow_le_pow_right (by decide) (by omega)
      omega
    · exact h
end Go.Proofs.YtdhndlcijpgjgaaDoor.X
