/- Plain law: layer 5's cut and into: a number is rounded as the plain rounding of RndA says. Conditions: the number's natural is short, its exponent moderate. -/
import Derived.Test.YtmoeaeflljpboaaDoorFmC
import Derived.Test.YtmoeaeflljpboaaDoorRndA
import Derived.Test.YtmoeaeflljpboaaDoorNatJ
namespace Go.Proofs.YtmoeaeflljpboaaDoor.X
open Go Go.Rex
set_option linter.unusedVariables false

/-- Two to a power, of a whole number that may be below 0: then 1. -/
def p2 (z : Int) : Nat := 2 ^ z.toNat
theorem p2_pos (z : Int) : 0 < p2 z := Nat.two_pow_pos _
theorem p2_nat (n : Nat) : p2 (n : Int) = 2 ^ n := by unfold p2; rw [Int.toNat_natCast]
theorem p2_neg {z : Int} (h : z ≤ 0) : p2 z = 1 := by unfold p2; rw [show z.toNat = 0 by omega, Nat.pow_zero]
theorem p2_cross (e q l : Int) : p2 (e - q) * (p2 (l - e) * p2 (q - l)) = p2 (e - l) * (p2 (q - e) * p2 (l - q)) := by
  unfold p2
  rw [← Nat.pow_add, ← Nat.pow_add, ← Nat.pow_add, ← Nat.pow_add]
  congr 1; omega
/-- The natural and the divisor of a number, an unknown rest taken for a half. -/
def nuN (n : Nat) (more : Bool) : Nat := if more then 2 * n + 1 else n
def nuD (more : Bool) : Nat := if more then 2 else 1
theorem nuD_pos (more : Bool) : 0 < nuD more := by unfold nuD; split <;> decide
/-- The number in places of 2^q. -/
def qA (n : Nat) (e : Int) (more : Bool) (q : Int) : Nat := nuN n more * p2 (e - q)
def qB (e : Int) (more : Bool) (q : Int) : Nat := nuD more * p2 (q - e)
theorem qB_pos (e : Int) (more : Bool) (q : Int) : 0 < qB e more q := Nat.mul_pos (nuD_pos more) (p2_pos _)
/-- From one place to another. -/
theorem q_cross (n : Nat) (e : Int) (more : Bool) {q l : Int} (h : l ≤ q) : qA n e more q * (qB e more l * p2 (q - l)) = qA n e more l * qB e more q := by
  have h1 := p2_cross e q l
  rw [p2_neg (z := l - q) (by omega), Nat.mul_one] at h1
  unfold qA qB
  generalize nuN n more = N
  generalize nuD more = D
  have e1 : N * p2 (e - q) * (D * p2 (l - e) * p2 (q - l)) = N * D * (p2 (e - q) * (p2 (l - e) * p2 (q - l))) := by grind
  have e2 : N * p2 (e - l) * (D * p2 (q - e)) = N * D * (p2 (e - l) * p2 (q - e)) := by grind
  rw [e1, e2, h1]

theorem further_at (k : Nat) (m : Int) (neg odd : Bool) {l : Nat} (h0 : 0 < l) (h3 : l ≤ 3) : round_further k m neg odd (l : Int) = some (ups m neg odd l) := by
  have hl : l = 1 ∨ l = 2 ∨ l = 3 := by omega
  rw [round_further_eq]
  unfold ups
  by_cases c4 : m = 4
  · subst c4; rw [if_pos (bT rfl)]; simp
  · rw [if_neg (bF c4)]
    by_cases c3 : m = 3
    · subst c3; rw [if_pos (bT rfl)]; simp
    · rw [if_neg (bF c3)]
      by_cases c0 : m = 0
      · subst c0; rw [if_pos (bT rfl), if_pos rfl]
        rcases hl with rfl | rfl | rfl
        · rw [if_neg (bF (by decide))]; simp
        · rw [if_pos (bT (by decide))]; simp
        · rw [if_neg (bF (by decide))]; simp
      · rw [if_neg (bF c0), if_neg c0]
        by_cases c1 : m = 1
        · subst c1; rw [if_pos (bT rfl), if_pos rfl]; congr 1
          rcases hl with rfl | rfl | rfl <;> decide
        · rw [if_neg (bF c1), if_neg c1, if_neg c3, if_neg c4]
          by_cases c5 : m = 5
          · subst c5; rw [if_pos (bT rfl), if_pos rfl]
          · rw [if_neg (bF c5), if_neg c5]
theorem ev_of {α : Type} {f : Nat → Option α} {r : α} (h : ∀ k, f k = some r) : Ev f r := Ev.of h
theorem low2 (v : Nat) : andK .u64 ((digs v).getD 0 0) 3 = ((v % 4 : Nat) : Int) := by
  by_cases h0 : v = 0
  · subst h0; rw [digs_zero]; rfl
  · rw [digs_pos h0]
    have hm := Nat.mod_lt v (show 0 < 18446744073709551616 by decide)
    simp only [List.getD_eq_getElem?_getD, List.getElem?_cons_zero, Option.getD_some]
    have := andK_mask (v % 18446744073709551616) 2 (by decide) hm
    rw [show ((2 ^ 2 - 1 : Nat) : Int) = 3 from rfl] at this
    rw [this]
    congr 1; omega
theorem low_bit (v : Nat) : andK .u64 ((digs v).getD 0 0) 1 = ((v % 2 : Nat) : Int) := by
  by_cases h0 : v = 0
  · subst h0; rw [digs_zero]; rfl
  · rw [digs_pos h0]
    have hm := Nat.mod_lt v (show 0 < 18446744073709551616 by decide)
    simp only [List.getD_eq_getElem?_getD, List.getElem?_cons_zero, Option.getD_some]
    rw [andK_one _ hm]
    congr 1; omega
theorem or1 {x : Nat} (h : x < 4) : orK .u64 (x : Int) 1 = ((x / 2 * 2 + 1 : Nat) : Int) := or_one x (by omega)
theorem one_digs : ((List.replicate 1 (0 : Int)).set 0 1) = digs 1 := by rw [digs_pos (by decide)]; simp [digs_zero]
theorem one_len : (digs 1).length ≤ 1 := digs_length_lt.2 (by decide)
theorem add1_ev {u : Nat} (h : (digs u).length ≤ 100000) : Ev (fun k => nat_Add k (digs u) ((List.replicate 1 (0 : Int)).set 0 1)) (digs (u + 1)) := by
  have := one_len
  rw [one_digs]
  have := Add_ev (a := digs u) (b := digs 1) (WF.digs _) (WF.digs _) (by unfold Lb; omega) (by unfold Lb; omega) (by rw [val_digs]; omega) (by rw [val_digs]; omega)
  rwa [val_digs, val_digs] at this
/-! ### cut -/
/-- From the four-fold quotient with its sticky bit on. -/
theorem cut_j0 {j R : Nat} (hl : (digs j).length ≤ 10000) (m : Int) (neg more : Bool) (l3 : List Int) (x4 : Int) (hR : R = if more then j % 4 / 2 * 2 + 1 else j % 4) :
    Ev (fun k => round_number_cut.j0 k m (digs j) neg l3 x4 more) (digs (chs m neg (j / 4) R), decide (R ≠ 0)) := by
  have hs := Shr_ev (a := digs j) (WF.digs _) (by unfold Lb; omega) 2 (by decide)
  rw [val_digs, show (2 : Nat) ^ 2 = 4 from rfl] at hs
  have hu : (digs (j / 4)).length ≤ 10000 := Nat.le_trans (digs_len_mono (Nat.div_le_self _ _)) hl
  have hj4 := Nat.mod_lt j (show 0 < 4 by decide)
  have hR4 : R < 4 := by rw [hR]; split <;> omega
  have j2 : Ev (fun k => round_number_cut.j2 k m (digs j) (R : Int) neg l3 x4 more) (digs (chs m neg (j / 4) R), decide (R ≠ 0)) := by
    refine Ev.congr (fun k => round_number_cut.j2_eq k _ _ _ _ _ _ _) (Ev.bind hs ?_)
    have ne : ((R : Int) != 0) = decide (R ≠ 0) := by
      by_cases h : R = 0
      · subst h; rfl
      · rw [decide_eq_true h]; exact nT (by omega)
    rw [ne]
    have body : ∀ odd : Bool, odd = (j / 4 % 2 == 1) → Ev (fun k => (if decide (R ≠ 0) = true then ((round_further k m neg odd (R : Int))).bind fun o3 => (if o3 = true then ((nat_Add k (digs (j / 4)) ((List.replicate 1 (0 : Int)).set 0 1))).bind fun o4 => some (o4, decide (R ≠ 0)) else some (digs (j / 4), decide (R ≠ 0))) else some (digs (j / 4), decide (R ≠ 0)))) (digs (chs m neg (j / 4) R), decide (R ≠ 0)) := by
      intro odd ho
      unfold chs
      by_cases h : R = 0
      · subst h
        rw [if_neg (show ¬ (0 < 0 ∧ _) from fun h => by omega)]
        exact Ev.neg (by simp) (Ev.some _)
      · refine Ev.pos (decide_eq_true h) (Ev.bind (ev_of fun k => further_at k m neg odd (by omega) (by omega)) ?_)
        rw [ho]
        by_cases hu' : ups m neg (j / 4 % 2 == 1) R = true
        · rw [if_pos (show 0 < R ∧ _ from ⟨by omega, hu'⟩)]
          exact Ev.pos hu' (Ev.bind (add1_ev (by omega)) (Ev.some _))
        · rw [if_neg (show ¬ (0 < R ∧ _) from fun h => hu' h.2)]
          exact Ev.neg hu' (Ev.some _)
    by_cases h0 : j / 4 = 0
    · refine Ev.neg (dF (by show ¬ (((digs (j / 4)).length : Int) > 0); rw [h0, digs_zero]; simp)) (body false ?_)
      rw [h0]; rfl
    · have := digs_len_pos.2 h0
      refine Ev.pos (dT (by show ((digs (j / 4)).length : Int) > 0; omega)) (Ev.pos ⟨by omega, by show 0 < ((digs (j / 4)).length : Int); omega⟩ ?_)
      refine body _ ?_
      show ((andK IntKind.u64 ((digs (j / 4)).getD 0 0) 1) == 1) = _
      rw [low_bit]
      by_cases h : j / 4 % 2 = 1
      · rw [h]; rfl
      · rw [show j / 4 % 2 = 0 by omega]; rfl
  have j1 : ∀ x2 : Nat, x2 = j % 4 → Ev (fun k => round_number_cut.j1 k m (digs j) (x2 : Int) neg l3 x4 more) (digs (chs m neg (j / 4) R), decide (R ≠ 0)) := by
    intro x2 hx
    refine Ev.congr (fun k => round_number_cut.j1_eq k _ _ _ _ _ _ _) ?_
    cases more
    · rw [if_neg (by simp)] at hR
      refine Ev.neg (by simp) ?_
      rw [hx, ← hR]; exact j2
    · rw [if_pos rfl] at hR
      refine Ev.pos rfl ?_
      rw [or1 (by omega), hx, ← hR]; exact j2
  refine Ev.congr (fun k => round_number_cut.j0_eq k _ _ _ _ _ _) ?_
  by_cases h0 : j = 0
  · subst h0
    refine Ev.neg (dF (by rw [digs_zero]; simp)) ?_
    exact j1 0 rfl
  · have := digs_len_pos.2 h0
    refine Ev.pos (dT (by omega)) (Ev.pos ⟨by omega, by omega⟩ ?_)
    rw [show ((0 : Int).toNat) = 0 from rfl, low2]
    exact j1 _ rfl
theorem jam_div (n t : Nat) : jamN n t / 4 = n / 2 ^ t / 4 := by unfold jamN; split <;> omega
theorem cut_ev {n : Nat} {e q : Int} {more : Bool} (m : Int) (neg : Bool) (hl : (digs n).length ≤ 3000) (he : -1000000 ≤ e ∧ e ≤ 1000000) (hq : -1000000 ≤ q ∧ q ≤ 1000000) (hsh : 2 ≤ q - e ∨ (more = false ∧ -60 ≤ q - e ∧ (digs n).length ≤ 1000)) :
    Ev (fun k => round_number_cut k neg (digs n) e more m q) (digs (cutN m neg (qA n e more q) (qB e more q)), decide (lftN (qA n e more q) (qB e more q) ≠ 0)) := by
  refine Ev.congr (fun k => round_number_cut_eq k _ _ _ _ _ _) ?_
  rw [wrapI (x := q - e) (by omega) (by omega)]
  have lb : Lb (digs n) := by unfold Lb; omega
  by_cases c : 2 ≤ q - e
  · obtain ⟨t, ht⟩ : ∃ t : Nat, q - e - 2 = (t : Int) := ⟨(q - e - 2).toNat, by omega⟩
    refine Ev.pos (dT c) ?_
    rw [wrapI (x := q - e - 2) (by omega) (by omega), ht]
    have jm := Jam_ev (a := digs n) (WF.digs _) lb (n := t) (by omega)
    rw [val_digs] at jm
    refine Ev.bind jm ?_
    have hjl : (digs (jamN n t)).length ≤ 3001 := by
      have : jamN n t ≤ n + 1 := by
        have := Nat.div_le_self n (2 ^ t)
        unfold jamN; split <;> omega
      by_cases h0 : (digs n).length = 0
      · have : n = 0 := by
          rcases Nat.eq_zero_or_pos n with h | h
          · exact h
          · have := digs_len_pos.2 (show n ≠ 0 by omega); omega
        subst this
        have : jamN 0 t = 0 := by unfold jamN; simp
        rw [this, digs_zero]; simp
      · exact Nat.le_trans (digs_len_mono this) (Nat.le_trans (small_len (Nat.le_refl _) (by omega) (by omega)) (by omega))
    have ep : p2 (q - e) = 2 ^ t * 4 := by
      unfold p2
      rw [show (q - e).toNat = t + 2 by omega, Nat.pow_add]
    have ea : p2 (e - q) = 1 := p2_neg (by omega)
    have ht0 := Nat.two_pow_pos t
    cases more
    · have key := jam_lft (A := n) (B := 2 ^ t) ht0 (j := jamN n t) rfl
      have hR : (if jamN n t % 4 = 0 then 0 else jamN n t % 4) = jamN n t % 4 := by split <;> omega
      rw [hR] at key
      have := cut_j0 (j := jamN n t) (R := jamN n t % 4) (by omega) m neg false (digs n) e (by simp)
      refine Ev.eq this ?_
      have eA : qA n e false q = n := by unfold qA nuN; rw [if_neg (by simp), ea, Nat.mul_one]
      have eB : qB e false q = 2 ^ t * 4 := by unfold qB nuD; rw [if_neg (by simp), ep, Nat.one_mul]
      unfold cutN
      rw [eA, eB]
      unfold lftN at key ⊢
      rw [key, jam_div, Nat.div_div_eq_div_mul]
    · have hodd : (2 * n + 1) % (2 * 2 ^ t) ≠ 0 := by
        rw [Nat.mod_mul]; omega
      have hdiv : (2 * n + 1) / (2 * 2 ^ t) = n / 2 ^ t := sticky_half
      have key := jam_lft (A := 2 * n + 1) (B := 2 * 2 ^ t) (by omega) (j := n / 2 ^ t / 2 * 2 + 1) (by rw [if_neg hodd, hdiv])
      have hR : (if (n / 2 ^ t / 2 * 2 + 1) % 4 = 0 then 0 else (n / 2 ^ t / 2 * 2 + 1) % 4) = jamN n t % 4 / 2 * 2 + 1 := by
        unfold jamN; split <;> split <;> omega
      rw [hR] at key
      have := cut_j0 (j := jamN n t) (R := jamN n t % 4 / 2 * 2 + 1) (by omega) m neg true (digs n) e (by simp)
      refine Ev.eq this ?_
      have eA : qA n e true q = 2 * n + 1 := by unfold qA nuN; rw [if_pos rfl, ea, Nat.mul_one]
      have eB : qB e true q = 2 * 2 ^ t * 4 := by unfold qB nuD; rw [if_pos rfl, ep, Nat.mul_assoc]
      unfold cutN
      rw [eA, eB]
      unfold lftN at key ⊢
      rw [key, jam_div, ← Nat.div_div_eq_div_mul (2 * n + 1), hdiv]
  · obtain ⟨rfl, h1, h2⟩ : more = false ∧ -60 ≤ q - e ∧ (digs n).length ≤ 1000 := by
      rcases hsh with h | h
      · exact absurd h c
      · exact h
    obtain ⟨s, hs⟩ : ∃ s : Nat, 2 - (q - e) = (s : Int) := ⟨(2 - (q - e)).toNat, by omega⟩
    refine Ev.neg (dF c) ?_
    rw [wrapI (x := 2 - (q - e)) (by omega) (by omega), hs]
    have hjl := shl_len_ (n := s) h2
    have sh := Shl_ev (a := digs n) (WF.digs _) lb (n := s) (by omega) (by rw [val_digs]; omega) (by rw [val_digs]; omega)
    rw [val_digs] at sh
    refine Ev.bind sh ?_
    have := cut_j0 (j := n * 2 ^ s) (R := n * 2 ^ s % 4) (by omega) m neg false (digs n) e (by simp)
    refine Ev.eq this ?_
    have hcr : qA n e false q * 4 = n * 2 ^ s * qB e false q := by
      unfold qA qB nuN nuD
      rw [if_neg (by simp), if_neg (by simp), Nat.one_mul]
      have h4 : p2 (e - q) * 4 = 2 ^ s * p2 (q - e) := by
        unfold p2
        rw [show 4 = 2 ^ 2 from rfl, ← Nat.pow_add, ← Nat.pow_add]
        congr 1; omega
      rw [Nat.mul_assoc, h4, Nat.mul_assoc]
    rw [cutN_cross m neg (qB_pos e false q) (show 0 < 4 by decide) hcr, lftN_cross (qB_pos e false q) (show 0 < 4 by decide) hcr]
    have hlf : lftN (n * 2 ^ s) 4 = n * 2 ^ s % 4 := by
      unfold lftN lft
      have := Nat.mod_lt (n * 2 ^ s) (show 0 < 4 by decide)
      split <;> (try split) <;> (try split) <;> omega
    have hcu : cutN m neg (n * 2 ^ s) 4 = chs m neg (n * 2 ^ s / 4) (n * 2 ^ s % 4) := by
      unfold cutN
      unfold lftN at hlf
      rw [hlf]
    rw [hlf, hcu]
end Go.Proofs.YtmoeaeflljpboaaDoor.X
