/- Plain law: layer 5's Exact, Ratio and Parts answer the plain rounding. Conditions: format and mode are such; the words are words. -/
import Derived.Test.YtbaaggmicpigeaaDoorRoC
namespace Go.Proofs.YtbaaggmicpigeaaDoor.X
open Go Go.Rex
set_option linter.unusedVariables false

/-- A mode. -/
structure Md (m : Int) : Prop where
  m0 : 0 ≤ m
  m5 : m ≤ 5
theorem ev_some {α : Type} {x y : α} (h : x = y) : Ev (fun _ => some x) y := h ▸ Ev.some x
theorem modeErr_ev (m : Int) : Ev (fun k => round_modeError k m) (if 0 ≤ m ∧ m ≤ 5 then 0 else 3) := by
  refine Ev.congr (fun k => round_modeError_eq k _) ?_
  by_cases c1 : m < 0
  · rw [if_neg (show ¬ (0 ≤ m ∧ m ≤ 5) by omega)]; exact Ev.pos (dT c1) (Ev.some _)
  · by_cases c2 : m > 5
    · rw [if_neg (show ¬ (0 ≤ m ∧ m ≤ 5) by omega)]; exact Ev.neg (dF c1) (Ev.pos (dT c2) (Ev.some _))
    · rw [if_pos (show 0 ≤ m ∧ m ≤ 5 by omega)]; exact Ev.neg (dF c1) (Ev.neg (dF c2) (Ev.some _))
theorem params_bad {f : Int} (hf : f < 0 ∨ 4 ≤ f) : Ev (fun k => format_Params k f) ((0 : Int), ((0 : Int), ((0 : Int), ((0 : Int), (2 : Int))))) := by
  refine Ev.congr (fun k => format_Params_eq k _) ?_
  by_cases c1 : f < 0
  · exact Ev.pos (dT c1) (Ev.some _)
  · exact Ev.neg (dF c1) (Ev.pos (dT (by omega)) (Ev.some _))
theorem ref_bad {f : Int} (hf : f < 0 ∨ 4 ≤ f) (m : Int) : Ev (fun k => round_refuses k f m) ((0 : Int), ((0 : Int), ((0 : Int), ((0 : Int), (2 : Int))))) :=
  Ev.congr (fun k => round_refuses_eq k _ _) (Ev.bind (params_bad hf) (Ev.pos (nT (by decide)) (Ev.some _)))
section
variable {f : Int} {W P : Nat} {em ex : Int} (h : Fm f W P em ex)
include h
theorem ref_ok (m : Int) : Ev (fun k => round_refuses k f m) ((W : Int), ((P : Int), (em, (ex, (if 0 ≤ m ∧ m ≤ 5 then (0 : Int) else 3))))) :=
  Ev.congr (fun k => round_refuses_eq k _ _) (Ev.bind (ev_of fun k => params_at h k) (Ev.neg (nF rfl) (Ev.bind (modeErr_ev m) (Ev.some _))))
/-! ### Exact -/
/-- The answer for an exact number. -/
def exR (W P : Nat) (em m : Int) (neg : Bool) (a : List Int) (e : Int) : Int × Int × Int :=
  if badE a e ≠ 0 then (0, 0, badE a e)
  else if val a = 0 then (0, 0, 0)
  else if 40000 < e + (tz (val a) : Int) then (0, 0, 30)
  else ((rnOut W P m neg (rA (val a) e (em - (P : Int) + 1)) (rB 1 e (em - (P : Int) + 1))).1, (rnOut W P m neg (rA (val a) e (em - (P : Int) + 1)) (rB 1 e (em - (P : Int) + 1))).2, 0)
theorem into_odd {N : Nat} (hN : N ≠ 0) (hl : (digs N).length ≤ 1024) {e : Int} (he : -200000 ≤ e ∧ e ≤ 200000) (m : Int) (neg : Bool) : Ev (fun k => round_number_into k neg (digs (oddN N)) (e + (tz N : Int)) false f (W : Int) (P : Int) em ex m) (rnOut W P m neg (rA N e (em - (P : Int) + 1)) (rB 1 e (em - (P : Int) + 1))) := by
  have ho : (digs (oddN N)).length ≤ 1024 := Nat.le_trans (digs_len_mono (oddN_le _)) hl
  have hb := blen_len hl
  have ht := tz_blen hN
  refine Ev.eq (into_ev h (oddN_ne hN) (e := e + (tz N : Int)) (more := false) (by omega) (by omega) (by simp) m neg) ?_
  have hc := r_shift (A := oddN N) (B := 1) (A' := N) (B' := 1) (e := e + (tz N : Int)) (e' := e) (em - (P : Int) + 1) (tz N) rfl (by rw [oddN_mul hN])
  exact rnOut_cross W P m neg (rB_pos Nat.one_pos _ _) (rB_pos Nat.one_pos _ _) hc
theorem Exact_ev {m : Int} (hm : Md m) {a : List Int} (ha : WF a) (e : Int) (neg : Bool) : Ev (fun k => round_Exact k f m neg a e) (exR W P em m neg a e) := by
  have r0 := ref_ok h m
  rw [if_pos (show 0 ≤ m ∧ m ≤ 5 from ⟨hm.m0, hm.m5⟩)] at r0
  refine Ev.congr (fun k => round_Exact_eq k _ _ _ _ _) (Ev.bind r0 (Ev.neg (nF rfl) ?_))
  unfold exR
  by_cases cb : badE a e ≠ 0
  · rw [if_pos cb]
    exact Ev.bind (Canon_bad cb neg) (Ev.pos (nT cb) (Ev.some _))
  · rw [if_neg cb]
    have hb : a.length ≤ 1024 ∧ -40000 ≤ e ∧ e ≤ 40000 := by
      have cb' : badE a e = 0 := by omega
      unfold badE at cb'
      split at cb'
      · omega
      · split at cb' <;> omega
    obtain ⟨h1, h2, h3⟩ := hb
    by_cases c0 : val a = 0
    · rw [if_pos c0]
      exact Ev.bind (Canon_zero ha h1 ⟨h2, h3⟩ c0 neg) (Ev.neg (nF rfl) (Ev.pos (bT rfl) (Ev.some _)))
    · rw [if_neg c0]
      by_cases ct : 40000 < e + (tz (val a) : Int)
      · rw [if_pos ct]
        exact Ev.bind (Canon_exp ha h1 ⟨h2, h3⟩ c0 ct neg) (Ev.pos (nT (by decide)) (Ev.some _))
      · rw [if_neg ct]
        have hl : (digs (val a)).length ≤ 1024 := Nat.le_trans (digs_length_lt.2 (val_lt ha)) h1
        have hp := digs_len_pos.2 (oddN_ne c0)
        refine Ev.bind (Canon_ok ha h1 ⟨h2, h3⟩ c0 (by omega) neg) (Ev.neg (nF rfl) (Ev.neg (bF ?_) (Ev.bind (into_odd h c0 hl (by omega) m neg) (Ev.some _))))
        show ((digs (oddN (val a))).length : Int) ≠ 0
        omega
theorem zero_ev (neg : Bool) : Ev (fun k => round_zero k f neg) (((sgB neg W : Nat) : Int), ((0 : Int), (0 : Int))) :=
  Ev.congr (fun k => round_zero_eq k _ _) (Ev.bind (ev_of fun k => zero_at h k neg) (Ev.some _))
end
/-! ### quotient -/
theorem dbl_div (x : Nat) {den : Nat} (hd : den ≠ 0) : (den ≤ 2 * (x % den) → 2 * x / den = 2 * (x / den) + 1 ∧ 2 * x % den = 2 * (x % den) - den) ∧ (¬ (den ≤ 2 * (x % den)) → 2 * x / den = 2 * (x / den) ∧ 2 * x % den = 2 * (x % den)) := by
  have hm := Nat.mod_lt x (Nat.pos_of_ne_zero hd)
  have hx := Nat.div_add_mod x den
  have hp := Nat.pos_of_ne_zero hd
  generalize x / den = q at *
  generalize x % den = r at *
  subst hx
  constructor
  · intro c
    have e : 2 * (den * q + r) = den * (2 * q + 1) + (2 * r - den) := by rw [Nat.mul_add den, Nat.mul_left_comm den]; omega
    rw [e, Nat.mul_add_div hp, Nat.mul_add_mod, Nat.div_eq_of_lt (show 2 * r - den < den by omega), Nat.mod_eq_of_lt (show 2 * r - den < den by omega)]
    exact ⟨rfl, rfl⟩
  · intro c
    have e : 2 * (den * q + r) = den * (2 * q) + 2 * r := by rw [Nat.mul_left_comm den]; omega
    rw [e, Nat.mul_add_div hp, Nat.mul_add_mod, Nat.div_eq_of_lt (show 2 * r < den by omega), Nat.mod_eq_of_lt (show 2 * r < den by omega)]
    exact ⟨rfl, rfl⟩
theorem dbl_ev {n : Nat} (h : (digs n).length ≤ 5000) : Ev (fun k => nat_Add k (digs n) (digs n)) (digs (2 * n)) := by
  have := Add_ev (a := digs n) (b := digs n) (WF.digs _) (WF.digs _) (by unfold Lb; omega) (by unfold Lb; omega) (by rw [val_digs]; omega) (by rw [val_digs]; omega)
  rw [val_digs, show n + n = 2 * n by omega] at this; exact this
theorem dbl_len {n m : Nat} (h : (digs n).length ≤ m) : (digs (2 * n)).length ≤ m + 1 := by
  have := sum_len_ h h
  rw [show n + n = 2 * n by omega] at this; exact this
section
variable {num den D : Nat} (hd : den ≠ 0) (hn : num ≠ 0) (ld : (digs den).length ≤ 1024) (hD : 1 ≤ D) (hD2 : D ≤ 60)
include hd ld hD hD2
theorem quot_l0 {J : Nat} (hJ : J ≤ 70000) (hfin : D ≤ blen (num * 2 ^ J / den)) (d : Nat) : ∀ j : Nat, j + d = J → (digs (num * 2 ^ j / den)).length ≤ 1024 →
    ∃ (i : Nat), i ≤ J ∧ (digs (num * 2 ^ i / den)).length ≤ 1024 ∧ (num * 2 ^ i % den ≠ 0 → D ≤ blen (num * 2 ^ i / den)) ∧
      Ev2 (fun k n => round_quotient.l0 k n (digs den) (D : Int) (digs (num * 2 ^ j % den)) false 0 false false (digs (num * 2 ^ j / den)) (-(j : Int)) false) (false, (digs (num * 2 ^ i / den), (-(i : Int), decide (num * 2 ^ i % den ≠ 0)))) := by
  have out : ∀ j : Nat, (digs (num * 2 ^ j / den)).length ≤ 1024 → (D ≤ blen (num * 2 ^ j / den) ∨ num * 2 ^ j % den = 0) → Ev2 (fun k n => round_quotient.l0 k n (digs den) (D : Int) (digs (num * 2 ^ j % den)) false 0 false false (digs (num * 2 ^ j / den)) (-(j : Int)) false) (false, (digs (num * 2 ^ j / den), (-(j : Int), decide (num * 2 ^ j % den ≠ 0)))) := by
    intro j hl ho
    have le := Len_ev (a := digs (num * 2 ^ j / den)) (WF.digs _) (by unfold Lb; omega)
    rw [val_digs] at le
    refine Ev2.step (fun k n => round_quotient.l0_eq k n _ _ _ _ _ _ _ _ _ _) (Ev2.call le ?_)
    have er : decide (((digs (num * 2 ^ j % den)).length : Int) > 0) = decide (num * 2 ^ j % den ≠ 0) := by
      by_cases c : num * 2 ^ j % den = 0
      · rw [c, digs_zero]; rfl
      · have := digs_len_pos.2 c
        rw [decide_eq_true c, decide_eq_true (by omega)]
    rw [er]
    by_cases c : D ≤ blen (num * 2 ^ j / den)
    · exact Ev2.neg (dF (by omega)) (Ev2.some _)
    · refine Ev2.pos (dT (by omega)) ?_
      have hr : num * 2 ^ j % den = 0 := by omega
      rw [hr]
      exact Ev2.neg (by simp) (Ev2.some _)
  induction d with
  | zero =>
    intro j hj hl
    obtain rfl : j = J := by omega
    exact ⟨j, Nat.le_refl _, hl, fun _ => hfin, out j hl (.inl hfin)⟩
  | succ d ih =>
    intro j hj hl
    by_cases ho : D ≤ blen (num * 2 ^ j / den) ∨ num * 2 ^ j % den = 0
    · exact ⟨j, by omega, hl, fun g => by rcases ho with h | h; exact h; exact absurd h g, out j hl ho⟩
    · have hb : blen (num * 2 ^ j / den) < D := by omega
      have hr : num * 2 ^ j % den ≠ 0 := by omega
      have hrl := Nat.mod_lt (num * 2 ^ j) (Nat.pos_of_ne_zero hd)
      have hdm := Nat.div_add_mod (num * 2 ^ j) den
      have hsm : (digs (num * 2 ^ j / den)).length ≤ 1 := digs_length_lt.2 (by
        rw [Nat.pow_one]
        exact Nat.lt_of_lt_of_le (blen_lt _) (pow_mono2 (b := 64) (by omega)))
      have hnext : num * 2 ^ (j + 1) = 2 * (num * 2 ^ j) := by rw [Nat.pow_succ]; grind
      obtain ⟨dd1, dd2⟩ := dbl_div (num * 2 ^ j) hd
      have le := Len_ev (a := digs (num * 2 ^ j / den)) (WF.digs _) (by unfold Lb; omega)
      rw [val_digs] at le
      have rl : (digs (num * 2 ^ j % den)).length ≤ 1024 := Nat.le_trans (digs_len_mono (Nat.le_of_lt hrl)) ld
      have a1 := dbl_ev (n := num * 2 ^ j / den) (by omega)
      have a2 := dbl_ev (n := num * 2 ^ j % den) (by omega)
      have l1 := dbl_len hsm
      have l2 := dbl_len rl
      have cm := Cmp_ev (a := digs (2 * (num * 2 ^ j % den))) (b := digs den) (WF.digs _) (WF.digs _) (by unfold Lb; omega) (by unfold Lb; omega)
      rw [val_digs, val_digs] at cm
      have ej : IntKind.i64.wrap (-(j : Int) - 1) = -((j + 1 : Nat) : Int) := by rw [wrapI (by omega) (by omega)]; omega
      have hp := digs_len_pos.2 hr
      have ih' := ih (j + 1) (by omega)
      by_cases c : den ≤ 2 * (num * 2 ^ j % den)
      · obtain ⟨q1, q2⟩ := dd1 c
        rw [← hnext] at q1 q2
        rw [q1, q2] at ih'
        have l3 : (digs (2 * (num * 2 ^ j / den) + 1)).length ≤ 1024 := Nat.le_trans (small_len l1 (by decide) (by omega)) (by omega)
        obtain ⟨i, i1, i2, i3, i4⟩ := ih' l3
        refine ⟨i, i1, i2, i3, Ev2.step (fun k n => round_quotient.l0_eq k n _ _ _ _ _ _ _ _ _ _) (Ev2.call le (Ev2.pos (dT (by omega)) (Ev2.pos (dT (by omega)) (Ev2.congr (fun k n => round_quotient.j1_eq k n _ _ _ _ _ _ _ _ _ _) (Ev2.call a1 (Ev2.call a2 (Ev2.call cm ?_)))))))⟩
        have sb := Sub_ev (a := digs (2 * (num * 2 ^ j % den))) (b := digs den) (WF.digs _) (WF.digs _) (by unfold Lb; omega) (by unfold Lb; omega) (by rw [val_digs, val_digs]; exact c)
        rw [val_digs, val_digs] at sb
        refine Ev2.pos (dT (by unfold cmpN; rw [if_neg (by omega)]; split <;> decide)) (Ev2.call sb (Ev2.call (add1_ev (by omega)) ?_))
        rw [ej]
        exact i4
      · obtain ⟨q1, q2⟩ := dd2 c
        rw [← hnext] at q1 q2
        rw [q1, q2] at ih'
        obtain ⟨i, i1, i2, i3, i4⟩ := ih' (by omega)
        refine ⟨i, i1, i2, i3, Ev2.step (fun k n => round_quotient.l0_eq k n _ _ _ _ _ _ _ _ _ _) (Ev2.call le (Ev2.pos (dT (by omega)) (Ev2.pos (dT (by omega)) (Ev2.congr (fun k n => round_quotient.j1_eq k n _ _ _ _ _ _ _ _ _ _) (Ev2.call a1 (Ev2.call a2 (Ev2.call cm ?_)))))))⟩
        refine Ev2.neg (dF (by rw [cmpN, if_pos (by omega)]; decide)) ?_
        rw [ej]
        exact i4
include hn
theorem quot_ev (ln : (digs num).length ≤ 1024) : ∃ (i : Nat), i ≤ 70000 ∧ (digs (num * 2 ^ i / den)).length ≤ 1024 ∧ (num * 2 ^ i % den ≠ 0 → D ≤ blen (num * 2 ^ i / den)) ∧
      Ev (fun k => round_quotient k (digs num) (digs den) (D : Int)) (false, (digs (num * 2 ^ i / den), (-(i : Int), decide (num * 2 ^ i % den ≠ 0)))) := by
  have l1 := Len_ev (a := digs den) (WF.digs _) (by unfold Lb; omega)
  have l2 := Len_ev (a := digs num) (WF.digs _) (by unfold Lb; omega)
  rw [val_digs] at l1 l2
  have b1 := blen_len ld
  have b2 := blen_len ln
  have g1 := blen_le hn
  have g2 := blen_lt den
  have g3 := blen_pos hn
  -- the shift
  obtain ⟨s, hs⟩ : ∃ s : Nat, s = blen den - blen num - 1 := ⟨_, rfl⟩
  have es : mxI 0 (IntKind.i64.wrap ((IntKind.i64.wrap ((blen den : Int) - (blen num : Int))) - 1)) = (s : Int) := by
    rw [wrapI (x := (blen den : Int) - (blen num : Int)) (by omega) (by omega), wrapI (by omega) (by omega)]
    unfold mxI; split <;> omega
  have hsl : (digs (num * 2 ^ s)).length ≤ 1024 := by
    by_cases c : s = 0
    · rw [c, Nat.pow_zero, Nat.mul_one]; exact ln
    · have : num * 2 ^ s ≤ den := by
        have h1 := blen_lt num
        have h2 := blen_le hd
        refine Nat.le_trans (Nat.le_of_lt (Nat.mul_lt_mul_of_pos_right h1 (Nat.two_pow_pos s))) ?_
        rw [← Nat.pow_add]
        exact Nat.le_trans (Nat.pow_le_pow_right (by decide) (by omega)) h2
      exact Nat.le_trans (digs_len_mono this) ld
  have sh := Shl_ev (a := digs num) (WF.digs _) (by unfold Lb; omega) (n := s) (by omega) (by rw [val_digs]; omega) (by rw [val_digs]; omega)
  rw [val_digs] at sh
  have dm := DivMod_ev (a := digs (num * 2 ^ s)) (b := digs den) (WF.digs _) (WF.digs _) (by unfold Lb; omega) (by unfold Lb; omega) (by rw [val_digs]; omega) (by rw [val_digs]; omega) (by rw [val_digs]; exact hd)
  rw [val_digs, val_digs] at dm
  have hfin : D ≤ blen (num * 2 ^ (s + D + 2) / den) := by
    have : 2 ^ (D - 1) ≤ num * 2 ^ (s + D + 2) / den := by
      rw [Nat.le_div_iff_mul_le (Nat.pos_of_ne_zero hd)]
      refine Nat.le_trans (Nat.mul_le_mul_left _ (Nat.le_of_lt g2)) ?_
      rw [← Nat.pow_add]
      refine Nat.le_trans ?_ (Nat.mul_le_mul_right _ g1)
      rw [← Nat.pow_add]
      exact Nat.pow_le_pow_right (by decide) (by omega)
    have h2 := blen_lt (num * 2 ^ (s + D + 2) / den)
    have := pow_lt_iff (Nat.lt_of_le_of_lt this h2)
    omega
  obtain ⟨i, i1, i2, i3, i4⟩ := quot_l0 hd ld hD hD2 (J := s + D + 2) (by omega) hfin (D + 2) s (by omega) (Nat.le_trans (digs_len_mono (Nat.div_le_self _ _)) hsl)
  refine ⟨i, by omega, i2, i3, Ev.congr (fun k => round_quotient_eq k _ _ _) (Ev.bind l1 (Ev.bind l2 ?_))⟩
  rw [es]
  refine Ev.bind sh (Ev.bind dm ?_)
  rw [wrapI (x := 0 - (s : Int)) (by omega) (by omega), Int.zero_sub]
  exact i4.ev
end
/-- The answer for a quotient. -/
def raR (W P : Nat) (em m : Int) (neg : Bool) (num den : Nat) (e : Int) : Int × Int × Int :=
  if 1024 < (digs num).length + (digs den).length then (0, 0, 5)
  else if e < -40000 ∨ 40000 < e then (0, 0, 30)
  else if den = 0 then (0, 0, 10)
  else if num = 0 then (((sgB neg W : Nat) : Int), 0, 0)
  else ((rnOut W P m neg (rA num e (em - (P : Int) + 1)) (rB den e (em - (P : Int) + 1))).1, (rnOut W P m neg (rA num e (em - (P : Int) + 1)) (rB den e (em - (P : Int) + 1))).2, 0)
section
variable {f : Int} {W P : Nat} {em ex : Int} (h : Fm f W P em ex)
include h
theorem Ratio_ev {m : Int} (hm : Md m) {a b : List Int} (ha : WF a) (hb : WF b) (la : Lb a) (lb : Lb b) (e : Int) (neg : Bool) : Ev (fun k => round_Ratio k f m neg a b e) (raR W P em m neg (val a) (val b) e) := by
  have r0 := ref_ok h m
  have h5 := h.p53
  have h8 := h.p8
  have la' := la.ofv ha
  have lb' := lb.ofv hb
  unfold Lb at la' lb'
  rw [if_pos (show 0 ≤ m ∧ m ≤ 5 from ⟨hm.m0, hm.m5⟩)] at r0
  refine Ev.congr (fun k => round_Ratio_eq k _ _ _ _ _ _) (Ev.bind r0 (Ev.neg (nF rfl) (Ev.bind (Trim_ev ha la) (Ev.bind (Trim_ev hb lb) ?_))))
  generalize val a = num at *
  generalize val b = den at *
  rw [add_i _ _ (by omega)]
  unfold raR
  by_cases c1 : 1024 < (digs num).length + (digs den).length
  · rw [if_pos c1]; exact Ev.pos (dT (by omega)) (Ev.some _)
  · rw [if_neg c1]
    refine Ev.neg (dF (by omega)) ?_
    by_cases ce : e < -40000 ∨ 40000 < e
    · rw [if_pos ce]
      rcases ce with c | c
      · exact Ev.pos (dT c) (Ev.congr (fun k => round_Ratio.j0_eq k _ _ _ _ _ _ _ _ _ _ _) (Ev.pos rfl (Ev.some _)))
      · refine Ev.neg (dF (by omega)) ?_
        rw [decide_eq_true (show e > 40000 from c)]
        exact Ev.congr (fun k => round_Ratio.j0_eq k _ _ _ _ _ _ _ _ _ _ _) (Ev.pos rfl (Ev.some _))
    · rw [if_neg ce]
      refine Ev.neg (dF (by omega)) ?_
      rw [decide_eq_false (show ¬ (e > 40000) by omega)]
      refine Ev.congr (fun k => round_Ratio.j0_eq k _ _ _ _ _ _ _ _ _ _ _) (Ev.neg (by simp) ?_)
      by_cases c2 : den = 0
      · rw [if_pos c2]; exact Ev.pos (bT (by rw [c2, digs_zero]; rfl)) (Ev.some _)
      · have p2' := digs_len_pos.2 c2
        rw [if_neg c2]
        refine Ev.neg (bF (by omega)) ?_
        by_cases c3 : num = 0
        · rw [if_pos c3]; exact Ev.pos (bT (by rw [c3, digs_zero]; rfl)) (Ev.bind (zero_ev h neg) (Ev.some _))
        · have p3 := digs_len_pos.2 c3
          rw [if_neg c3]
          refine Ev.neg (bF (by omega)) (Ev.congr (fun k => round_Ratio.j1_eq k _ _ _ _ _ _ _ _ _ _) ?_)
          obtain ⟨i, i1, i2, i3, i4⟩ := quot_ev (D := P + 3) c2 c3 (by omega) (by omega) (by omega) (by omega)
          have e1 : IntKind.i64.wrap ((P : Int) + 3) = ((P + 3 : Nat) : Int) := by rw [wrapI (by omega) (by omega)]; omega
          rw [e1]
          refine Ev.bind i4 ?_
          have e2 : IntKind.i64.wrap (-(i : Int) + e) = e - (i : Int) := by rw [wrapI (by omega) (by omega)]; omega
          rw [e2]
          have hdm := Nat.div_add_mod (num * 2 ^ i) den
          have hcr := r_shift (A := num) (B := den) (A' := num * 2 ^ i) (B' := den) (e := e) (e' := e - (i : Int)) (em - (P : Int) + 1) i (by omega) rfl
          have b1 := rB_pos (Nat.pos_of_ne_zero c2) e (em - (P : Int) + 1)
          have b2 := rB_pos (Nat.pos_of_ne_zero c2) (e - (i : Int)) (em - (P : Int) + 1)
          rw [rnOut_cross W P m neg b1 b2 hcr]
          by_cases cr : num * 2 ^ i % den = 0
          · have hq0 : num * 2 ^ i / den ≠ 0 := by
              intro g
              rw [g, cr] at hdm
              have := Nat.mul_pos (Nat.pos_of_ne_zero c3) (Nat.two_pow_pos i)
              omega
            have io := into_ev h hq0 (e := e - (i : Int)) (more := false) (by omega) (by omega) (by simp) m neg
            have hc2 : rA (num * 2 ^ i) (e - (i : Int)) (em - (P : Int) + 1) * qB (e - (i : Int)) false (em - (P : Int) + 1) = qA (num * 2 ^ i / den) (e - (i : Int)) false (em - (P : Int) + 1) * rB den (e - (i : Int)) (em - (P : Int) + 1) := by
              rw [cr, Nat.add_zero] at hdm
              unfold rA rB qA qB nuN nuD
              rw [if_neg (by simp), if_neg (by simp), ← hdm]
              rw [show den * (num * 2 ^ i / den) / den = num * 2 ^ i / den from Nat.mul_div_cancel_left _ (Nat.pos_of_ne_zero c2)]
              grind
            rw [rnOut_cross W P m neg b2 (qB_pos _ _ _) hc2, cr]
            exact Ev.bind io (Ev.some _)
          · have hb3 := i3 cr
            rw [rnOut_sticky W (by omega) m neg (Nat.pos_of_ne_zero c2) cr (by omega), decide_eq_true cr]
            have hq0 : num * 2 ^ i / den ≠ 0 := by rintro g; rw [g, blen_zero] at hb3; omega
            exact Ev.bind (into_ev h hq0 (e := e - (i : Int)) (more := true) (by omega) (by omega) (fun _ => by omega) m neg) (Ev.some _)
end
end Go.Proofs.YtbaaggmicpigeaaDoor.X
