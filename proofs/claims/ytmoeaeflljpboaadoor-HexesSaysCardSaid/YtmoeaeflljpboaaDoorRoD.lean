/- Plain law: layer 5's Exact, Ratio and Parts answer the plain rounding. Conditions: format and mode are such; the words are words. -/
import Derived.Test.YtmoeaeflljpboaaDoorRoC
namespace Go.Proofs.YtmoeaeflljpboaaDoor.X
open Go Go.Rex
set_option linter.unusedVariables false

/-- A mode. -/
structure Md (m : Int) : Prop where
  m0 : 0 ≤ m
  m5 : m ≤ 5
theorem ev_some {α : Type} {x y : α} (h : x = y) : Ev (fun _ => some x) y := h ▸ Ev.some x
theorem modeErr_ev (m : Int) : Ev (fun k => round_modeError k m) (if 0 ≤ m ∧ m ≤ 5 then 0 else 3) := by
  refine Ev.congr (fun k => round_modeError_eq k _) ?_
  by_cases c1 : m < 0
  · rw [if_neg (show ¬ (0 ≤ m ∧ m ≤ 5) by omega)]; exact Ev.pos (dT c1) (Ev.some _)
  · by_cases c2 : m > 5
    · rw [if_neg (show ¬ (0 ≤ m ∧ m ≤ 5) by omega)]; exact Ev.neg (dF c1) (Ev.pos (dT c2) (Ev.some _))
    · rw [if_pos (show 0 ≤ m ∧ m ≤ 5 by omega)]; exact Ev.neg (dF c1) (Ev.neg (dF c2) (Ev.some _))
theorem params_bad {f : Int} (hf : f < 0 ∨ 4 ≤ f) : Ev (fun k => format_Params k f) ((0 : Int), ((0 : Int), ((0 : Int), ((0 : Int), (2 : Int))))) := by
  refine Ev.congr (fun k => format_Params_eq k _) ?_
  by_cases c1 : f < 0
  · exact Ev.pos (dT c1) (Ev.some _)
  · exact Ev.neg (dF c1) (Ev.pos (dT (by omega)) (Ev.some _))
theorem ref_bad {f : Int} (hf : f < 0 ∨ 4 ≤ f) (m : Int) : Ev (fun k => round_refuses k f m) ((0 : Int), ((0 : Int), ((0 : Int), ((0 : Int), (2 : Int))))) :=
  Ev.congr (fun k => round_refuses_eq k _ _) (Ev.bind (params_bad hf) (Ev.pos (nT (by decide)) (Ev.some _)))
section
variable {f : Int} {W P : Nat} {em ex : Int} (h : Fm f W P em ex)
include h
theorem ref_ok (m : Int) : Ev (fun k => round_refuses k f m) ((W : Int), ((P : Int), (em, (ex, (if 0 ≤ m ∧ m ≤ 5 then (0 : Int) else 3))))) :=
  Ev.congr (fun k => round_refuses_eq k _ _) (Ev.bind (ev_of fun k => params_at h k) (Ev.neg (nF rfl) (Ev.bind (modeErr_ev m) (Ev.some _))))
/-! ### Exact -/
/-- The answer for an exact number. -/
def exR (W P : Nat) (em m : Int) (neg : Bool) (a : List Int) (e : Int) : Int × Int × Int :=
  if badE a e ≠ 0 then (0, 0, badE a e)
  else if val a = 0 then (0, 0, 0)
  else if 40000 < e + (tz (val a) : Int) then (0, 0, 30)
  else ((rnOut W P m neg (rA (val a) e (em - (P : Int) + 1)) (rB 1 e (em - (P : Int) + 1))).1, (rnOut W P m neg (rA (val a) e (em - (P : Int) + 1)) (rB 1 e (em - (P : Int) + 1))).2, 0)
theorem into_odd {N : Nat} (hN : N ≠ 0) (hl : (digs N).length ≤ 1024) {e : Int} (he : -200000 ≤ e ∧ e ≤ 200000) (m : Int) (neg : Bool) : Ev (fun k => round_number_into k neg (digs (oddN N)) (e + (tz N : Int)) false f (W : Int) (P : Int) em ex m) (rnOut W P m neg (rA N e (em - (P : Int) + 1)) (rB 1 e (em - (P : Int) + 1))) := by
  have ho : (digs (oddN N)).length ≤ 1024 := Nat.le_trans (digs_len_mono (oddN_le _)) hl
  have hb := blen_len hl
  have ht := tz_blen hN
  refine Ev.eq (into_ev h (oddN_ne hN) (e := e + (tz N : Int)) (more := false) (by omega) (by omega) (by simp) m neg) ?_
  have hc := r_shift (A := oddN N) (B := 1) (A' := N) (B' := 1) (e := e + (tz N : Int)) (e' := e) (em - (P : Int) + 1) (tz N) rfl (by rw [oddN_mul hN])
  exact rnOut_cross W P m neg (rB_pos Nat.one_pos _ _) (rB_pos Nat.one_pos _ _) hc
theorem Exact_ev {m : Int} (hm : Md m) {a : List Int} (ha : WF a) (e : Int) (neg : Bool) : Ev (fun k => round_Exact k f m neg a e) (exR W P em m neg a e) := by
  have r0 := ref_ok h m
  rw [if_pos (show 0 ≤ m ∧ m ≤ 5 from ⟨hm.m0, hm.m5⟩)] at r0
  refine Ev.congr (fun k => round_Exact_eq k _ _ _ _ _) (Ev.bind r0 (Ev.neg (nF rfl) ?_))
  unfold exR
  by_cases cb : badE a e ≠ 0
  · rw [if_pos cb]
    exact Ev.bind (Canon_bad cb neg) (Ev.pos (nT cb) (Ev.some _))
  · rw [if_neg cb]
    have hb : a.length ≤ 1024 ∧ -40000 ≤ e ∧ e ≤ 40000 := by
      have cb' : badE a e = 0 := by omega
      unfold badE at cb'
      split at cb'
      · omega
      · split at cb' <;> omega
    obtain ⟨h1, h2, h3⟩ := hb
    by_cases c0 : val a = 0
    · rw [if_pos c0]
      exact Ev.bind (Canon_zero ha h1 ⟨h2, h3⟩ c0 neg) (Ev.neg (nF rfl) (Ev.pos (bT rfl) (Ev.some _)))
    · rw [if_neg c0]
      by_cases ct : 40000 < e + (tz (val a) : Int)
      · rw [if_pos ct]
        exact Ev.bind (Canon_exp ha h1 ⟨h2, h3⟩ c0 ct neg) (Ev.pos (nT (by decide)) (Ev.some _))
      · rw [if_neg ct]
        have hl : (digs (val a)).length ≤ 1024 := Nat.le_trans (digs_length_lt.2 (val_lt ha)) h1
        have hp := digs_len_pos.2 (oddN_ne c0)
        refine Ev.bind (Canon_ok ha h1 ⟨h2, h3⟩ c0 (by omega) neg) (Ev.neg (nF rfl) (Ev.neg (bF ?_) (Ev.bind (into_odd h c0 hl (by omega) m neg) (Ev.some _))))
        show ((digs (oddN (val a))).length : Int) ≠ 0
        omega
theorem zero_ev (neg : Bool) : Ev (fun k => round_zero k f neg) (((sgB neg W : Nat) : Int), ((0 : Int), (0 : Int))) :=
  Ev.congr (fun k => round_zero_eq k _ _) (Ev.bind (ev_of fun k => zero_at h k neg) (Ev.some _))
/-! ### Parts -/
/-- The answer for a significand. -/
def paR (W P : Nat) (em m : Int) (neg : Bool) (n : Nat) (e : Int) (more : Bool) : Int × Int × Int :=
  if e < -40000 ∨ 40000 < e then (0, 0, 30)
  else if more = true ∧ blen n < P + 2 then (0, 0, 7)
  else if n = 0 then (((sgB neg W : Nat) : Int), 0, 0)
  else ((rnOut W P m neg (qA n e more (em - (P : Int) + 1)) (qB e more (em - (P : Int) + 1))).1, (rnOut W P m neg (qA n e more (em - (P : Int) + 1)) (qB e more (em - (P : Int) + 1))).2, 0)
theorem Parts_ev {m : Int} (hm : Md m) {hi lo : Nat} (hhi : hi < 18446744073709551616) (hlo : lo < 18446744073709551616) (e : Int) (neg more : Bool) : Ev (fun k => round_Parts k f m neg (hi : Int) (lo : Int) e more) (paR W P em m neg (lo + 18446744073709551616 * hi) e more) := by
  have r0 := ref_ok h m
  have h5 := h.p53
  rw [if_pos (show 0 ≤ m ∧ m ≤ 5 from ⟨hm.m0, hm.m5⟩)] at r0
  have w2 : WF (((List.replicate 2 (0 : Int)).set 0 (lo : Int)).set 1 (hi : Int)) := WF.cons (by omega) (by omega) (WF.cons (by omega) (by omega) WF.nil)
  have ev2 : val (((List.replicate 2 (0 : Int)).set 0 (lo : Int)).set 1 (hi : Int)) = lo + 18446744073709551616 * hi := by
    show (lo : Int).toNat + 18446744073709551616 * ((hi : Int).toNat + 18446744073709551616 * 0) = _
    rw [Int.toNat_natCast, Int.toNat_natCast]; omega
  have tr := Trim_ev w2 (by unfold Lb; simp)
  rw [ev2] at tr
  have hl : (digs (lo + 18446744073709551616 * hi)).length ≤ 2 := digs_length_lt.2 (by omega)
  generalize lo + 18446744073709551616 * hi = n at *
  refine Ev.congr (fun k => round_Parts_eq k _ _ _ _ _ _ _) (Ev.bind r0 (Ev.neg (nF rfl) (Ev.bind tr ?_)))
  have le := Len_ev (a := digs n) (WF.digs _) (by unfold Lb; omega)
  rw [val_digs] at le
  unfold paR
  have e1 : IntKind.i64.wrap ((P : Int) + 2) = (P : Int) + 2 := wrapI (by omega) (by omega)
  by_cases ce : e < -40000 ∨ 40000 < e
  · rw [if_pos ce]
    rcases ce with c | c
    · exact Ev.pos (dT c) (Ev.congr (fun k => round_Parts.j0_eq k _ _ _ _ _ _ _ _ _ _ _ _ _) (Ev.pos rfl (Ev.some _)))
    · refine Ev.neg (dF (by omega)) ?_
      rw [decide_eq_true (show e > 40000 from c)]
      exact Ev.congr (fun k => round_Parts.j0_eq k _ _ _ _ _ _ _ _ _ _ _ _ _) (Ev.pos rfl (Ev.some _))
  · rw [if_neg ce]
    refine Ev.neg (dF (by omega)) ?_
    rw [decide_eq_false (show ¬ (e > 40000) by omega)]
    refine Ev.congr (fun k => round_Parts.j0_eq k _ _ _ _ _ _ _ _ _ _ _ _ _) (Ev.neg (by simp) ?_)
    have j1 : ¬ (more = true ∧ blen n < P + 2) → n ≠ 0 → Ev (fun k => round_Parts.j1 k f m (W : Int) (P : Int) em ex (digs n) neg e more) ((rnOut W P m neg (qA n e more (em - (P : Int) + 1)) (qB e more (em - (P : Int) + 1))).1, ((rnOut W P m neg (qA n e more (em - (P : Int) + 1)) (qB e more (em - (P : Int) + 1))).2, (0 : Int))) := by
      intro g1 g2
      refine Ev.congr (fun k => round_Parts.j1_eq k _ _ _ _ _ _ _ _ _ _) (Ev.bind (into_ev h g2 (e := e) (more := more) (by omega) (by omega) (fun g => ?_) m neg) (Ev.some _))
      subst g
      have : ¬ (blen n < P + 2) := fun g => g1 ⟨rfl, g⟩
      omega
    have tail : ¬ (more = true ∧ blen n < P + 2) → Ev (fun k => (if ((digs n).length : Int) == 0 then ((round_zero k f neg)).bind fun o4 => some (o4.1, (o4.2.1, o4.2.2)) else round_Parts.j1 k f m (W : Int) (P : Int) em ex (digs n) neg e more)) (if n = 0 then (((sgB neg W : Nat) : Int), ((0 : Int), (0 : Int))) else ((rnOut W P m neg (qA n e more (em - (P : Int) + 1)) (qB e more (em - (P : Int) + 1))).1, (rnOut W P m neg (qA n e more (em - (P : Int) + 1)) (qB e more (em - (P : Int) + 1))).2, (0 : Int))) := by
      intro g
      by_cases c0 : n = 0
      · rw [if_pos c0]
        exact Ev.pos (bT (by rw [c0, digs_zero]; rfl)) (Ev.bind (zero_ev h neg) (Ev.some _))
      · have hp := digs_len_pos.2 c0
        rw [if_neg c0]
        exact Ev.neg (bF (by omega)) (j1 g c0)
    cases more
    · rw [if_neg (show ¬ (false = true ∧ blen n < P + 2) by simp)]
      exact Ev.neg (by simp) (tail (by simp))
    · refine Ev.pos rfl (Ev.bind le ?_)
      rw [e1]
      by_cases cl : blen n < P + 2
      · rw [if_pos (show true = true ∧ blen n < P + 2 from ⟨rfl, cl⟩)]
        exact Ev.pos (dT (by omega)) (Ev.some _)
      · rw [if_neg (show ¬ (true = true ∧ blen n < P + 2) from fun g => cl g.2)]
        exact Ev.neg (dF (by omega)) (tail (fun g => cl g.2))
end
end Go.Proofs.YtmoeaeflljpboaaDoor.X
