/- Plain law: what the reference makes of a hexadecimal text. Conditions: the texts are short. -/
import Derived.Test.YtmoeaeflljpboaaDoorHxC
import Derived.Test.YtmoeaeflljpboaaDoorR3A
namespace Go.Proofs.YtmoeaeflljpboaaDoor.X
open Go Go.Rex
set_option linter.unusedVariables false

theorem hit15 : ∀ c : Fin 256, ∀ j : Fin 16, ((bt vernierref15_value.s0 (j.val : Int) == (c.val : Int)) || (decide ((c.val : Int) ≥ 65) && (decide ((c.val : Int) ≤ 70) && (bt vernierref15_value.s0 (j.val : Int) == IntKind.u8.wrap ((c.val : Int) + 32))))) = decide (hexD (c.val : Int) = (j.val : Int)) := by decide +kernel
theorem value_l0 {c : Int} (h0 : 0 ≤ c) (h1 : c < 256) (n : Nat) : ∀ i : Nat, i + n = 16 → (∀ j : Nat, j < i → hexD c ≠ (j : Int)) → Ev2 (fun k m => vernierref15_value.l0 k m c (i : Int)) (if 0 ≤ hexD c then hexD c else 16) := by
  have hlt := hexD_lt c
  induction n with
  | zero =>
    intro i hi hno
    have : ¬ 0 ≤ hexD c := fun g => hno (hexD c).toNat (by omega) (by omega)
    rw [if_neg this]
    exact Ev2.step (fun k m => vernierref15_value.l0_eq k m _ _) (Ev2.neg (dF (by omega)) (Ev2.some _))
  | succ n ih =>
    intro i hi hno
    have hh := hit15 ⟨c.toNat, by omega⟩ ⟨i, by omega⟩
    simp only at hh
    rw [show ((c.toNat : Nat) : Int) = c by omega] at hh
    have hs : vernierref15_value.s0.size = 16 := by decide
    have start : ∀ {r}, _ → Ev2 (fun k m => vernierref15_value.l0 k m c (i : Int)) r := fun z => Ev2.step (fun k m => vernierref15_value.l0_eq k m _ _) (Ev2.pos (dT (by omega)) (Ev2.pos ⟨by omega, by omega⟩ z))
    have w : IntKind.i64.wrap ((i : Int) + 1) = ((i + 1 : Nat) : Int) := by rw [wrapI (by omega) (by omega)]; omega
    have key : ∀ b : Bool, b = decide (hexD c = (i : Int)) → Ev2 (fun k m => vernierref15_value.j1 k m c (i : Int) b) (if 0 ≤ hexD c then hexD c else 16) := by
      intro b hb
      refine Ev2.congr (fun k m => vernierref15_value.j1_eq k m _ _ _) ?_
      by_cases e : hexD c = (i : Int)
      · rw [hb, decide_eq_true e, if_pos (by omega), e]
        exact Ev2.pos rfl (Ev2.eq (Ev2.some _) (wrapUn (by omega)))
      · rw [hb, decide_eq_false e, w]
        exact Ev2.neg (by simp) (ih (i + 1) (by omega) (fun j hj => by
          rcases Nat.lt_or_ge j i with g | g
          · exact hno j g
          · rw [show j = i by omega]; exact e))
    by_cases c1 : bt vernierref15_value.s0 (i : Int) = c
    · refine start (Ev2.pos (bT c1) (key true ?_))
      rw [← hh, beq_iff_eq.2 c1, Bool.true_or]
    · rw [beq_eq_false_iff_ne.2 c1, Bool.false_or] at hh
      refine start (Ev2.neg (bF c1) ?_)
      by_cases c2 : c ≥ 65
      · rw [decide_eq_true c2, Bool.true_and] at hh
        refine Ev2.pos (dT c2) ?_
        by_cases c3 : c ≤ 70
        · rw [decide_eq_true c3, Bool.true_and] at hh
          exact Ev2.pos (dT c3) (Ev2.pos ⟨by omega, by omega⟩ (key _ hh))
        · rw [decide_eq_false c3, Bool.false_and] at hh
          exact Ev2.neg (dF c3) (key false hh)
      · rw [decide_eq_false c2, Bool.false_and] at hh
        exact Ev2.neg (dF c2) (key false hh)
theorem value_ev {c : Int} (h0 : 0 ≤ c) (h1 : c < 256) : Ev (fun k => vernierref15_value k c) (if 0 ≤ hexD c then hexD c else 16) :=
  Ev.congr (fun k => vernierref15_value_eq k c) (value_l0 h0 h1 16 0 rfl (fun j hj => by omega)).ev
theorem u8_sub {c : Int} (h : 48 ≤ c ∧ c ≤ 57) : IntKind.u8.wrap (c - 48) = c - 48 := by
  obtain ⟨d, hd⟩ := Int.eq_ofNat_of_zero_le (show 0 ≤ c - 48 by omega)
  rw [hd]
  simp [IntKind.wrap, IntKind.signed, IntKind.bits]
  omega
theorem min10r {x : Nat} {c : Int} (hx : x ≤ 30000) (h : 48 ≤ c ∧ c ≤ 57) : mnI (IntKind.i64.wrap ((IntKind.i64.wrap (10 * (x : Int))) + (IntKind.i64.wrap (IntKind.u8.wrap (c - 48))))) 30000 = ((min (10 * x + (c - 48).toNat) 30000 : Nat) : Int) := by
  rw [u8_sub h, wrapI (x := c - 48) (by omega) (by omega), wrapI (x := 10 * (x : Int)) (by omega) (by omega), wrapI (by omega) (by omega)]
  unfold mnI
  split <;> omega
theorem rexp_l1 {s : ByteArray} (hs : s.size ≤ 100000) (neg : Bool) (n : Nat) : ∀ (i x : Nat), i + n = s.size → x ≤ 30000 →
    Ev2 (fun k m => vernierref15_exponent.l1 k m s neg (x : Int) (i : Int)) (match xvF 30000 ((bl s).drop i) x with | some v => (if neg then -(v : Int) else (v : Int), true) | none => (0, false)) := by
  have l1 := bl_length s
  induction n with
  | zero =>
    intro i x hi hx
    rw [List.drop_of_length_le (by omega), xvF]
    refine Ev2.step (fun k m => vernierref15_exponent.l1_eq k m _ _ _ _) (Ev2.neg (dF (by omega)) ?_)
    cases neg with
    | false => exact Ev2.neg (by simp) (Ev2.some _)
    | true => exact Ev2.pos rfl (Ev2.eq (Ev2.some _) (by rw [wrapI (by omega) (by omega)]; simp))
  | succ n ih =>
    intro i x hi hx
    rw [drop_cons (l := bl s) (by omega), xvF]
    refine Ev2.step (fun k m => vernierref15_exponent.l1_eq k m _ _ _ _) (Ev2.pos (dT (by omega)) (Ev2.pos ⟨by omega, by omega⟩ ?_))
    rw [bt_bl, Int.toNat_natCast]
    by_cases d : 48 ≤ (bl s).getD i 0 ∧ (bl s).getD i 0 ≤ 57
    · rw [if_pos d, min10r hx d, show IntKind.i64.wrap ((i : Int) + 1) = ((i + 1 : Nat) : Int) by rw [wrapI (by omega) (by omega)]; omega]
      exact Ev2.neg (dF (by omega)) (Ev2.pos ⟨by omega, by omega⟩ (Ev2.neg (dF (by omega)) (Ev2.pos ⟨by omega, by omega⟩ (ih (i + 1) _ (by omega) (Nat.min_le_right _ _)))))
    · rw [if_neg d]
      by_cases d1 : (bl s).getD i 0 < 48
      · exact Ev2.pos (dT d1) (Ev2.some _)
      · exact Ev2.neg (dF d1) (Ev2.pos ⟨by omega, by omega⟩ (Ev2.pos (dT (by omega)) (Ev2.some _)))
/-- What the reference answers of an exponent. -/
def expR (l : List Int) : Int × Bool := match expF 30000 l with | some v => (v, true) | none => (0, false)
theorem rexp_j0 {s : ByteArray} (hs : s.size ≤ 100000) {neg : Bool} {l : List Int} (h : sgnL l = (neg, bl s)) : Ev (fun k => vernierref15_exponent.j0 k s neg) (expR l) := by
  refine Ev.congr (fun k => vernierref15_exponent.j0_eq k s neg) ?_
  have l1 := bl_length s
  unfold expR expF
  rw [h]
  simp only
  by_cases c : bl s = []
  · rw [if_pos c]
    rw [c] at l1
    exact Ev.pos (bT (by simp at l1; omega)) (Ev.some _)
  · rw [if_neg c]
    have : s.size ≠ 0 := by
      intro z
      rw [z] at l1
      exact c (List.length_eq_zero_iff.1 l1)
    have g := (rexp_l1 hs neg s.size 0 0 (by omega) (by omega)).ev
    rw [List.drop_zero] at g
    refine Ev.neg (bF (by omega)) (Ev.eq g ?_)
    cases xvF 30000 (bl s) 0 <;> rfl
theorem head_of {s : ByteArray} (h : 0 < s.size) (c : Int) : (bt s 0 == c) = headIs (bl s) c := by
  rw [show (0 : Int) = ((0 : Nat) : Int) from rfl, bt_bl, Int.toNat_natCast]
  rw [← bl_length] at h
  cases hs : bl s with
  | nil => rw [hs] at h; cases h
  | cons a r => rfl
theorem rexponent_ev {s : ByteArray} (hs : s.size ≤ 100000) : Ev (fun k => vernierref15_exponent k s) (expR (bl s)) := by
  have e1 : ((1 : Int).toNat) = 1 := rfl
  by_cases c0 : 0 < s.size
  · have hsz : ∀ c, headIs (bl s) c = true → (s.extract 1 s.size).size ≤ 100000 := by
      intro c hc
      rw [← bl_length, sgn_size hc, List.length_drop, bl_length]; omega
    have start : ∀ {r}, _ → Ev (fun k => vernierref15_exponent k s) r := fun hh => Ev.congr (fun k => vernierref15_exponent_eq k s) (Ev.pos (dT (by omega)) (Ev.pos ⟨by omega, by omega⟩ hh))
    cases h2 : headIs (bl s) 43 with
    | true =>
      have h1 : headIs (bl s) 45 = false := by
        cases hb : bl s with
        | nil => rfl
        | cons a r =>
          rw [hb] at h2
          have : a = 43 := by simpa [headIs] using h2
          subst this; rfl
      have hz := headIs_size h2
      refine start (Ev.pos (by rw [head_of c0]; exact h2) (Ev.pos ⟨by omega, by omega⟩ (Ev.pos ⟨by omega, by omega⟩ ?_)))
      rw [head_of c0, h1]
      exact rexp_j0 (hsz 43 h2) (by rw [sgnL_plus h1 h2, sgn_size h2])
    | false =>
      refine start (Ev.neg (by rw [head_of c0, h2]; simp) (Ev.pos ⟨by omega, by omega⟩ ?_))
      cases h1 : headIs (bl s) 45 with
      | true =>
        have hz := headIs_size h1
        refine Ev.pos (by rw [head_of c0]; exact h1) (Ev.pos ⟨by omega, by omega⟩ (Ev.pos ⟨by omega, by omega⟩ ?_))
        rw [head_of c0, h1]
        exact rexp_j0 (hsz 45 h1) (by rw [sgnL_minus h1, sgn_size h1])
      | false => exact Ev.neg (by rw [head_of c0, h1]; simp) (rexp_j0 hs (sgnL_none h1 h2))
  · have hb : bl s = [] := List.length_eq_zero_iff.1 (by rw [bl_length]; omega)
    exact Ev.congr (fun k => vernierref15_exponent_eq k s) (Ev.neg (dF (by omega)) (rexp_j0 hs (by rw [hb]; rfl)))

theorem rPlus_one {n v : Nat} (hn : (d32 n).length ≤ 400000) (hv : v < 16) : Ev (fun k => vernierref03_Plus k (d32 n) [(v : Int)]) (d32 (n + v)) := by
  have hw : W32 [(v : Int)] := by intro x hx; simp at hx; subst hx; omega
  have := (rPlus_l0 (W32.d32 n) hw (by omega) (by simp) (max (d32 n).length [(v : Int)].length) 0 0 [] (by omega) (by omega) (by intro x hx; cases hx) rfl (by simp [v32])).ev
  rw [v32_d32, show v32 [(v : Int)] = v by simp [v32]] at this
  refine Ev.congr (fun k => vernierref03_Plus_eq k _ _) ?_
  have emx : mxI ((d32 n).length : Int) (([(v : Int)] : List Int).length : Int) = ((max (d32 n).length ([(v : Int)] : List Int).length : Nat) : Int) := by unfold mxI; split <;> omega
  have hm : max (d32 n).length ([(v : Int)] : List Int).length ≤ 400001 := by simp; omega
  rw [emx, succ_i _ (by omega), List.take_zero]
  exact Ev.pos ⟨by omega, by omega, by omega⟩ this
end Go.Proofs.YtmoeaeflljpboaaDoor.X
