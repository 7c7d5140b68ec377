/- Plain law: layer 12's three calls and the reference's own answer alike, for every format, mode, kind, pattern; then every script. -/
import Derived.Test.YtldjheckpophaaaDoorR6A
import Derived.Test.YtldjheckpophaaaDoorWhC
namespace Go.Proofs.YtldjheckpophaaaDoor.X
open Go Go.Rex
set_option linter.unusedVariables false

theorem big12 {N q u A : Nat} (hN : N < 2 ^ 53) (hq : q ≤ A) (hu : u ≤ N * 2 ^ q + 1) : ∃ p, p = 53 + A + 1 ∧ u < 2 ^ p := by
  refine ⟨_, rfl, ?_⟩
  have g5 : N * 2 ^ q < 2 ^ 53 * 2 ^ A := Nat.lt_of_le_of_lt (Nat.mul_le_mul_left _ (pow_mono2 hq)) ((Nat.mul_lt_mul_right (Nat.two_pow_pos _)).2 hN)
  rw [← Nat.pow_add] at g5
  rw [Nat.pow_succ]
  generalize 2 ^ (53 + A) = X at *
  omega
theorem prm_bad {f : Int} (h : ¬ (0 ≤ f ∧ f < 4)) (k : Nat) : format_Params k f = some (0, (0, (0, (0, 2)))) := by
  rw [format_Params_eq]
  by_cases c : f < 0
  · rw [if_pos (dT c)]
  · rw [if_neg (dF c), if_pos (dT (by omega))]
theorem prm06_bad {f : Int} (h : ¬ (0 ≤ f ∧ f < 4)) (k : Nat) : vernierref06_Params k f = some (0, (0, 0)) := by
  rw [vernierref06_Params_eq, if_neg (bF (by omega)), if_neg (bF (by omega)), if_neg (bF (by omega)), if_neg (bF (by omega))]
/-- What both sides refuse ahead of all. -/
def ref12 (f m : Int) : Int := if 0 ≤ f ∧ f < 4 then (if 0 ≤ m ∧ m ≤ 5 then 0 else 3) else 2
theorem refuses12 (f m : Int) : Ev (fun k => whole_refuses k f m) (ref12 f m) := by
  refine Ev.congr (fun k => whole_refuses_eq k _ _) ?_
  unfold ref12
  by_cases hf : 0 ≤ f ∧ f < 4
  · obtain ⟨W, P, em, ex, h⟩ := fm_of hf.1 hf.2
    rw [if_pos hf]
    refine Ev.bind (Ev.of fun k => params_at h k) (Ev.neg (nF rfl) ?_)
    by_cases c : m < 0
    · rw [if_neg (show ¬ (0 ≤ m ∧ m ≤ 5) by omega)]; exact Ev.pos (dT c) (Ev.some _)
    · refine Ev.neg (dF c) ?_
      by_cases c2 : m > 5
      · rw [if_neg (show ¬ (0 ≤ m ∧ m ≤ 5) by omega)]; exact Ev.pos (dT c2) (Ev.some _)
      · rw [if_pos (show 0 ≤ m ∧ m ≤ 5 by omega)]; exact Ev.neg (dF c2) (Ev.some _)
  · rw [if_neg hf]
    exact Ev.bind (Ev.of fun k => prm_bad hf k) (Ev.pos (nT (by decide)) (Ev.some _))
theorem known12 (f m : Int) : Ev (fun k => vernierref06_Known k f m) (ref12 f m) := by
  refine Ev.congr (fun k => vernierref06_Known_eq k _ _) ?_
  unfold ref12
  by_cases hf : 0 ≤ f ∧ f < 4
  · obtain ⟨W, P, em, ex, h⟩ := fm_of hf.1 hf.2
    have h2 := h.p8; have h3 := h.wp
    rw [if_pos hf]
    refine Ev.bind (Ev.of fun k => params06 h k) (Ev.neg (bF (by show ¬ ((W : Int) = 0); omega)) ?_)
    by_cases c : m < 0
    · rw [if_neg (show ¬ (0 ≤ m ∧ m ≤ 5) by omega)]; exact Ev.pos (dT c) (Ev.some _)
    · refine Ev.neg (dF c) ?_
      by_cases c2 : m > 5
      · rw [if_neg (show ¬ (0 ≤ m ∧ m ≤ 5) by omega)]; exact Ev.pos (dT c2) (Ev.some _)
      · rw [if_pos (show 0 ≤ m ∧ m ≤ 5 by omega)]; exact Ev.neg (dF c2) (Ev.some _)
  · rw [if_neg hf]
    exact Ev.bind (Ev.of fun k => prm06_bad hf k) (Ev.pos (bT rfl) (Ev.some _))
section
variable {f : Int} {W P : Nat} {em ex : Int} (h : Fm f W P em ex)
include h
theorem fits12 {a : Nat} (ha : a < 18446744073709551616) (k : Nat) : vernierref06_Fits k f (a : Int) = some (decide (a < 2 ^ W)) := by
  have h1 := h.w64; have h2 := h.p8; have h3 := h.wp
  rw [vernierref06_Fits_eq, params06 h, Option.bind_some]
  by_cases c : W = 64
  · rw [if_pos (bT (by show (W : Int) = 64; omega)), c, decide_eq_true (show a < 2 ^ 64 from ha)]
  · have ew : IntKind.u64.wrap (W : Int) = (W : Int) := wrapUn (by omega)
    rw [if_neg (bF (by show ¬ ((W : Int) = 64); omega))]
    dsimp only
    rw [ew, if_pos (by omega), shrK_nat _ _ (by omega)]
    congr 1
    have hp := Nat.two_pow_pos W
    by_cases g : a < 2 ^ W
    · rw [decide_eq_true g, Nat.div_eq_of_lt g]; rfl
    · rw [decide_eq_false g]
      have : 0 < a / 2 ^ W := Nat.div_pos (by omega) hp
      exact beq_eq_false_iff_ne.2 (by omega)
theorem class_bad {a : Nat} (ha : a < 18446744073709551616) (hW : ¬ a < 2 ^ W) : Ev (fun k => format_Class k f (a : Int)) (0, 4) := by
  refine Ev.congr (fun k => format_Class_eq k _ _) (Ev.bind (Ev.of fun k => check_at h k a ha) ?_)
  rw [if_neg hW]
  exact Ev.pos (nT (by decide)) (Ev.some _)
/-- The whole number that the reference cuts. -/
theorem whole12 {p : Nat} (hp : p < 2 ^ (W - 1)) (m : Int) (s : Bool) :
    cutN m s (qA (fN P (p / 2 ^ (P - 1)) (p % 2 ^ (P - 1))) (em - (P : Int) + 1 + (fQ (p / 2 ^ (P - 1)) : Int)) false 0) (qB (em - (P : Int) + 1 + (fQ (p / 2 ^ (P - 1)) : Int)) false 0) = wU P em m s p ∧
    decide (lftN (qA (fN P (p / 2 ^ (P - 1)) (p % 2 ^ (P - 1))) (em - (P : Int) + 1 + (fQ (p / 2 ^ (P - 1)) : Int)) false 0) (qB (em - (P : Int) + 1 + (fQ (p / 2 ^ (P - 1)) : Int)) false 0) ≠ 0) = wL P em p ∧
    (d32 (wU P em m s p)).length ≤ 66 := by
  have h2 := h.p8; have h53 := h.p53
  obtain ⟨t, t1, t2, t3, t4⟩ := wD_pow h
  obtain ⟨s1, s2⟩ := sig_ex h p hp
  have hv := plV_pat (P := P) (by omega) p
  generalize fN P (p / 2 ^ (P - 1)) (p % 2 ^ (P - 1)) = N at *
  generalize fQ (p / 2 ^ (P - 1)) = q at *
  have hc : N * 2 ^ q * qB (em - (P : Int) + 1 + (q : Int)) false 0 = qA N (em - (P : Int) + 1 + (q : Int)) false 0 * 2 ^ t := by
    unfold qA qB nuN nuD
    rw [if_neg (by decide), if_neg (by decide), Nat.one_mul]
    by_cases c : t ≤ q
    · rw [show em - (P : Int) + 1 + (q : Int) - 0 = ((q - t : Nat) : Int) by omega, p2_nat, p2_neg (by omega), Nat.mul_one, Nat.mul_assoc, ← Nat.pow_add, show q - t + t = q by omega]
    · rw [show (0 : Int) - (em - (P : Int) + 1 + (q : Int)) = ((t - q : Nat) : Int) by omega, p2_nat, p2_neg (by omega), Nat.mul_one, Nat.mul_assoc, ← Nat.pow_add, show q + (t - q) = t by omega]
  have bp := qB_pos (em - (P : Int) + 1 + (q : Int)) false 0
  have tp := Nat.two_pow_pos t
  refine ⟨?_, ?_, ?_⟩
  · unfold wU
    rw [t1, ← hv]
    exact (cutN_cross m s tp bp hc).symm
  · unfold wL
    rw [t1, ← hv, lftN_cross tp bp hc]
  · have h1 : wU P em m s p ≤ N * 2 ^ q + 1 := by
      unfold wU cutN
      rw [t1, ← hv]
      have g1 := chs_le m s (N * 2 ^ q / 2 ^ t) (lft (N * 2 ^ q % 2 ^ t) (2 ^ t))
      have g2 := Nat.div_le_self (N * 2 ^ q) (2 ^ t)
      omega
    obtain ⟨p', hp', hu'⟩ := big12 (Nat.lt_of_lt_of_le s1 (pow_mono2 h53)) s2 h1
    exact d32_short hu' (by omega)
theorem open12 {a : Nat} (ha : a < 2 ^ W) : ∃ (vn : Bool) (d : List Int) (e : Int), Ev (fun k => vernierref06_Open k f (a : Int)) (decide (infP W P < pk W a), (decide (infP W P < pk W a ∧ pk W a < infP W P + 2 ^ (P - 2)), (decide (pk W a = infP W P), (ps W a, (vn, (d, e)))))) ∧
    (pk W a < infP W P → vn = ps W a ∧ d = d32 (fN P (pk W a / 2 ^ (P - 1)) (pk W a % 2 ^ (P - 1))) ∧ d.length ≤ 2 ∧ e = em - (P : Int) + 1 + (fQ (pk W a / 2 ^ (P - 1)) : Int) ∧ -20000 ≤ e ∧ e ≤ 20000) := by
  have m0 := h.m0; have m1 := h.m1; have h53 := h.p53; have h8 := h.p8
  obtain ⟨p1, p2, p3, p4, p5, p6⟩ := pat_parts h ha
  obtain ⟨s1, s2⟩ := sig_ex h (pk W a) p5
  obtain ⟨vn, d, e, o, g⟩ := open06 h ha
  refine ⟨vn, d, e, o, fun hi => ?_⟩
  obtain ⟨g1, g2, g3, g4, g5, g6⟩ := g hi
  exact ⟨g1, by rw [← g5, d32_val g2 g3], g4, g6, by omega, by omega⟩
end
/-! ### Integral -/
theorem both_I (f m : Int) {a : Nat} (ha : a < 18446744073709551616) (tell : Bool) : ∃ r, Ev (fun k => whole_Integral k f m (a : Int) tell) r ∧ Ev (fun k => vernierref12_Integral k f m (a : Int) tell) r := by
  by_cases h0 : ref12 f m = 0
  · have hf : 0 ≤ f ∧ f < 4 := Decidable.byContradiction fun g => by unfold ref12 at h0; rw [if_neg g] at h0; omega
    have hm : Md m := by
      unfold ref12 at h0
      rw [if_pos hf] at h0
      by_cases g : 0 ≤ m ∧ m ≤ 5
      · exact ⟨g.1, g.2⟩
      · rw [if_neg g] at h0; omega
    obtain ⟨W, P, em, ex, h⟩ := fm_of hf.1 hf.2
    have rf := refuses12 f m
    have kn := known12 f m
    rw [h0] at rf kn
    by_cases hW : a < 2 ^ W
    · refine ⟨_, Integral_ev h hm hW tell, ?_⟩
      have h2 := h.p8
      have i1 : 0 < infP W P := Nat.mul_pos (by have := (eTop_le h).2; omega) (Nat.two_pow_pos _)
      obtain ⟨p1, p2, p3, p4, p5, p6⟩ := pat_parts h hW
      obtain ⟨vn, d, e, op, og⟩ := open12 h hW
      have ft : Ev (fun k => vernierref06_Fits k f (a : Int)) true := Ev.of fun k => by rw [fits12 h ha, decide_eq_true hW]
      have qu : Ev (fun k => vernierref06_Quiet k f) ((infP W P + 2 ^ (P - 2) : Nat) : Int) := Ev.of fun k => rQuiet h k
      have qp := Nat.two_pow_pos (P - 2)
      refine Ev.congr (fun k => vernierref12_Integral_eq k _ _ _ _) (Ev.bind kn (Ev.neg (nF rfl) (Ev.bind ft (Ev.neg (notF rfl) (Ev.bind op ?_)))))
      dsimp only
      obtain ⟨c, hc, hcc⟩ := cls_all (W := W) (P := P) (p := pk W a) (neg := ps W a) i1
      rw [hc]
      clear hc
      have hfin : pk W a < infP W P → Ev (fun k => ((vernierref06_Float_Zero k (decide (infP W P < pk W a)) (decide (infP W P < pk W a ∧ pk W a < infP W P + 2 ^ (P - 2))) (decide (pk W a = infP W P)) (ps W a) vn d e)).bind fun o5 => (if o5 then some ((a : Int), ((0 : Int), (0 : Int))) else vernierref12_Integral.j0 k f m tell (decide (infP W P < pk W a)) (decide (infP W P < pk W a ∧ pk W a < infP W P + 2 ^ (P - 2))) (decide (pk W a = infP W P)) (ps W a) vn d e)) (if pk W a = 0 then ((a : Int), ((0 : Int), (0 : Int))) else (((wK P em m (ps W a) (pk W a) + sgB (ps W a) W : Nat) : Int), ((if tell = true ∧ wL P em (pk W a) = true then 16 else 0), 0))) := fun hi => by
        obtain ⟨g1, g2, g3, g4, g5, g6⟩ := og hi
        obtain ⟨u1, u2, u3⟩ := whole12 h p5 m (ps W a)
        obtain ⟨k1, k2⟩ := wK_ok h (m := m) (ps W a) hi
        have hv := plV_pat (P := P) (by omega) (pk W a)
        have fz : Ev (fun k => vernierref06_Float_Zero k (decide (infP W P < pk W a)) (decide (infP W P < pk W a ∧ pk W a < infP W P + 2 ^ (P - 2))) (decide (pk W a = infP W P)) (ps W a) vn d e) ((d.length : Int) == 0) := by
          refine Ev.congr (fun k => vernierref06_Float_Zero_eq k _ _ _ _ _ _ _) ?_
          rw [decide_eq_false (show ¬ infP W P < pk W a by omega), decide_eq_false (show ¬ pk W a = infP W P by omega)]
          exact Ev.pos rfl (Ev.pos rfl (Ev.some _))
        refine Ev.bind fz ?_
        by_cases z : pk W a = 0
        · rw [if_pos z]
          have : d = [] := by
            have v0 := (plV_zero (P := P) (by omega)).2 z
            rw [v0] at hv
            have n0 := (Nat.mul_eq_zero.1 hv).resolve_right (by have := Nat.two_pow_pos (fQ (pk W a / 2 ^ (P - 1))); omega)
            rw [g2, n0, d32_zero]
          rw [this]
          exact Ev.pos (bT rfl) (Ev.some _)
        · rw [if_neg z]
          have n0 : fN P (pk W a / 2 ^ (P - 1)) (pk W a % 2 ^ (P - 1)) ≠ 0 := fun g => z ((plV_zero (P := P) (by omega)).1 (by rw [← hv, g, Nat.zero_mul]))
          have lp := d32_len_pos.2 n0
          rw [← g2] at lp
          refine Ev.neg (bF (by omega)) (Ev.congr (fun k => vernierref12_Integral.j0_eq k _ _ _ _ _ _ _ _ _ _) ?_)
          have wh := rWhole hm (ps W a) (n := fN P (pk W a / 2 ^ (P - 1)) (pk W a % 2 ^ (P - 1))) (by rw [← g2]; omega) (e := e) (q := 0) ⟨g5, g6⟩ (by omega)
          rw [← g2, g4, u1, u2, ← g4] at wh
          have fi := rFinal h hm (ps W a) (ps W a) (n := wU P em m (ps W a) (pk W a)) (by omega) (e := 0) (by omega)
          have ans : (if wU P em m (ps W a) (pk W a) = 0 then (((sgB (ps W a) W : Nat) : Int), (0 : Int)) else rnOut W P m (ps W a) (qA (wU P em m (ps W a) (pk W a)) 0 false (em - (P : Int) + 1)) (qB 0 false (em - (P : Int) + 1))) = (((wK P em m (ps W a) (pk W a) + sgB (ps W a) W : Nat) : Int), (0 : Int)) := by
            have m0 := h.m0; have m1 := h.m1
            by_cases c0 : wU P em m (ps W a) (pk W a) = 0
            · rw [c0, Nat.zero_mul] at k1
              rw [if_pos c0, (plV_zero (P := P) (by omega)).1 k1, Nat.zero_add]
            · rw [if_neg c0]
              have eA : qA (wU P em m (ps W a) (pk W a)) 0 false (em - (P : Int) + 1) = plV P (wK P em m (ps W a) (pk W a)) * 1 := by
                unfold qA nuN
                rw [if_neg (by simp), Nat.mul_one, k1]
                unfold wD; rw [show (0 : Int) - (em - (P : Int) + 1) = -(em - (P : Int) + 1) by omega]
              have eB : qB 0 false (em - (P : Int) + 1) = 1 := by
                unfold qB nuD
                rw [if_neg (by simp), p2_neg (by omega)]
              rw [eA, eB, rnOut_rep (W := W) (by omega) (by decide) k2 m (ps W a)]
          rw [ans] at fi
          rw [g1]
          refine Ev.bind wh (Ev.bind fi ?_)
          dsimp only
          cases wL P em (pk W a) <;> cases tell
          · exact Ev.neg (by simp) (Ev.eq (Ev.some _) rfl)
          · exact Ev.neg (by simp) (Ev.eq (Ev.some _) rfl)
          · exact Ev.pos rfl (Ev.neg (by simp) (Ev.eq (Ev.some _) rfl))
          · exact Ev.pos rfl (Ev.pos rfl (Ev.eq (Ev.some _) rfl))
      have hns : pk W a < infP W P → ¬ (decide (infP W P < pk W a ∧ pk W a < infP W P + 2 ^ (P - 2)) = true) ∧ ¬ (decide (infP W P < pk W a) = true) ∧ ¬ (decide (pk W a = infP W P) = true) := fun hi => ⟨dF (by omega), dF (by omega), dF (by omega)⟩
      unfold inR
      rcases hcc with ⟨rfl, q1, q2⟩ | ⟨rfl, q1, q2⟩ | ⟨rfl, q1, q2⟩ | ⟨rfl, q1, q2⟩ | ⟨rfl, q1, -⟩ | ⟨rfl, q1, -⟩ | ⟨hc, q1, hi⟩
      · exact Ev.pos (dT ⟨q1, q2⟩) (Ev.bind qu (Ev.some _))
      · exact Ev.neg (dF (by omega)) (Ev.pos (dT q1) (Ev.bind qu (Ev.some _)))
      · exact Ev.neg (dF (by omega)) (Ev.neg (dF (by omega)) (Ev.pos (dT q1) (Ev.some _)))
      · exact Ev.neg (dF (by omega)) (Ev.neg (dF (by omega)) (Ev.pos (dT q1) (Ev.some _)))
      · obtain ⟨n1, n2, n3⟩ := hns (by omega)
        have r := hfin (by omega)
        rw [if_pos q1] at r
        exact Ev.neg n1 (Ev.neg n2 (Ev.neg n3 r))
      · obtain ⟨n1, n2, n3⟩ := hns (by omega)
        have r := hfin (by omega)
        rw [if_pos q1] at r
        exact Ev.neg n1 (Ev.neg n2 (Ev.neg n3 r))
      · obtain ⟨n1, n2, n3⟩ := hns hi
        have r := hfin hi
        rw [if_neg (by omega)] at r
        rcases hc with rfl | rfl | rfl | rfl <;> exact Ev.neg n1 (Ev.neg n2 (Ev.neg n3 r))
    · have ft : Ev (fun k => vernierref06_Fits k f (a : Int)) false := Ev.of fun k => by rw [fits12 h ha, decide_eq_false hW]
      exact ⟨_, Ev.congr (fun k => whole_Integral_eq k _ _ _ _) (Ev.bind rf (Ev.neg (nF rfl) (Ev.bind (class_bad h ha hW) (Ev.pos (nT (by decide)) (Ev.some _))))),
        Ev.congr (fun k => vernierref12_Integral_eq k _ _ _ _) (Ev.bind kn (Ev.neg (nF rfl) (Ev.bind ft (Ev.pos rfl (Ev.some _)))))⟩
  · exact ⟨_, Ev.congr (fun k => whole_Integral_eq k _ _ _ _) (Ev.bind (refuses12 f m) (Ev.pos (nT h0) (Ev.some _))), Ev.congr (fun k => vernierref12_Integral_eq k _ _ _ _) (Ev.bind (known12 f m) (Ev.pos (nT h0) (Ev.some _)))⟩
/-! ### ToInt -/
theorem lim12 {κ : Int} (h0 : 0 ≤ κ) (h3 : κ ≤ 3) (k : Nat) : vernierref12_limits k κ = some ((kMost κ : Int), (kBel κ : Int)) := by
  have : κ = 0 ∨ κ = 1 ∨ κ = 2 ∨ κ = 3 := by omega
  rw [vernierref12_limits_eq]
  rcases this with rfl | rfl | rfl | rfl <;> rfl
theorem one_dig {x : Nat} (hx : x < 18446744073709551616) : Ev (fun k => vernierref03_Digits k ((List.replicate 1 (0 : Int)).set 0 (x : Int))) (d32 x) := by
  have r := rDigits (a := (List.replicate 1 (0 : Int)).set 0 (x : Int)) (WF.cons (by omega) (by omega) WF.nil) (by simp)
  rw [show val ((List.replicate 1 (0 : Int)).set 0 (x : Int)) = x from by
    show (x : Int).toNat + 18446744073709551616 * 0 = x
    rw [Int.toNat_natCast]; omega] at r
  exact r
theorem cmpN_gt {x y : Nat} : cmpN x y > 0 ↔ y < x := by
  unfold cmpN
  by_cases c : x < y
  · rw [if_pos c]; omega
  · rw [if_neg c]
    by_cases c2 : y < x
    · rw [if_pos c2]; omega
    · rw [if_neg c2]; omega
theorem both_T (f m κ : Int) {a : Nat} (ha : a < 18446744073709551616) : ∃ r, Ev (fun k => whole_ToInt k f m κ (a : Int)) r ∧ Ev (fun k => vernierref12_ToInt k f m κ (a : Int)) r := by
  have rf := refuses12 f m
  have kn := known12 f m
  by_cases h0 : ref12 f m = 0
  · have hf : 0 ≤ f ∧ f < 4 := Decidable.byContradiction fun g => by unfold ref12 at h0; rw [if_neg g] at h0; omega
    have hm : Md m := by
      unfold ref12 at h0
      rw [if_pos hf] at h0
      by_cases g : 0 ≤ m ∧ m ≤ 5
      · exact ⟨g.1, g.2⟩
      · rw [if_neg g] at h0; omega
    obtain ⟨W, P, em, ex, h⟩ := fm_of hf.1 hf.2
    rw [h0] at rf kn
    by_cases k0 : κ < 0
    · exact ⟨_, Ev.congr (fun k => whole_ToInt_eq k _ _ _ _) (Ev.bind rf (Ev.neg (nF rfl) (Ev.pos (dT k0) (Ev.some _)))), Ev.congr (fun k => vernierref12_ToInt_eq k _ _ _ _) (Ev.bind kn (Ev.neg (nF rfl) (Ev.pos (dT k0) (Ev.some _))))⟩
    by_cases k3 : κ > 3
    · exact ⟨_, Ev.congr (fun k => whole_ToInt_eq k _ _ _ _) (Ev.bind rf (Ev.neg (nF rfl) (Ev.neg (dF k0) (Ev.pos (dT k3) (Ev.some _))))), Ev.congr (fun k => vernierref12_ToInt_eq k _ _ _ _) (Ev.bind kn (Ev.neg (nF rfl) (Ev.neg (dF k0) (Ev.pos (dT k3) (Ev.some _)))))⟩
    by_cases hW : a < 2 ^ W
    · refine ⟨_, ToInt_ev h hm (by omega) (by omega) hW, ?_⟩
      have h2 := h.p8
      have i1 : 0 < infP W P := Nat.mul_pos (by have := (eTop_le h).2; omega) (Nat.two_pow_pos _)
      obtain ⟨p1, p2, p3, p4, p5, p6⟩ := pat_parts h hW
      obtain ⟨vn, d, e, op, og⟩ := open12 h hW
      obtain ⟨kb, km⟩ := kB_lt κ
      have ft : Ev (fun k => vernierref06_Fits k f (a : Int)) true := Ev.of fun k => by rw [fits12 h ha, decide_eq_true hW]
      have qp := Nat.two_pow_pos (P - 2)
      refine Ev.congr (fun k => vernierref12_ToInt_eq k _ _ _ _) (Ev.bind kn (Ev.neg (nF rfl) (Ev.neg (dF k0) (Ev.neg (dF k3) (Ev.congr (fun k => vernierref12_ToInt.j0_eq k _ _ _ _) (Ev.bind ft (Ev.neg (notF rfl) (Ev.bind (Ev.of fun k => lim12 (by omega) (by omega) k) (Ev.bind op ?_)))))))))
      dsimp only
      obtain ⟨c, hc, hcc⟩ := cls_all (W := W) (P := P) (p := pk W a) (neg := ps W a) i1
      rw [hc]
      clear hc
      have j1t : ∀ (b4 b5 b6 b7 b8 : Bool), Ev (fun k => vernierref12_ToInt.j1 k m (kMost κ : Int) (kBel κ : Int) true b4 b5 b6 b7 b8 d e) ((kMost κ : Int), ((1 : Int), (0 : Int))) := fun _ _ _ _ _ => Ev.congr (fun k => vernierref12_ToInt.j1_eq k _ _ _ _ _ _ _ _ _ _ _) (Ev.pos rfl (Ev.some _))
      have fin : pk W a < infP W P → Ev (fun k => vernierref12_ToInt.j1 k m (kMost κ : Int) (kBel κ : Int) false (decide (infP W P < pk W a)) (decide (infP W P < pk W a ∧ pk W a < infP W P + 2 ^ (P - 2))) (decide (pk W a = infP W P)) (ps W a) vn d e) (toR κ 8 (ps W a) (wU P em m (ps W a) (pk W a)) (wL P em (pk W a))) := fun hi => by
        obtain ⟨g1, g2, g3, g4, g5, g6⟩ := og hi
        obtain ⟨u1, u2, u3⟩ := whole12 h p5 m (ps W a)
        have wh := rWhole hm (ps W a) (n := fN P (pk W a / 2 ^ (P - 1)) (pk W a % 2 ^ (P - 1))) (by rw [← g2]; omega) (e := e) (q := 0) ⟨g5, g6⟩ (by omega)
        rw [← g2, g4, u1, u2, ← g4] at wh
        rw [g1]
        refine Ev.congr (fun k => vernierref12_ToInt.j1_eq k _ _ _ _ _ _ _ _ _ _ _) (Ev.neg (by simp) (Ev.neg (dF (by omega)) (Ev.congr (fun k => vernierref12_ToInt.j2_eq k _ _ _ _ _ _ _ _ _ _) (Ev.bind wh ?_))))
        dsimp only
        generalize wU P em m (ps W a) (pk W a) = U at *
        generalize wL P em (pk W a) = lost at *
        have e8 : toR κ 8 (ps W a) U lost = if (if ps W a then kBel κ else kMost κ) < U then ((if ps W a then negU (kBel κ) else (kMost κ : Int)), (1, 0)) else ((if ps W a then negU U else (U : Int)), ((if lost then 16 else 0), 0)) := by
          unfold toR; rw [if_neg (by decide), if_neg (by decide)]
        have j3 : ∀ (L : Nat), L < 18446744073709551616 → ∀ b5 b6 b7 s b9 : Bool, Ev (fun k => vernierref12_ToInt.j3 k (kMost κ : Int) (kBel κ : Int) (d32 U) lost (L : Int) b5 b6 b7 s b9 d e) (if L < U then ((if s then negU (kBel κ) else (kMost κ : Int)), ((1 : Int), (0 : Int))) else ((if s then negU U else (U : Int)), ((if lost then 16 else 0), 0))) := fun L hL b5 b6 b7 s b9 => by
          have lL : (d32 L).length ≤ 2 := d32_short (n := L) (p := 64) hL (by decide)
          have cm := rCmp (n := U) (m := L) (by omega) (by omega)
          have wo := rWords (n := U) (by omega)
          refine Ev.congr (fun k => vernierref12_ToInt.j3_eq k _ _ _ _ _ _ _ _ _ _ _ _) (Ev.bind (one_dig hL) (Ev.bind cm ?_))
          by_cases c : L < U
          · rw [if_pos c]
            refine Ev.pos (dT (cmpN_gt.2 c)) ?_
            cases s
            · exact Ev.neg (by simp) (Ev.some _)
            · exact Ev.pos rfl (Ev.some _)
          · rw [if_neg c]
            refine Ev.neg (dF (fun g => c (cmpN_gt.1 g))) (Ev.bind wo ?_)
            by_cases z : U = 0
            · subst z
              refine Ev.neg (dF (by rw [digs_zero]; simp)) ?_
              have n0 : negU 0 = 0 := by decide
              cases s <;> cases lost
              · exact Ev.neg (by simp) (Ev.neg (by simp) (Ev.some _))
              · exact Ev.neg (by simp) (Ev.pos rfl (Ev.some _))
              · exact Ev.pos rfl (Ev.neg (by simp) (Ev.eq (Ev.some _) (by rw [if_pos rfl, n0]; rfl)))
              · exact Ev.pos rfl (Ev.pos rfl (Ev.eq (Ev.some _) (by rw [if_pos rfl, n0]; rfl)))
            · rw [digs_word z (by omega)]
              refine Ev.pos (dT (by show ((1 : Nat) : Int) > 0; omega)) (Ev.pos ⟨by omega, by show (0 : Int) < ((1 : Nat) : Int); omega⟩ ?_)
              cases s <;> cases lost
              · exact Ev.neg (by simp) (Ev.neg (by simp) (Ev.some _))
              · exact Ev.neg (by simp) (Ev.pos rfl (Ev.some _))
              · exact Ev.pos rfl (Ev.neg (by simp) (Ev.some _))
              · exact Ev.pos rfl (Ev.pos rfl (Ev.some _))
        rw [e8]
        cases hs : ps W a
        · exact Ev.neg (by simp) (j3 (kMost κ) km _ _ _ _ _)
        · exact Ev.pos rfl (j3 (kBel κ) kb _ _ _ _ _)
      rcases hcc with ⟨rfl, q1, q2⟩ | ⟨rfl, q1, q2⟩ | ⟨rfl, q1, q2⟩ | ⟨rfl, q1, q2⟩ | ⟨rfl, q1, -⟩ | ⟨rfl, q1, -⟩ | ⟨hc, q1, hi⟩
      · exact Ev.pos (dT q1) (j1t _ _ _ _ _)
      · exact Ev.pos (dT q1) (j1t _ _ _ _ _)
      · refine Ev.neg (dF (by omega)) (Ev.pos (dT q1) ?_)
        rw [q2]
        exact Ev.congr (fun k => vernierref12_ToInt.j1_eq k _ _ _ _ _ _ _ _ _ _ _) (Ev.neg (by simp) (Ev.pos (dT q1) (Ev.some _)))
      · refine Ev.neg (dF (by omega)) (Ev.pos (dT q1) ?_)
        rw [q2]
        exact j1t _ _ _ _ _
      · have hi : pk W a < infP W P := by omega
        have e8 : toR κ 5 (ps W a) (wU P em m (ps W a) (pk W a)) (wL P em (pk W a)) = toR κ 8 (ps W a) (wU P em m (ps W a) (pk W a)) (wL P em (pk W a)) := rfl
        rw [e8]
        exact Ev.neg (dF (by omega)) (Ev.neg (dF (by omega)) (fin hi))
      · have hi : pk W a < infP W P := by omega
        have e8 : toR κ 6 (ps W a) (wU P em m (ps W a) (pk W a)) (wL P em (pk W a)) = toR κ 8 (ps W a) (wU P em m (ps W a) (pk W a)) (wL P em (pk W a)) := rfl
        rw [e8]
        exact Ev.neg (dF (by omega)) (Ev.neg (dF (by omega)) (fin hi))
      · have e8 : toR κ c (ps W a) (wU P em m (ps W a) (pk W a)) (wL P em (pk W a)) = toR κ 8 (ps W a) (wU P em m (ps W a) (pk W a)) (wL P em (pk W a)) := by
          rcases hc with rfl | rfl | rfl | rfl <;> rfl
        rw [e8]
        exact Ev.neg (dF (by omega)) (Ev.neg (dF (by omega)) (fin hi))
    · have ft : Ev (fun k => vernierref06_Fits k f (a : Int)) false := Ev.of fun k => by rw [fits12 h ha, decide_eq_false hW]
      exact ⟨_, Ev.congr (fun k => whole_ToInt_eq k _ _ _ _) (Ev.bind rf (Ev.neg (nF rfl) (Ev.neg (dF k0) (Ev.neg (dF k3) (Ev.congr (fun k => whole_ToInt.j0_eq k _ _ _ _) (Ev.bind (class_bad h ha hW) (Ev.pos (nT (by decide)) (Ev.some _)))))))),
        Ev.congr (fun k => vernierref12_ToInt_eq k _ _ _ _) (Ev.bind kn (Ev.neg (nF rfl) (Ev.neg (dF k0) (Ev.neg (dF k3) (Ev.congr (fun k => vernierref12_ToInt.j0_eq k _ _ _ _) (Ev.bind ft (Ev.pos rfl (Ev.some _))))))))⟩
  · exact ⟨_, Ev.congr (fun k => whole_ToInt_eq k _ _ _ _) (Ev.bind rf (Ev.pos (nT h0) (Ev.some _))), Ev.congr (fun k => vernierref12_ToInt_eq k _ _ _ _) (Ev.bind kn (Ev.pos (nT h0) (Ev.some _)))⟩
/-! ### FromInt -/
theorem fin12 {f : Int} {W P : Nat} {em ex : Int} (h : Fm f W P em ex) {m : Int} (hm : Md m) {n : Nat} (hn : n < 18446744073709551616) {neg : Bool} (hz : n = 0 → neg = false) : Ev (fun k => ((vernierref06_Final k f m neg (d32 n) 0 false)).bind fun o => some (o.1, (o.2, (0 : Int)))) (paR W P em m neg n 0 false) := by
  have ln : (d32 n).length ≤ 2 := d32_short (n := n) (p := 64) hn (by decide)
  refine Ev.bind (rFinal h hm neg false (n := n) (by omega) (e := 0) (by omega)) (Ev.eq (Ev.some _) ?_)
  unfold paR
  rw [if_neg (show ¬ ((0 : Int) < -40000 ∨ 40000 < (0 : Int)) by omega), if_neg (show ¬ (false = true ∧ blen n < P + 2) by simp)]
  by_cases c : n = 0
  · rw [if_pos c, if_pos c, hz c]
  · rw [if_neg c, if_neg c]
theorem from12 {f : Int} {W P : Nat} {em ex : Int} (h : Fm f W P em ex) {m : Int} (hm : Md m) {x : Nat} (hx : x < 18446744073709551616) {neg : Bool} (hz : x = 0 → neg = false) : Ev (fun k => vernierref12_FromInt.j1 k f m (x : Int) neg) (paR W P em m neg (if neg then 18446744073709551616 - x else x) 0 false) := by
  refine Ev.congr (fun k => vernierref12_FromInt.j1_eq k _ _ _ _) ?_
  cases neg
  · exact Ev.neg (by simp) (Ev.bind (one_dig hx) (fin12 h hm hx (fun _ => rfl)))
  · have x0 : x ≠ 0 := fun g => by have := hz g; cases this
    have ew : IntKind.u64.wrap (0 - (x : Int)) = ((18446744073709551616 - x : Nat) : Int) := by rw [wrap_u64]; omega
    rw [if_pos rfl, ew]
    exact Ev.pos rfl (Ev.bind (one_dig (by omega)) (fin12 h hm (by omega) (fun g => by omega)))
theorem both_F (f m κ : Int) {x : Nat} (hx : x < 18446744073709551616) : ∃ r, Ev (fun k => whole_FromInt k f m κ (x : Int)) r ∧ Ev (fun k => vernierref12_FromInt k f m κ (x : Int)) r := by
  have rf := refuses12 f m
  have kn := known12 f m
  by_cases h0 : ref12 f m = 0
  · have hf : 0 ≤ f ∧ f < 4 := Decidable.byContradiction fun g => by unfold ref12 at h0; rw [if_neg g] at h0; omega
    have hm : Md m := by
      unfold ref12 at h0
      rw [if_pos hf] at h0
      by_cases g : 0 ≤ m ∧ m ≤ 5
      · exact ⟨g.1, g.2⟩
      · rw [if_neg g] at h0; omega
    obtain ⟨W, P, em, ex, h⟩ := fm_of hf.1 hf.2
    rw [h0] at rf kn
    by_cases k0 : κ < 0
    · exact ⟨_, Ev.congr (fun k => whole_FromInt_eq k _ _ _ _) (Ev.bind rf (Ev.neg (nF rfl) (Ev.pos (dT k0) (Ev.some _)))), Ev.congr (fun k => vernierref12_FromInt_eq k _ _ _ _) (Ev.bind kn (Ev.neg (nF rfl) (Ev.pos (dT k0) (Ev.some _))))⟩
    by_cases k3 : κ > 3
    · exact ⟨_, Ev.congr (fun k => whole_FromInt_eq k _ _ _ _) (Ev.bind rf (Ev.neg (nF rfl) (Ev.neg (dF k0) (Ev.pos (dT k3) (Ev.some _))))), Ev.congr (fun k => vernierref12_FromInt_eq k _ _ _ _) (Ev.bind kn (Ev.neg (nF rfl) (Ev.neg (dF k0) (Ev.pos (dT k3) (Ev.some _)))))⟩
    refine ⟨_, FromInt_ev h hm (by omega) (by omega) hx, ?_⟩
    refine Ev.congr (fun k => vernierref12_FromInt_eq k _ _ _ _) (Ev.bind kn (Ev.neg (nF rfl) (Ev.neg (dF k0) (Ev.neg (dF k3) (Ev.congr (fun k => vernierref12_FromInt.j0_eq k _ _ _ _) ?_)))))
    have go : ∀ neg : Bool, inNeg κ x = neg → (x = 0 → neg = false) → ¬ ((if neg then kBel κ else kMost κ) < (if neg then 18446744073709551616 - x else x)) → Ev (fun k => vernierref12_FromInt.j1 k f m (x : Int) neg) (if (if inNeg κ x then kBel κ else kMost κ) < inMag κ x then (0, (0, 7)) else paR W P em m (inNeg κ x) (inMag κ x) 0 false) := fun neg g1 g2 g3 => by
      unfold inMag
      rw [g1, if_neg g3]
      exact from12 h hm hx g2
    have bad : (if inNeg κ x then kBel κ else kMost κ) < inMag κ x → ((0 : Int), ((0 : Int), (7 : Int))) = (if (if inNeg κ x then kBel κ else kMost κ) < inMag κ x then (0, (0, 7)) else paR W P em m (inNeg κ x) (inMag κ x) 0 false) := fun g => by rw [if_pos g]
    have : κ = 0 ∨ κ = 1 ∨ κ = 2 ∨ κ = 3 := by omega
    rcases this with rfl | rfl | rfl | rfl
    · have b0 : kBel 0 = 2147483648 := rfl
      have m0 : kMost 0 = 2147483647 := rfl
      have en : inNeg 0 x = decide (9223372036854775808 ≤ x) := by unfold inNeg; rw [b0]; simp
      refine Ev.pos (bT rfl) ?_
      by_cases c : (x : Int) > 2147483647
      · refine Ev.pos (dT c) ?_
        by_cases c2 : (x : Int) < 18446744071562067968
        · refine Ev.pos (dT c2) (Ev.eq (Ev.some _) (bad ?_))
          unfold inMag
          rw [en, b0, m0]
          by_cases g : 9223372036854775808 ≤ x
          · rw [decide_eq_true g, if_pos rfl, if_pos rfl]; omega
          · rw [decide_eq_false g, if_neg (by simp), if_neg (by simp)]; omega
        · have gg := go true (by rw [en, decide_eq_true (by omega)]) (fun g => by omega) (by rw [b0, if_pos rfl, if_pos rfl]; omega)
          rw [decide_eq_true c]
          exact Ev.neg (dF c2) gg
      · have gg := go false (by rw [en, decide_eq_false (by omega)]) (fun g => rfl) (by rw [m0, if_neg (by simp), if_neg (by simp)]; omega)
        rw [decide_eq_false c]
        exact Ev.neg (by simp) gg
    · have b0 : kBel 1 = 9223372036854775808 := rfl
      have m0 : kMost 1 = 9223372036854775807 := rfl
      have en : inNeg 1 x = decide (9223372036854775808 ≤ x) := by unfold inNeg; rw [b0]; simp
      refine Ev.neg (bF (by decide)) (Ev.pos (bT rfl) ?_)
      by_cases c : (x : Int) > 9223372036854775807
      · have gg := go true (by rw [en, decide_eq_true (by omega)]) (fun g => by omega) (by rw [b0, if_pos rfl, if_pos rfl]; omega)
        rw [decide_eq_true c]
        exact gg
      · have gg := go false (by rw [en, decide_eq_false (by omega)]) (fun g => rfl) (by rw [m0, if_neg (by simp), if_neg (by simp)]; omega)
        rw [decide_eq_false c]
        exact gg
    · have m0 : kMost 2 = 4294967295 := rfl
      have en : inNeg 2 x = false := rfl
      refine Ev.neg (bF (by decide)) (Ev.neg (bF (by decide)) (Ev.pos (bT rfl) ?_))
      by_cases c : (x : Int) > 4294967295
      · refine Ev.pos (dT c) (Ev.eq (Ev.some _) (bad ?_))
        unfold inMag
        rw [en, m0, if_neg (by simp), if_neg (by simp)]; omega
      · exact Ev.neg (dF c) (go false en (fun g => rfl) (by rw [m0, if_neg (by simp), if_neg (by simp)]; omega))
    · have m0 : kMost 3 = 18446744073709551615 := rfl
      have en : inNeg 3 x = false := rfl
      exact Ev.neg (bF (by decide)) (Ev.neg (bF (by decide)) (Ev.neg (bF (by decide)) (go false en (fun g => rfl) (by rw [m0, if_neg (by simp), if_neg (by simp)]; omega))))
  · exact ⟨_, Ev.congr (fun k => whole_FromInt_eq k _ _ _ _) (Ev.bind rf (Ev.pos (nT h0) (Ev.some _))), Ev.congr (fun k => vernierref12_FromInt_eq k _ _ _ _) (Ev.bind kn (Ev.pos (nT h0) (Ev.some _)))⟩
/-! ### One call, and all -/
theorem one12 (c f m κ : Int) {a : Nat} (ha : a < 18446744073709551616) (tell : Bool) : Ev (fun k => vernierlaw12_one k c f m κ (a : Int) tell) true := by
  have j0 : ∀ x y z : Int, Ev (fun k => vernierlaw12_one.j0 k x x y z y z) true := fun x y z => Ev.congr (fun k => vernierlaw12_one.j0_eq k _ _ _ _ _ _) (Ev.pos (bT rfl) (Ev.pos (bT rfl) (Ev.eq (Ev.some _) (bT rfl))))
  refine Ev.congr (fun k => vernierlaw12_one_eq k _ _ _ _ _ _) ?_
  by_cases c1 : c = 1
  · obtain ⟨r, r1, r2⟩ := both_I f m ha tell
    exact Ev.pos (bT c1) (Ev.bind r1 (Ev.bind r2 (j0 _ _ _)))
  · refine Ev.neg (bF c1) ?_
    by_cases c2 : c = 2
    · obtain ⟨r, r1, r2⟩ := both_T f m κ ha
      exact Ev.pos (bT c2) (Ev.bind r1 (Ev.bind r2 (j0 _ _ _)))
    · refine Ev.neg (bF c2) ?_
      by_cases c3 : c = 3
      · obtain ⟨r, r1, r2⟩ := both_F f m κ ha
        exact Ev.pos (bT c3) (Ev.bind r1 (Ev.bind r2 (j0 _ _ _)))
      · exact Ev.neg (bF c3) (j0 0 0 0)
namespace Pure
abbrev OpT := Int × (Int × (Int × (Int × (Int × Bool))))
theorem all12_l0 {l : List OpT} (hl : l.length ≤ 17592186044416) (H : ∀ o ∈ l, 0 ≤ o.2.2.2.2.1 ∧ o.2.2.2.2.1 < 18446744073709551616) (n : Nat) : ∀ i : Nat, i + n = l.length → Ev2 (fun k m => vernierlaw12_WholeCalls.l0 k m l (i : Int)) true := by
  induction n with
  | zero =>
    intro i hi
    exact Ev2.step (fun k m => vernierlaw12_WholeCalls.l0_eq k m _ _) (Ev2.neg (dF (by omega)) (Ev2.some _))
  | succ n ih =>
    intro i hi
    refine Ev2.step (fun k m => vernierlaw12_WholeCalls.l0_eq k m _ _) ?_
    rw [Int.toNat_natCast]
    have hmem : l.getD i (0, (0, (0, (0, (0, false))))) ∈ l := by rw [List.getD_eq_getElem?_getD, List.getElem?_eq_getElem (show i < l.length by omega)]; exact List.getElem_mem _
    have Ho := H _ hmem
    generalize l.getD i (0, (0, (0, (0, (0, false))))) = o at *
    obtain ⟨c, f, m, κ, a, tell⟩ := o
    have Ho' : 0 ≤ a ∧ a < 18446744073709551616 := Ho
    obtain ⟨x, rfl⟩ := Int.eq_ofNat_of_zero_le Ho'.1
    have r := one12 c f m κ (a := x) (by omega) tell
    refine Ev2.pos (dT (by omega)) (Ev2.pos ⟨by omega, by omega⟩ (Ev2.call r (Ev2.neg (notF rfl) ?_)))
    rw [succ_i i (by omega)]
    exact ih (i + 1) (by omega)
abbrev OpTy : Ty := .pair (.int .i64) (.pair (.int .i64) (.pair (.int .i64) (.pair (.int .i64) (.pair (.int .u64) .bool))))
/-- For all scripts: true. -/
theorem WholeCalls (l : List OpT) (w : WFt (.sl OpTy) l) : Ev (fun k => vernierlaw12_WholeCalls k l) true := by
  obtain ⟨h1, h2⟩ := w
  have hl : l.length ≤ 17592186044416 := by simp only [minB, IntKind.bits] at h1; omega
  exact Ev.congr (fun k => vernierlaw12_WholeCalls_eq k _) (Ev.bind awake12_ev (Ev.neg (notF rfl) (all12_l0 hl (fun o ho => wf_u64 (h2 o ho).2.2.2.2.1) l.length 0 (by omega)).ev))
end Pure
end Go.Proofs.YtldjheckpophaaaDoor.X
