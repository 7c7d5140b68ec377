/- Plain law: WholeMirror answers true. Conditions: what the reading says of the arguments. -/
import Derived.Test.YtldjheckpophaaaDoorWhC
namespace Go.Proofs.YtldjheckpophaaaDoor.X
open Go Go.Rex
set_option linter.unusedVariables false

theorem wU_mir (P : Nat) (em m : Int) (s : Bool) (p : Nat) : wU P em (mir m) (!s) p = wU P em m s p := by unfold wU; exact cutN_mir _ _ _ _
theorem wK_mir (P : Nat) (em m : Int) (s : Bool) (p : Nat) : wK P em (mir m) (!s) p = wK P em m s p := by unfold wK; rw [wU_mir]
theorem mirror_mode (k : Nat) (F M K a x : Int) : (if (M == 3) = true then vernierlaw12_WholeMirror.j0 k 4 F M K a x else (if (M == 4) = true then vernierlaw12_WholeMirror.j0 k 3 F M K a x else vernierlaw12_WholeMirror.j0 k M F M K a x)) = vernierlaw12_WholeMirror.j0 k (mir M) F M K a x := by
  unfold mir
  by_cases c3 : M = 3
  · rw [if_pos (bT c3), if_pos c3]
  · rw [if_neg (bF c3), if_neg c3]
    by_cases c4 : M = 4
    · rw [if_pos (bT c4), if_pos c4]
    · rw [if_neg (bF c4), if_neg c4]
/-- The classes of a pattern and its opposite. -/
theorem opp_pair (W P p : Nat) (s : Bool) (hi : 0 < infP W P) : (clsOf W P p s = 0 ∧ clsOf W P p (!s) = 0 ∧ infP W P < p) ∨ (clsOf W P p s = 1 ∧ clsOf W P p (!s) = 1 ∧ infP W P < p) ∨
    ((clsOf W P p s = 2 ∨ clsOf W P p s = 9 ∨ clsOf W P p s = 5 ∨ clsOf W P p s = 6) ∧ (clsOf W P p (!s) = 2 ∨ clsOf W P p (!s) = 9 ∨ clsOf W P p (!s) = 5 ∨ clsOf W P p (!s) = 6) ∧ p ≤ infP W P) ∨
    ((clsOf W P p s = 3 ∨ clsOf W P p s = 4 ∨ clsOf W P p s = 7 ∨ clsOf W P p s = 8) ∧ (clsOf W P p (!s) = 3 ∨ clsOf W P p (!s) = 4 ∨ clsOf W P p (!s) = 7 ∨ clsOf W P p (!s) = 8) ∧ p ≠ 0 ∧ p < infP W P) := by
  obtain ⟨c, hc, hcc⟩ := cls_all (W := W) (P := P) (p := p) (neg := s) hi
  obtain ⟨d, hd, hdd⟩ := cls_all (W := W) (P := P) (p := p) (neg := !s) hi
  rw [hc, hd]
  rcases hcc with ⟨rfl, a1, a2⟩ | ⟨rfl, a1, a2⟩ | ⟨rfl, a1, -⟩ | ⟨rfl, a1, -⟩ | ⟨rfl, a1, -⟩ | ⟨rfl, a1, -⟩ | ⟨hcc, a1, a2⟩ <;> rcases hdd with ⟨rfl, b1, b2⟩ | ⟨rfl, b1, b2⟩ | ⟨rfl, b1, -⟩ | ⟨rfl, b1, -⟩ | ⟨rfl, b1, -⟩ | ⟨rfl, b1, -⟩ | ⟨hdd, b1, b2⟩ <;> first | omega | (exfalso; omega)
namespace Pure
abbrev OneTy : Ty := .pair (.int .i64) (.pair (.int .i64) (.pair (.int .i64) (.pair (.int .u64) (.int .i64))))
theorem WholeMirror (t : Int × (Int × (Int × (Int × Int)))) (w : WFt OneTy t) : Ev (fun k => vernierlaw12_WholeMirror k t.1 t.2.1 t.2.2.1 t.2.2.2.1 t.2.2.2.2) true := by
  obtain ⟨w1, w2, w3, w4, w5⟩ := w
  obtain ⟨f, m, κ, a, x⟩ := t
  have hf := wf_i64 w1
  have hm := wf_i64 w2
  have hk := wf_i64 w3
  have ha : 0 ≤ a ∧ a < 18446744073709551616 := wf_u64 w4
  show Ev (fun k => vernierlaw12_WholeMirror k f m κ a x) true
  obtain ⟨a, rfl⟩ := Int.eq_ofNat_of_zero_le ha.1
  obtain ⟨F, M, K, W, P, em, ex, h, hM, k0, k3, rt⟩ := wright_ev (f := f) (m := m) (κ := κ) (a := a) x hf hm hk (by omega)
  refine Ev.congr (fun k => vernierlaw12_WholeMirror_eq k _ _ _ _ _) (Ev.bind awake12_ev (Ev.neg (notF rfl) (Ev.bind rt ?_)))
  refine Ev.congr (fun k => mirror_mode k F M K _ x) (Ev.congr (fun k => vernierlaw12_WholeMirror.j0_eq k _ _ _ _ _ _) ?_)
  have l1 := Nat.mod_lt a (Nat.two_pow_pos W)
  generalize a % 2 ^ W = A at *
  have h8 := h.p8; have h3 := h.wp
  have hip := infP_le h
  have hpp := Nat.two_pow_pos (P - 1)
  have hq1 : 2 ^ (P - 1) = 2 * 2 ^ (P - 2) := by rw [show P - 1 = (P - 2) + 1 by omega, Nat.pow_succ, Nat.mul_comm]
  have hq2 := Nat.two_pow_pos (P - 2)
  have i1 : 0 < infP W P := Nat.mul_pos (by have := (eTop_le h).2; omega) (Nat.two_pow_pos _)
  obtain ⟨p1, p2, p3, p4, p5, p6⟩ := pat_parts h l1
  have hM' : Md (mir M) := by
    have := hM.m0; have := hM.m5
    unfold mir; split <;> (try split) <;> constructor <;> omega
  obtain ⟨y1, y2, y3⟩ := pk_at (W := W) (K := pk W A) p5 (by omega) (!ps W A)
  have r1 := Integral_ev h hM l1 true
  have op := opp06 h p5 (ps W A)
  rw [← p4] at op
  have r2 := Integral_ev h hM' y3 true
  rw [y1, y2] at r2
  obtain ⟨vn, d, e, o6, -⟩ := open06 h l1
  refine Ev.bind r1 (Ev.bind (Ev.of op) (Ev.bind r2 ?_))
  -- the three kinds
  have lN : infP W P + 2 ^ (P - 2) < 2 ^ W := by have := pow_half (P := W) (by omega); omega
  have kN : pk W (infP W P + 2 ^ (P - 2)) = infP W P + 2 ^ (P - 2) := Nat.mod_eq_of_lt (by omega)
  obtain ⟨vn', d', e', oN, -⟩ := open06 h lN
  rw [kN] at oN
  have nanC : infP W P < pk W A → ∀ fl : Int, Ev (fun k => (if ((0 : Int) != 0) = true then some false else (if ((0 : Int) != 0) = true then some false else (if (fl != fl) = true then some false else vernierlaw12_WholeMirror.j1 k ((infP W P + 2 ^ (P - 2) : Nat) : Int) ((infP W P + 2 ^ (P - 2) : Nat) : Int) F M K (A : Int) x)))) true := fun g fl => by
    refine Ev.neg (nF rfl) (Ev.neg (nF rfl) (Ev.neg (nF rfl) (Ev.congr (fun k => vernierlaw12_WholeMirror.j1_eq k _ _ _ _ _ _ _) (Ev.bind oN (Ev.pos (dT (by omega)) (Ev.pos (bT rfl) (Ev.bind o6 (Ev.eq (Ev.some _) (dT g)))))))))
  have opq : ∀ {B : Nat}, pk W B ≤ infP W P → B < 2 ^ W → ∃ vn d e, Ev (fun k => vernierref06_Open k F (B : Int)) (false, (decide (infP W P < pk W B ∧ pk W B < infP W P + 2 ^ (P - 2)), (decide (pk W B = infP W P), (ps W B, (vn, (d, e)))))) := fun {B} g hB => by
    obtain ⟨vn, d, e, o, -⟩ := open06 h hB
    rw [decide_eq_false (by omega)] at o
    exact ⟨vn, d, e, o⟩
  have sameC : pk W A ≤ infP W P → Ev (fun k => (if ((0 : Int) != 0) = true then some false else (if ((0 : Int) != 0) = true then some false else (if ((0 : Int) != 0) = true then some false else vernierlaw12_WholeMirror.j1 k (A : Int) ((pk W A + sgB (!ps W A) W : Nat) : Int) F M K (A : Int) x)))) true := fun g => by
    obtain ⟨_, _, _, oo⟩ := opq g l1
    exact Ev.neg (nF rfl) (Ev.neg (nF rfl) (Ev.neg (nF rfl) (Ev.congr (fun k => vernierlaw12_WholeMirror.j1_eq k _ _ _ _ _ _ _) (Ev.bind oo (Ev.neg (by simp) (Ev.bind (Ev.of op) (Ev.eq (Ev.some _) (bT rfl))))))))
  rcases opp_pair W P (pk W A) (ps W A) i1 with ⟨e1, e2, g⟩ | ⟨e1, e2, g⟩ | ⟨e1, e2, g⟩ | ⟨e1, e2, g1, g2⟩
  · rw [e1, e2]; exact nanC g 1
  · rw [e1, e2]; exact nanC g 0
  · have v1 : inR W P em M (clsOf W P (pk W A) (ps W A)) (A : Int) ((infP W P + 2 ^ (P - 2) : Nat) : Int) (ps W A) true (pk W A) = ((A : Int), ((0 : Int), (0 : Int))) := by
      unfold inR; rw [if_neg (by omega), if_neg (by omega), if_pos e1]
    have v2 : inR W P em (mir M) (clsOf W P (pk W A) (!ps W A)) ((pk W A + sgB (!ps W A) W : Nat) : Int) ((infP W P + 2 ^ (P - 2) : Nat) : Int) (!ps W A) true (pk W A) = (((pk W A + sgB (!ps W A) W : Nat) : Int), ((0 : Int), (0 : Int))) := by
      unfold inR; rw [if_neg (by omega), if_neg (by omega), if_pos e2]
    rw [v1, v2]
    exact sameC g
  · have v1 : inR W P em M (clsOf W P (pk W A) (ps W A)) (A : Int) ((infP W P + 2 ^ (P - 2) : Nat) : Int) (ps W A) true (pk W A) = (((wK P em M (ps W A) (pk W A) + sgB (ps W A) W : Nat) : Int), ((if true = true ∧ wL P em (pk W A) = true then 16 else 0), (0 : Int))) := by
      unfold inR; rw [if_neg (by omega), if_neg (by omega), if_neg (by omega)]
    have v2 : inR W P em (mir M) (clsOf W P (pk W A) (!ps W A)) ((pk W A + sgB (!ps W A) W : Nat) : Int) ((infP W P + 2 ^ (P - 2) : Nat) : Int) (!ps W A) true (pk W A) = (((wK P em M (ps W A) (pk W A) + sgB (!ps W A) W : Nat) : Int), ((if true = true ∧ wL P em (pk W A) = true then 16 else 0), (0 : Int))) := by
      unfold inR; rw [if_neg (by omega), if_neg (by omega), if_neg (by omega), wK_mir]
    rw [v1, v2]
    obtain ⟨k1, k2⟩ := wK_ok h (m := M) (ps W A) g2
    obtain ⟨z1, z2, z3⟩ := pk_at (W := W) (K := wK P em M (ps W A) (pk W A)) (by omega) (by omega) (ps W A)
    obtain ⟨_, _, _, oo⟩ := opq (B := wK P em M (ps W A) (pk W A) + sgB (ps W A) W) (by rw [z1]; omega) z3
    have op2 := opp06 h (K := wK P em M (ps W A) (pk W A)) (by omega) (ps W A)
    exact Ev.neg (nF rfl) (Ev.neg (nF rfl) (Ev.neg (nF rfl) (Ev.congr (fun k => vernierlaw12_WholeMirror.j1_eq k _ _ _ _ _ _ _) (Ev.bind oo (Ev.neg (by simp) (Ev.bind (Ev.of op2) (Ev.eq (Ev.some _) (bT rfl))))))))
end Pure
end Go.Proofs.YtldjheckpophaaaDoor.X
