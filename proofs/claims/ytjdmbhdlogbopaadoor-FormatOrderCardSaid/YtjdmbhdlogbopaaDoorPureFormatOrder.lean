/- Plain law: FormatOrder answers true. Conditions: what the reading says of the arguments. -/
import Derived.Test.YtjdmbhdlogbopaaDoorFmB
namespace Go.Proofs.YtjdmbhdlogbopaaDoor.X
open Go Go.Rex
set_option linter.unusedVariables false

theorem fixed_at (k : Nat) : vernierlaw04_fixed k = some true := by kernel_rfl
theorem sg_as {neg s : Bool} {N d M : Nat} (hM : N * 2 ^ d = M) (hn : N ≠ 0 → neg = s) : sg neg M = sg s M := by
  by_cases h : N = 0
  · subst h
    rw [Nat.zero_mul] at hM
    subst hM
    cases neg <;> cases s <;> rfl
  · rw [hn h]
theorem sg_not {neg s : Bool} {N d M : Nat} (hM : N * 2 ^ d = M) (hn : N ≠ 0 → neg = s) : sg (!neg) M = sg (!s) M := sg_as (N := N) (d := d) hM fun h => by rw [hn h]
theorem sgn_sub (a b : Nat) : sgn (sg false a + sg true b) = cmpN a b := by
  simp only [sg, Bool.false_eq_true, if_false, if_true]
  unfold sgn cmpN
  split <;> split <;> (try split) <;> (try split) <;> omega
theorem sgn_sub' (a b : Nat) : sgn (sg true a + sg false b) = 0 - cmpN a b := by
  simp only [sg, Bool.false_eq_true, if_false, if_true]
  unfold sgn cmpN
  split <;> split <;> (try split) <;> (try split) <;> omega
theorem pM_cmp (P x y : Nat) : cmpN (pM P (x / 2 ^ (P - 1)) (x % 2 ^ (P - 1))) (pM P (y / 2 ^ (P - 1)) (y % 2 ^ (P - 1))) = cmpN x y := by
  unfold pM
  rcases Nat.lt_trichotomy x y with c | c | c
  · have := order_lt (P := P) c
    rw [cmpN, if_pos this, cmpN, if_pos c]
  · subst c; simp [cmpN]
  · have := order_lt (P := P) c
    rw [cmpN, if_neg (by omega), if_pos this, cmpN, if_neg (by omega), if_pos c]
section
variable {f : Int} {W P : Nat} {em ex : Int} (h : Fm f W P em ex)
include h
theorem pos_fields {p : Nat} (hp : p < 2 ^ (W - 1)) : p < 2 ^ W ∧ p / 2 ^ (P - 1) % 2 ^ (W - P) = p / 2 ^ (P - 1) ∧ (((p / 2 ^ (W - 1) : Nat) : Int) != 0) = false := by
  have h1 := h.w64; have h2 := h.p8; have h3 := h.wp
  refine ⟨Nat.lt_of_lt_of_le hp (pow_mono2 (by omega)), Nat.mod_eq_of_lt ?_, ?_⟩
  · rw [Nat.div_lt_iff_lt_mul (Nat.two_pow_pos _), ← Nat.pow_add, show W - P + (P - 1) = W - 1 by omega]; exact hp
  · rw [Nat.div_eq_of_lt hp]; rfl
theorem neg_fields {p : Nat} (hp : p < 2 ^ (W - 1)) : p + 2 ^ (W - 1) < 2 ^ W ∧ (p + 2 ^ (W - 1)) / 2 ^ (P - 1) % 2 ^ (W - P) = p / 2 ^ (P - 1) ∧ (p + 2 ^ (W - 1)) % 2 ^ (P - 1) = p % 2 ^ (P - 1) ∧ ((((p + 2 ^ (W - 1)) / 2 ^ (W - 1) : Nat) : Int) != 0) = true := by
  have h1 := h.w64; have h2 := h.p8; have h3 := h.wp
  have e : 2 ^ (W - 1) = 2 ^ (W - P) * 2 ^ (P - 1) := by rw [← Nat.pow_add]; congr 1; omega
  have hW : 2 ^ W = 2 * 2 ^ (W - 1) := by rw [show W = (W - 1) + 1 by omega, Nat.pow_succ, Nat.mul_comm]; rfl
  have hq := (pos_fields h hp).2.1
  refine ⟨by omega, ?_, ?_, ?_⟩
  · rw [e, Nat.add_mul_div_right _ _ (Nat.two_pow_pos _), Nat.add_mod_right]; exact hq
  · rw [e, Nat.add_mul_mod_self_right]
  · rw [Nat.add_div_right _ (Nat.two_pow_pos _), Nat.div_eq_of_lt hp]; rfl
theorem ord_j4 {x y : Nat} (hx : x < 2 ^ (W - 1)) (hy : y < 2 ^ (W - 1)) (cx : x / 2 ^ (P - 1) ≠ 2 ^ (W - P) - 1) (cy : y / 2 ^ (P - 1) ≠ 2 ^ (W - P) - 1) {neg : Bool} {N : Nat} {e : Int} (hs : Sm N e) (hl : (digs N).length ≤ 10) (he : e ≤ 38000) (hB : em - (P : Int) + 1 ≤ e)
    (hM : N * 2 ^ (e - (em - (P : Int) + 1)).toNat = pM P (x / 2 ^ (P - 1)) (x % 2 ^ (P - 1))) (hn : N ≠ 0 → neg = false) :
    Ev (fun k => vernierlaw04_FormatOrder.j4 k f (cmpN x y) ((x + 2 ^ (W - 1) : Nat) : Int) ((y + 2 ^ (W - 1) : Nat) : Int) (digs N) neg e) true := by
  have h5 := h.p53; have m0 := h.m0; have m1 := h.m1; have h2 := h.p8
  obtain ⟨a1, a2, a3, a4⟩ := neg_fields h hx
  obtain ⟨b1, b2, b3, b4⟩ := neg_fields h hy
  obtain ⟨n1, N1, e1, v1, s1, l1, k1, B1, M1, g1⟩ := value_num h a1 a2 a3 cx
  obtain ⟨n2, N2, e2, v2, s2, l2, k2, B2, M2, g2⟩ := value_num h b1 b2 b3 cy
  rw [a4] at g1
  rw [b4] at g2
  have c1 := DCmp_ev s1 s2 n1 n2 (em - (P : Int) + 1) B1 B2 (by omega)
  rw [M1, M2, sg_as M1 g1, sg_not M2 g2, Bool.not_true, sgn_sub', pM_cmp P x y] at c1
  -- the opposite of the first
  have hneg : ∃ (n3 : Bool) (N3 : Nat) (e3 : Int), Ev (fun k => dyad_Neg k neg (digs N) e) (n3, (digs N3, (e3, (0 : Int)))) ∧ Sm N3 e3 ∧ em - (P : Int) + 1 ≤ e3 ∧ N3 * 2 ^ (e3 - (em - (P : Int) + 1)).toNat = pM P (x / 2 ^ (P - 1)) (x % 2 ^ (P - 1)) ∧ (N3 ≠ 0 → n3 = true) := by
    by_cases h0 : N = 0
    · subst h0
      refine ⟨false, 0, 0, ?_, ⟨by rw [digs_zero]; simp, by omega, by omega⟩, by omega, ?_, fun e => absurd rfl e⟩
      · rw [digs_zero]
        have hr := refuses_ev hs neg
        rw [digs_zero] at hr
        refine Ev.congr (fun k => dyad_Neg_eq k _ _ _) (Ev.bind hr (Ev.neg (nF rfl) (Ev.bind (Ev.congr (fun k => dyad_answer_eq k _ _ _) (Ev.bind (odd_zero WF.nil (by unfold Lb; simp) rfl (!neg) e) (Ev.neg (dF (by simp)) (Ev.neg (dF (by simp)) (Ev.neg (dF (by simp)) (Ev.some _)))))) (Ev.some _))))
      · rw [← hM, Nat.zero_mul, Nat.zero_mul]
    · obtain ⟨t, m, w1, w2, w3⟩ := DNeg_ev hs (by omega) hl h0 neg
      rw [hn h0] at w3
      have hr : N / 2 ^ t ≠ 0 := by rw [w1, Nat.mul_div_cancel_left _ (Nat.two_pow_pos t)]; omega
      have hrl : (digs (N / 2 ^ t)).length ≤ 10 := Nat.le_trans (digs_len_mono (Nat.div_le_self _ _)) hl
      have q0 := hs.e0
      refine ⟨true, N / 2 ^ t, e + t, by rw [hn h0]; exact w3, ⟨by omega, by omega, by omega⟩, by omega, ?_, fun _ => rfl⟩
      rw [← hM, ← odd_place w1 (e - (em - (P : Int) + 1)).toNat]
      congr 2; omega
  obtain ⟨n3, N3, e3, w1, w2, w3, w4, w5⟩ := hneg
  have c2 := DCmp_ev s1 w2 n1 n3 (em - (P : Int) + 1) B1 w3 (by omega)
  rw [M1, w4, sg_as M1 g1, sg_not w4 w5, Bool.not_true, sgn_sub', show cmpN (pM P (x / 2 ^ (P - 1)) (x % 2 ^ (P - 1))) (pM P (x / 2 ^ (P - 1)) (x % 2 ^ (P - 1))) = 0 by simp [cmpN]] at c2
  refine Ev.congr (fun k => vernierlaw04_FormatOrder.j4_eq k _ _ _ _ _ _ _) (Ev.bind (Ev.of v1) (Ev.bind (Ev.of v2) (Ev.bind c1 (Ev.bind w1 (Ev.bind c2 ?_)))))
  have hw : 0 - cmpN x y = IntKind.i64.wrap (0 - cmpN x y) := by
    unfold cmpN; split <;> (try split) <;> rfl
  exact Ev.pos (bT rfl) (Ev.pos (bT rfl) (Ev.pos (bT rfl) (Ev.pos (bT rfl) (Ev.pos (bT rfl) (Ev.pos (bT hw) (Ev.eq (Ev.some _) rfl))))))
theorem ord_j0 {x y : Nat} (hx : x < 2 ^ (W - 1)) (hy : y < 2 ^ (W - 1)) : Ev (fun k => vernierlaw04_FormatOrder.j0 k f (x : Int) (y : Int)) true := by
  have m0 := h.m0; have m1 := h.m1; have h5 := h.p53; have h2 := h.p8
  obtain ⟨a1, a2, a4⟩ := pos_fields h hx
  obtain ⟨b1, b2, b4⟩ := pos_fields h hy
  have anyv : ∀ (a : Nat), a < 2 ^ W → ∃ r, ∀ k, format_Value k f (a : Int) = some r := by
    intro a ha
    by_cases c : a / 2 ^ (P - 1) % 2 ^ (W - P) = 2 ^ (W - P) - 1
    · exact ⟨_, (value_at h ha rfl rfl).1 c⟩
    · obtain ⟨_, _, _, v, _⟩ := value_num h ha rfl rfl c
      exact ⟨_, v⟩
  by_cases cx : x / 2 ^ (P - 1) = 2 ^ (W - P) - 1
  · have v1 := (value_at h a1 a2 rfl).1 cx
    obtain ⟨r, v2⟩ := anyv y b1
    exact Ev.congr (fun k => vernierlaw04_FormatOrder.j0_eq k _ _ _) (Ev.bind (Ev.of v1) (Ev.bind (Ev.of v2) (Ev.pos (nT (by decide)) (Ev.some _))))
  obtain ⟨n1, N1, e1, v1, s1, l1, k1, B1, M1, g1⟩ := value_num h a1 a2 rfl cx
  by_cases cy : y / 2 ^ (P - 1) = 2 ^ (W - P) - 1
  · have v2 := (value_at h b1 b2 rfl).1 cy
    exact Ev.congr (fun k => vernierlaw04_FormatOrder.j0_eq k _ _ _) (Ev.bind (Ev.of v1) (Ev.bind (Ev.of v2) (Ev.neg (nF rfl) (Ev.pos (nT (by decide)) (Ev.some _)))))
  obtain ⟨n2, N2, e2, v2, s2, l2, k2, B2, M2, g2⟩ := value_num h b1 b2 rfl cy
  rw [a4] at g1
  rw [b4] at g2
  have c1 := DCmp_ev s1 s2 n1 n2 (em - (P : Int) + 1) B1 B2 (by omega)
  rw [M1, M2, sg_as M1 g1, sg_not M2 g2, Bool.not_false, sgn_sub, pM_cmp P x y] at c1
  have j3 : Ev (fun k => vernierlaw04_FormatOrder.j3 k f (x : Int) (y : Int) (cmpN x y) (digs N1) n1 e1 (digs N2) n2 e2) true := by
    refine Ev.congr (fun k => vernierlaw04_FormatOrder.j3_eq k _ _ _ _ _ _ _ _ _ _) (Ev.bind c1 (Ev.bind (Ev.of fun k => neg_at h k x hx) (Ev.bind (Ev.of fun k => neg_at h k y hy) ?_)))
    exact Ev.neg (nF rfl) (Ev.neg (nF rfl) (Ev.neg (nF rfl) (Ev.neg (nF rfl) (ord_j4 h hx hy cx cy s1 l1 k1 B1 M1 g1))))
  refine Ev.congr (fun k => vernierlaw04_FormatOrder.j0_eq k _ _ _) (Ev.bind (Ev.of v1) (Ev.bind (Ev.of v2) (Ev.neg (nF rfl) (Ev.neg (nF rfl) (Ev.congr (fun k => vernierlaw04_FormatOrder.j1_eq k _ _ _ _ _ _ _ _ _) ?_)))))
  rcases Nat.lt_trichotomy x y with c | c | c
  · have ec : cmpN x y = -1 := by rw [cmpN, if_pos c]
    rw [ec] at j3
    exact Ev.pos (dT (by omega)) (Ev.congr (fun k => vernierlaw04_FormatOrder.j2_eq k _ _ _ _ _ _ _ _ _ _) (Ev.neg (dF (by omega)) j3))
  · have ec : cmpN x y = 0 := by rw [cmpN, if_neg (by omega), if_neg (by omega)]
    rw [ec] at j3
    exact Ev.neg (dF (by omega)) (Ev.congr (fun k => vernierlaw04_FormatOrder.j2_eq k _ _ _ _ _ _ _ _ _ _) (Ev.neg (dF (by omega)) j3))
  · have ec : cmpN x y = 1 := by rw [cmpN, if_neg (by omega), if_pos c]
    rw [ec] at j3
    exact Ev.neg (dF (by omega)) (Ev.congr (fun k => vernierlaw04_FormatOrder.j2_eq k _ _ _ _ _ _ _ _ _ _) (Ev.pos (dT (by omega)) j3))
end
/-- Of no format: refused. -/
theorem abs_out {f : Int} (hf : f < 0 ∨ 4 ≤ f) (k : Nat) (a : Int) : format_Abs k f a = some ((0 : Int), (2 : Int)) := by
  have hp : format_Params k f = some (0, (0, (0, (0, 2)))) := by
    rw [format_Params_eq]
    rcases hf with c | c
    · rw [if_pos (dT c)]
    · by_cases c2 : f < 0
      · rw [if_pos (dT c2)]
      · rw [if_neg (dF c2), if_pos (dT (by omega))]
  rw [format_Abs_eq, format_Check_eq, hp]
  rfl

namespace Pure
/-- For all arguments: true. -/
theorem FormatOrder (f a b : Int) (wf : (Lit.int .i64 f).wf = true) (wa : (Lit.int .u64 a).wf = true) (wb : (Lit.int .u64 b).wf = true) : Ev (fun k => vernierlaw04_FormatOrder k f a b) true := by
  have ha := wf_u64 wa
  have hb := wf_u64 wb
  refine Ev.congr (fun k => vernierlaw04_FormatOrder_eq k _ _ _) (Ev.bind (Ev.of fixed_at) (Ev.neg (notF rfl) ?_))
  by_cases hf : 0 ≤ f ∧ f < 4
  · obtain ⟨W, P, em, ex, h⟩ := fm_of hf.1 hf.2
    obtain ⟨x, rfl⟩ := Int.eq_ofNat_of_zero_le ha.1
    obtain ⟨y, rfl⟩ := Int.eq_ofNat_of_zero_le hb.1
    obtain ⟨u, e, p1, p2⟩ := abs_all h x (by omega)
    obtain ⟨v, g, q1, q2⟩ := abs_all h y (by omega)
    refine Ev.bind (Ev.of p1) (Ev.bind (Ev.of q1) ?_)
    by_cases c1 : e = 0
    · by_cases c2 : g = 0
      · exact Ev.neg (nF c1) (Ev.neg (nF c2) (ord_j0 h (p2 c1) (q2 c2)))
      · exact Ev.neg (nF c1) (Ev.pos (nT c2) (Ev.some _))
    · exact Ev.pos (nT c1) (Ev.some _)
  · have hf' : f < 0 ∨ 4 ≤ f := by omega
    exact Ev.bind (Ev.of fun k => abs_out hf' k a) (Ev.bind (Ev.of fun k => abs_out hf' k b) (Ev.pos (nT (by decide)) (Ev.some _)))
end Pure
end Go.Proofs.YtjdmbhdlogbopaaDoor.X
