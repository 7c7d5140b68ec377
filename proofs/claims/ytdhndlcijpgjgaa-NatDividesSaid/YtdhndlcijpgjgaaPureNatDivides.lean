/- Plain law: NatDivides answers true. Conditions: what the reading says of the lists. -/
import Derived.Test.YtdhndlcijpgjgaaNatI
import Derived.Test.YtdhndlcijpgjgaaPureNatRing
namespace Go.Proofs.Ytdhndlcijpgjgaa.X
open Go Go.Rex
set_option linter.unusedVariables false

namespace Pure
section
variable {a b c : List Int} (ha : WF a) (hb : WF b) (hc : WF c) (la : Lb a) (lb : Lb b) (lc : Lb c) (ca : (digs (val a)).length ≤ 300) (cb : (digs (val b)).length ≤ 300) (cc : (digs (val c)).length ≤ 300)
include ha hb hc la lb lc ca cb cc

theorem divs_j4 (hB : val b ≠ 0) : Ev (fun k => vernierlaw02_NatDivides.j4 k a b c (digs (Nat.gcd (val a) (val b)))) true := by
  have c1 := mul_len ca cc
  have c2 := mul_len cb cc
  have cg : (digs (Nat.gcd (val a) (val b))).length ≤ 300 := Nat.le_trans (digs_len_mono (Nat.gcd_le_right _ (by omega))) cb
  have c3 := mul_len cg cc
  refine Ev.congr (fun k => vernierlaw02_NatDivides.j4_eq k _ _ _ _) (Ev.bind (twin_ev la) (Ev.bind (twin_ev lc) (Ev.bind (Mul_ev ha hc la lc (by omega) (by omega) (by omega)) (Ev.bind (twin_ev lb) (Ev.bind (twin_ev lc) (Ev.bind (Mul_ev hb hc lb lc (by omega) (by omega) (by omega)) (Ev.bind (twin_ev lc) ?_)))))))
  have h1 := Mul_ev (a := digs (Nat.gcd (val a) (val b))) (b := c) (WF.digs _) hc (lb_of cg (by omega)) lc (by rw [val_digs]; omega) (by omega) (by rw [val_digs]; omega)
  rw [val_digs] at h1
  have h2 := Gcd_ev (a := digs (val a * val c)) (b := digs (val b * val c)) (WF.digs _) (WF.digs _) (lb_of c1 (by omega)) (lb_of c2 (by omega)) (by rw [val_digs]; omega) (by rw [val_digs]; omega)
  rw [val_digs, val_digs, Nat.gcd_mul_right] at h2
  exact Ev.bind h1 (Ev.bind h2 (Ev.pos (bT rfl) (Ev.pos (bT rfl) (Ev.pos (bT rfl) (Ev.pos (bT rfl) (Ev.bind (same_refl (lb_of c3 (by omega))) (Ev.some _)))))))
theorem divs_j3 (hB : val b ≠ 0) : Ev (fun k => vernierlaw02_NatDivides.j3 k a b c (digs (Nat.gcd (val a) (val b)))) true := by
  refine Ev.congr (fun k => vernierlaw02_NatDivides.j3_eq k _ _ _ _) (Ev.bind (size_ev hc lc) ?_)
  by_cases h : ((digs (val c)).length : Int) = 0
  · exact Ev.pos (bT h) (Ev.some _)
  · refine Ev.neg (bF h) (Ev.bind (size_ev ha la) (Ev.bind (size_ev hb lb) (Ev.bind (size_ev hc lc) ?_)))
    by_cases h2 : (IntKind.i64.wrap ((IntKind.i64.wrap (((digs (val a)).length : Int) + ((digs (val b)).length : Int))) + ((digs (val c)).length : Int))) > 60
    · exact Ev.pos (dT h2) (Ev.some _)
    · exact Ev.neg (dF h2) (divs_j4 ha hb hc la lb lc ca cb cc hB)
theorem divs_j2 (hB : val b ≠ 0) : Ev (fun k => vernierlaw02_NatDivides.j2 k a b c (digs (Nat.gcd (val a) (val b)))) true := by
  have cg : (digs (Nat.gcd (val a) (val b))).length ≤ 300 := Nat.le_trans (digs_len_mono (Nat.gcd_le_right _ (by omega))) cb
  have hg : Nat.gcd (val a) (val b) ≠ 0 := by have := Nat.gcd_pos_of_pos_right (val a) (Nat.pos_of_ne_zero hB); omega
  have h1 := DivMod_ev (b := digs (Nat.gcd (val a) (val b))) ha (WF.digs _) la (lb_of cg (by omega)) (by omega) (by rw [val_digs]; omega) (by rw [val_digs]; exact hg)
  have h2 := DivMod_ev (b := digs (Nat.gcd (val a) (val b))) hb (WF.digs _) lb (lb_of cg (by omega)) (by omega) (by rw [val_digs]; omega) (by rw [val_digs]; exact hg)
  rw [val_digs] at h1 h2
  have m1 : val a % Nat.gcd (val a) (val b) = 0 := Nat.mod_eq_zero_of_dvd (Nat.gcd_dvd_left _ _)
  have m2 : val b % Nat.gcd (val a) (val b) = 0 := Nat.mod_eq_zero_of_dvd (Nat.gcd_dvd_right _ _)
  rw [m1, digs_zero] at h1
  rw [m2, digs_zero] at h2
  refine Ev.congr (fun k => vernierlaw02_NatDivides.j2_eq k _ _ _ _) (Ev.bind (twin_ev la) (Ev.bind h1 (Ev.bind (twin_ev lb) (Ev.bind h2 ?_))))
  exact Ev.neg (nF rfl) (Ev.neg (nF rfl) (Ev.neg (nF rfl) (Ev.neg (nF rfl) (divs_j3 ha hb hc la lb lc ca cb cc hB))))
theorem divs_j1 (hB : val b ≠ 0) : Ev (fun k => vernierlaw02_NatDivides.j1 k a b c) true := by
  have hg : Nat.gcd (val a) (val b) ≠ 0 := by have := Nat.gcd_pos_of_pos_right (val a) (Nat.pos_of_ne_zero hB); omega
  have := digs_len_pos.2 hg
  refine Ev.congr (fun k => vernierlaw02_NatDivides.j1_eq k _ _ _) (Ev.bind (twin_ev la) (Ev.bind (twin_ev lb) (Ev.bind (Gcd_ev ha hb la lb (by omega) (by omega)) ?_)))
  exact Ev.neg (nF rfl) (Ev.neg (bF (by show ((digs (Nat.gcd (val a) (val b))).length : Int) ≠ 0; omega)) (divs_j2 ha hb hc la lb lc ca cb cc hB))
theorem divs_j0 : Ev (fun k => vernierlaw02_NatDivides.j0 k a b c) true := by
  refine Ev.congr (fun k => vernierlaw02_NatDivides.j0_eq k _ _ _) (Ev.bind (twin_ev la) (Ev.bind (twin_ev lb) ?_))
  by_cases hB : val b = 0
  · refine Ev.bind (DivMod_zero ha hb la lb (by omega) hB) (Ev.bind (size_ev hb lb) ?_)
    rw [hB, digs_zero]
    exact Ev.pos (bT rfl) (Ev.pos (bT rfl) (Ev.pos (bT rfl) (Ev.eq (Ev.some _) rfl)))
  · have lenB := digs_len_pos.2 hB
    have hm := Nat.mod_lt (val a) (Nat.pos_of_ne_zero hB)
    have hdm := Nat.div_add_mod (val a) (val b)
    have cq : (digs (val a / val b)).length ≤ 300 := Nat.le_trans (digs_len_mono (Nat.div_le_self _ _)) ca
    have cr : (digs (val a % val b)).length ≤ 300 := Nat.le_trans (digs_len_mono (Nat.le_of_lt hm)) cb
    have cp : (digs (val a / val b * val b)).length ≤ 300 := Nat.le_trans (digs_len_mono (Nat.div_mul_le_self _ _)) ca
    refine Ev.bind (DivMod_ev ha hb la lb (by omega) (by omega) hB) (Ev.bind (size_ev hb lb) (Ev.neg (bF (by omega)) (Ev.bind (twin_ev lb) ?_)))
    have h1 := Mul_ev (a := digs (val a / val b)) (b := b) (WF.digs _) hb (lb_of cq (by omega)) lb (by rw [val_digs]; omega) (by omega) (by rw [val_digs]; omega)
    rw [val_digs] at h1
    refine Ev.bind h1 (Ev.neg (nF rfl) (Ev.neg (nF rfl) (Ev.bind (neat_ev (lb_of cq (by omega))) (Ev.neg (notF rfl) (Ev.bind (neat_ev (lb_of cr (by omega))) (Ev.neg (notF rfl) (Ev.bind (twin_ev lb) ?_)))))))
    have h2 := Cmp_ev (a := digs (val a % val b)) (b := b) (WF.digs _) hb (lb_of cr (by omega)) lb
    rw [val_digs, show cmpN (val a % val b) (val b) = -1 by rw [cmpN, if_pos hm]] at h2
    refine Ev.bind h2 (Ev.neg (dF (by decide)) ?_)
    have h3 := Add_ev (a := digs (val a / val b * val b)) (b := digs (val a % val b)) (WF.digs _) (WF.digs _) (lb_of cp (by omega)) (lb_of cr (by omega)) (by rw [val_digs]; omega) (by rw [val_digs]; omega)
    rw [val_digs, val_digs, Nat.mul_comm (val a / val b), hdm] at h3
    rw [Nat.mul_comm (val a / val b)]
    exact Ev.bind h3 (Ev.bind (twin_ev la) (Ev.bind (Trim_ev ha la) (Ev.bind (same_refl (la.ofv ha)) (Ev.neg (notF rfl) (divs_j1 ha hb hc la lb lc ca cb cc hB)))))
end

/-- For all lists: true. -/
theorem NatDivides (a b c : List Int) (wa : WFt (.sl (.int .u64)) a) (wb : WFt (.sl (.int .u64)) b) (wc : WFt (.sl (.int .u64)) c) : Ev (fun k => vernierlaw02_NatDivides k a b c) true := by
  obtain ⟨ha, la⟩ := wf_words wa
  obtain ⟨hb, lb⟩ := wf_words wb
  obtain ⟨hc, lc⟩ := wf_words wc
  refine Ev.congr (fun k => vernierlaw02_NatDivides_eq k a b c) (Ev.bind awake_ev (Ev.neg (notF rfl) (Ev.bind (size_ev ha la) ?_)))
  by_cases ca : (digs (val a)).length ≤ 300
  · refine Ev.neg (dF (by omega)) (Ev.bind (size_ev hb lb) ?_)
    by_cases cb : (digs (val b)).length ≤ 300
    · refine Ev.neg (dF (by omega)) (Ev.bind (size_ev hc lc) ?_)
      by_cases cc : (digs (val c)).length ≤ 300
      · exact Ev.neg (dF (by omega)) (divs_j0 ha hb hc la lb lc ca cb cc)
      · exact Ev.pos (dT (by omega)) (Ev.some _)
    · exact Ev.pos (dT (by omega)) (Ev.some _)
  · exact Ev.pos (dT (by omega)) (Ev.some _)
end Pure
end Go.Proofs.Ytdhndlcijpgjgaa.X
