/- Plain law: NatRing answers true. Conditions: what the reading says of the lists. -/
import Derived.Test.YtdhndlcijpgjgaaNatC
import Derived.Test.YtdhndlcijpgjgaaR2
namespace Go.Proofs.Ytdhndlcijpgjgaa.X
open Go Go.Rex
set_option linter.unusedVariables false

theorem wf_words {x : List Int} (w : WFt (.sl (.int .u64)) x) : WF x ∧ Lb x := by
  obtain ⟨h1, h2⟩ := w
  refine ⟨fun y hy => wf_u64 (h2 y hy), ?_⟩
  simp only [minB, IntKind.bits] at h1
  unfold Lb
  omega
theorem add_len {x y m : Nat} (hx : (digs x).length ≤ m) (hy : (digs y).length ≤ m) : (digs (x + y)).length ≤ m + 1 := by
  rw [digs_length_lt] at *
  rw [pow_s]
  omega
theorem lb_of {n m : Nat} (h : (digs n).length ≤ m) (hm : m ≤ 17592186044416) : Lb (digs n) := Nat.le_trans h hm
theorem cmpN_self (x : Nat) : cmpN x x = 0 := by simp [cmpN]

namespace Pure
section
variable {a b c : List Int} (ha : WF a) (hb : WF b) (hc : WF c) (la : Lb a) (lb : Lb b) (lc : Lb c) (ca : (digs (val a)).length ≤ 300) (cb : (digs (val b)).length ≤ 300) (cc : (digs (val c)).length ≤ 300)
include ha hb la lb ca cb

theorem ring_j3 : Ev (fun k => vernierlaw02_NatRing.j3 k a b) true := by
  refine Ev.congr (fun k => vernierlaw02_NatRing.j3_eq k a b) (Ev.bind (twin_ev la) (Ev.bind (twin_ev lb) ?_))
  by_cases h : val a < val b
  · refine Ev.bind (Sub_less ha hb la lb h) (Ev.bind (twin_ev la) (Ev.bind (twin_ev lb) (Ev.bind (Cmp_ev ha hb la lb) (Ev.bind (twin_ev lb) (Ev.bind (twin_ev la) (Ev.bind (Cmp_ev hb ha lb la) ?_))))))
    have e1 : cmpN (val a) (val b) = -1 := by rw [cmpN, if_pos h]
    have e2 : cmpN (val b) (val a) = 1 := by rw [cmpN, if_neg (by omega), if_pos h]
    rw [e1, e2]
    exact Ev.neg (nF (by decide)) (Ev.pos (dT (by decide)) (Ev.pos (bT rfl) (Ev.some _)))
  · refine Ev.bind (Sub_ev ha hb la lb (by omega)) (Ev.bind (twin_ev la) (Ev.bind (twin_ev lb) (Ev.bind (Cmp_ev ha hb la lb) (Ev.bind (twin_ev lb) (Ev.bind (twin_ev la) (Ev.bind (Cmp_ev hb ha lb la) ?_))))))
    have e0 : cmpN (val a) (val b) = (IntKind.i64.wrap (0 - cmpN (val b) (val a))) := by
      unfold cmpN; split <;> (try split) <;> (try split) <;> (try split) <;> first | rfl | omega
    have hd : (digs (val a - val b)).length ≤ 300 := Nat.le_trans (digs_len_mono (by omega)) ca
    refine Ev.neg (nF e0) (Ev.neg (dF (by rw [cmpN, if_neg h]; split <;> omega)) (Ev.pos (bT rfl) (Ev.bind (twin_ev lb) ?_)))
    have h1 := Add_ev (a := digs (val a - val b)) (b := b) (WF.digs _) hb (lb_of hd (by omega)) lb (by rw [val_digs]; omega) (by omega)
    rw [val_digs, show val a - val b + val b = val a by omega] at h1
    refine Ev.bind h1 (Ev.bind (twin_ev la) (Ev.bind (Trim_ev ha la) (Ev.bind (same_refl (la.ofv ha)) (Ev.pos rfl (Ev.eq (Ev.some _) ?_)))))
    have : ((digs (val a - val b)).length = 0) ↔ val a - val b = 0 := by rw [List.length_eq_zero_iff, digs_nil]
    by_cases e : val a = val b
    · rw [e, cmpN_self, Nat.sub_self, digs_zero]; rfl
    · have n1 : cmpN (val a) (val b) = 1 := by rw [cmpN, if_neg h, if_pos (by omega)]
      rw [n1]
      have n2 : ((digs (val a - val b)).length : Int) ≠ 0 := by omega
      simp only [beq_eq_false_iff_ne.2 n2]; rfl

theorem ring_j2 : Ev (fun k => vernierlaw02_NatRing.j2 k a b (digs (val a + val b))) true := by
  have cs := add_len ca cb
  refine Ev.congr (fun k => vernierlaw02_NatRing.j2_eq k a b _) (Ev.bind (twin_ev la) ?_)
  have h1 := Sub_ev (a := digs (val a + val b)) (b := a) (WF.digs _) ha (lb_of cs (by omega)) la (by rw [val_digs]; omega)
  rw [val_digs, show val a + val b - val a = val b by omega] at h1
  refine Ev.bind h1 (Ev.neg (nF rfl) (Ev.bind (neat_ev (lb.ofv hb)) (Ev.neg (notF rfl) (Ev.bind (twin_ev lb) ?_))))
  have h2 := Cmp_ev (a := digs (val b)) (b := b) (WF.digs _) hb (lb.ofv hb) lb
  rw [val_digs, cmpN_self] at h2
  exact Ev.bind h2 (Ev.neg (nF rfl) (Ev.bind (twin_ev lb) (Ev.bind (Trim_ev hb lb) (Ev.bind (same_refl (lb.ofv hb)) (Ev.neg (notF rfl) (ring_j3 ha hb la lb ca cb))))))

include hc lc cc
theorem ring_j1 : Ev (fun k => vernierlaw02_NatRing.j1 k a b c (digs (val a + val b))) true := by
  have cs := add_len ca cb
  have c1 := mul_len cs cc
  have c2 := mul_len ca cc
  have c3 := mul_len cc cb
  refine Ev.congr (fun k => vernierlaw02_NatRing.j1_eq k a b c _) (Ev.bind (twin_ev lc) ?_)
  have h1 := Mul_ev (a := digs (val a + val b)) (b := c) (WF.digs _) hc (lb_of cs (by omega)) lc (by rw [val_digs]; omega) (by omega) (by rw [val_digs]; omega)
  rw [val_digs] at h1
  refine Ev.bind h1 (Ev.bind (twin_ev la) (Ev.bind (twin_ev lc) (Ev.bind (Mul_ev ha hc la lc (by omega) (by omega) (by omega)) (Ev.bind (twin_ev lc) (Ev.bind (twin_ev lb) (Ev.bind (Mul_ev hc hb lc lb (by omega) (by omega) (by omega)) ?_))))))
  refine Ev.neg (nF rfl) (Ev.neg (nF rfl) (Ev.neg (nF rfl) (Ev.bind (neat_ev (lb_of c1 (by omega))) (Ev.neg (notF rfl) ?_))))
  have h2 := Add_ev (a := digs (val a * val c)) (b := digs (val c * val b)) (WF.digs _) (WF.digs _) (lb_of c2 (by omega)) (lb_of c3 (by omega)) (by rw [val_digs]; omega) (by rw [val_digs]; omega)
  rw [val_digs, val_digs, show val a * val c + val c * val b = (val a + val b) * val c by grind] at h2
  exact Ev.bind h2 (Ev.bind (same_refl (lb_of c1 (by omega))) (Ev.neg (notF rfl) (ring_j2 ha hb la lb ca cb)))

theorem ring_j0 : Ev (fun k => vernierlaw02_NatRing.j0 k a b c) true := by
  have cs := add_len ca cb
  refine Ev.congr (fun k => vernierlaw02_NatRing.j0_eq k a b c) (Ev.bind (twin_ev la) (Ev.bind (twin_ev lb) (Ev.bind (Add_ev ha hb la lb (by omega) (by omega)) (Ev.bind (twin_ev lb) (Ev.bind (twin_ev la) ?_)))))
  have h1 := Add_ev hb ha lb la (by omega) (by omega)
  rw [Nat.add_comm] at h1
  exact Ev.bind h1 (Ev.bind (neat_ev (lb_of cs (by omega))) (Ev.neg (notF rfl) (Ev.bind (same_refl (lb_of cs (by omega))) (Ev.neg (notF rfl) (ring_j1 ha hb hc la lb lc ca cb cc)))))
end

/-- For all lists: true. -/
theorem NatRing (a b c : List Int) (wa : WFt (.sl (.int .u64)) a) (wb : WFt (.sl (.int .u64)) b) (wc : WFt (.sl (.int .u64)) c) : Ev (fun k => vernierlaw02_NatRing k a b c) true := by
  obtain ⟨ha, la⟩ := wf_words wa
  obtain ⟨hb, lb⟩ := wf_words wb
  obtain ⟨hc, lc⟩ := wf_words wc
  refine Ev.congr (fun k => vernierlaw02_NatRing_eq k a b c) (Ev.bind awake_ev (Ev.neg (notF rfl) (Ev.bind (size_ev ha la) ?_)))
  by_cases ca : (digs (val a)).length ≤ 300
  · refine Ev.neg (dF (by omega)) (Ev.bind (size_ev hb lb) ?_)
    by_cases cb : (digs (val b)).length ≤ 300
    · refine Ev.neg (dF (by omega)) (Ev.bind (size_ev hc lc) ?_)
      by_cases cc : (digs (val c)).length ≤ 300
      · exact Ev.neg (dF (by omega)) (ring_j0 ha hb hc la lb lc ca cb cc)
      · exact Ev.pos (dT (by omega)) (Ev.some _)
    · exact Ev.pos (dT (by omega)) (Ev.some _)
  · exact Ev.pos (dT (by omega)) (Ev.some _)
end Pure
end Go.Proofs.Ytdhndlcijpgjgaa.X
