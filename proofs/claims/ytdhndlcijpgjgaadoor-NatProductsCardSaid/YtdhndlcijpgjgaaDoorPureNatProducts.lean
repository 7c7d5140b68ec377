/- Plain law: NatProducts answers true. Conditions: what the reading says of the script. -/
import Derived.Test.YtdhndlcijpgjgaaDoorNatPlay
import Derived.Test.YtdhndlcijpgjgaaDoorRfC
namespace Go.Proofs.YtdhndlcijpgjgaaDoor.X
open Go Go.Rex
set_option linter.unusedVariables false

theorem great2 {a b : List Int} (ha : WF a) (hb : WF b) (la : Lb a) (lb : Lb b) : Ev (fun k => nat_great k (((List.replicate 2 []).set 0 a).set 1 b)) (decide (1024 < (digs (val a)).length) || decide (1024 < (digs (val b)).length)) := by
  rw [set2]
  refine Ev.eq (great_ev (l := [a, b]) (fun x hx => ?_) (by simp)) (by simp)
  simp at hx
  rcases hx with e | e <;> subst e
  · exact ⟨ha, la⟩
  · exact ⟨hb, lb⟩
theorem great1' {v : Nat} (hv : Lb (digs v)) : Ev (fun k => nat_great k ((List.replicate 1 []).set 0 (digs v))) (decide (1024 < (digs v).length)) := by
  rw [set1]
  exact Ev.eq (great_ev (l := [digs v]) (fun x hx => by simp at hx; subst hx; exact ⟨WF.digs _, hv⟩) (by simp)) (by simp [val_digs])
theorem Mul_all {a b : List Int} (ha : WF a) (hb : WF b) (la : Lb a) (lb : Lb b) : Ev (fun k => nat_Mul k a b) (if (digs (val a)).length ≤ 1024 ∧ (digs (val b)).length ≤ 1024 ∧ (digs (val a * val b)).length ≤ 1024 then (digs (val a * val b), (0 : Int)) else (([] : List Int), (5 : Int))) := by
  by_cases c : (digs (val a)).length ≤ 1024 ∧ (digs (val b)).length ≤ 1024 ∧ (digs (val a * val b)).length ≤ 1024
  · rw [if_pos c]; exact Mul_ev ha hb la lb c.1 c.2.1 c.2.2
  · rw [if_neg c]
    refine Ev.congr (fun k => nat_Mul_eq k _ _) (Ev.bind (great2 ha hb la lb) ?_)
    by_cases c1 : (digs (val a)).length ≤ 1024 ∧ (digs (val b)).length ≤ 1024
    · have hl := mul_len c1.1 c1.2
      refine Ev.neg (by simp; omega) (Ev.bind (product_ev ha hb la lb (by omega)) (Ev.bind (great1' (by unfold Lb; omega)) (Ev.pos ?_ (Ev.some _))))
      simp; omega
    · exact Ev.pos (by simp; omega) (Ev.some _)
theorem DivMod_all {a b : List Int} (ha : WF a) (hb : WF b) (la : Lb a) (lb : Lb b) : Ev (fun k => nat_DivMod k a b) (if (digs (val a)).length ≤ 1024 ∧ (digs (val b)).length ≤ 1024 then (if val b = 0 then (([] : List Int), (([] : List Int), (10 : Int))) else (digs (val a / val b), (digs (val a % val b), (0 : Int)))) else (([] : List Int), (([] : List Int), (5 : Int)))) := by
  by_cases c : (digs (val a)).length ≤ 1024 ∧ (digs (val b)).length ≤ 1024
  · rw [if_pos c]
    by_cases c2 : val b = 0
    · rw [if_pos c2]; exact DivMod_zero ha hb la lb c.1 c2
    · rw [if_neg c2]; exact DivMod_ev ha hb la lb c.1 c.2 c2
  · rw [if_neg c]
    exact Ev.congr (fun k => nat_DivMod_eq k _ _) (Ev.bind (great2 ha hb la lb) (Ev.pos (by simp; omega) (Ev.some _)))
theorem Gcd_all {a b : List Int} (ha : WF a) (hb : WF b) (la : Lb a) (lb : Lb b) : Ev (fun k => nat_Gcd k a b) (if (digs (val a)).length ≤ 1024 ∧ (digs (val b)).length ≤ 1024 then (digs (Nat.gcd (val a) (val b)), (0 : Int)) else (([] : List Int), (5 : Int))) := by
  by_cases c : (digs (val a)).length ≤ 1024 ∧ (digs (val b)).length ≤ 1024
  · rw [if_pos c]; exact Gcd_ev ha hb la lb c.1 c.2
  · rw [if_neg c]
    exact Ev.congr (fun k => nat_Gcd_eq k _ _) (Ev.bind (great2 ha hb la lb) (Ev.pos (by simp; omega) (Ev.some _)))
namespace Pure
theorem products_ev {a b : List Int} (ha : Ws a) (hb : Ws b) {x n w : Int} {s : ByteArray} : Ev (fun k => vernierlaw02_products k x a b n w s a b) true := by
  have lnil : Lb ([] : List Int) := by unfold Lb; simp
  refine Ev.congr (fun k => vernierlaw02_products_eq k _ _ _ _ _ _ _ _) ?_
  by_cases c1 : x = 5
  · refine Ev.pos (bT c1) (Ev.bind (Mul_all ha.wf hb.wf ha.lb hb.lb) (Ev.bind (rMul_ev ha.wf hb.wf ha.lb hb.lb) (Ev.pos (by simp) ?_)))
    refine Ev.bind (same_refl ?_) (Ev.some _)
    split
    · rename_i h; show Lb (digs (val a * val b)); unfold Lb; omega
    · exact lnil
  · refine Ev.neg (bF c1) ?_
    by_cases c2 : x = 6
    · refine Ev.pos (bT c2) (Ev.bind (DivMod_all ha.wf hb.wf ha.lb hb.lb) (Ev.bind (rDivMod_ev ha.wf hb.wf ha.lb hb.lb) (Ev.pos (by simp) ?_)))
      have hq : (digs (val a)).length ≤ 1024 → Lb (digs (val a / val b)) := fun h => by have := Nat.le_trans (digs_len_mono (Nat.div_le_self (val a) (val b))) h; unfold Lb; omega
      have hr : (digs (val a)).length ≤ 1024 → Lb (digs (val a % val b)) := fun h => by have := Nat.le_trans (digs_len_mono (Nat.mod_le (val a) (val b))) h; unfold Lb; omega
      refine Ev.bind (same_refl ?_) (Ev.pos rfl (Ev.bind (same_refl ?_) (Ev.some _)))
      · split
        · rename_i h; split
          · exact lnil
          · exact hq h.1
        · exact lnil
      · split
        · rename_i h; split
          · exact lnil
          · exact hr h.1
        · exact lnil
    · refine Ev.neg (bF c2) (Ev.bind (Gcd_all ha.wf hb.wf ha.lb hb.lb) (Ev.bind (rGcd_ev ha.wf hb.wf ha.lb hb.lb) (Ev.pos (by simp) (Ev.bind (same_refl ?_) (Ev.some _)))))
      split
      · rename_i h
        show Lb (digs (Nat.gcd (val a) (val b)))
        by_cases h0 : val a = 0
        · rw [h0, Nat.gcd_zero_left]; unfold Lb; omega
        · have := Nat.le_trans (digs_len_mono (Nat.gcd_le_left (val b) (Nat.pos_of_ne_zero h0))) h.1
          unfold Lb; omega
      · exact lnil
/-- For all scripts: true. -/
theorem NatProducts (l : List OpT) (w : WFt (.sl OpTy) l) : Ev (fun k => vernierlaw02_NatProducts k l) true := by
  obtain ⟨h1, h2⟩ := op_of w
  refine Ev.congr (fun k => vernierlaw02_NatProducts_eq k _) (Ev.bind (all_ev h1 fun o ho c1 c2 => ?_) (Ev.some _))
  obtain ⟨g1, g2, g3, g4, g5⟩ := h2 o ho
  exact plays_ev g1 g2 (by omega) (by omega) (fun _ => by omega) (fun _ _ => products_ev g1 g2) (fun _ => by omega)
end Pure
end Go.Proofs.YtdhndlcijpgjgaaDoor.X
