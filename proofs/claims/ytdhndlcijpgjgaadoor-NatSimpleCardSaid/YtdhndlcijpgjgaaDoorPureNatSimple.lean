/- Plain law: NatSimple answers true. Conditions: what the reading says of the script. -/
import Derived.Test.YtdhndlcijpgjgaaDoorNatPlay
namespace Go.Proofs.YtdhndlcijpgjgaaDoor.X
open Go Go.Rex
set_option linter.unusedVariables false

namespace Pure
theorem simple_ev {a b : List Int} (ha : Ws a) (hb : Ws b) {x n w : Int} {s : ByteArray} : Ev (fun k => vernierlaw02_simple k x a b n w s a b) true := by
  have la := ha.dl
  have lb := hb.dl
  refine Ev.congr (fun k => vernierlaw02_simple_eq k _ _ _ _ _ _ _ _) ?_
  by_cases c1 : x = 1
  · refine Ev.pos (bT c1) (Ev.bind (Trim_ev ha.wf ha.lb) (Ev.bind (rTrim_ev ha.wf ha.lb) (Ev.bind (same_refl (ha.lb.ofv ha.wf)) (Ev.pos rfl (Ev.bind (Len_ev ha.wf ha.lb) (Ev.bind (rLen_ev ha.wf ha.lb) (Ev.eq (Ev.some _) ?_)))))))
    simp
  · refine Ev.neg (bF c1) ?_
    by_cases c2 : x = 2
    · refine Ev.pos (bT c2) (Ev.bind (Cmp_ev ha.wf hb.wf ha.lb hb.lb) (Ev.bind (rCmp_ev ha.wf hb.wf ha.lb hb.lb) (Ev.eq (Ev.some _) ?_)))
      simp
    · refine Ev.neg (bF c2) ?_
      by_cases c3 : x = 3
      · have hl : (digs (val a + val b)).length ≤ 17592186043905 := sum_len_ la lb
        exact Ev.pos (bT c3) (Ev.bind (Add_ev ha.wf hb.wf ha.lb hb.lb (by omega) (by omega)) (Ev.bind (rAdd_ev ha.wf hb.wf ha.lb hb.lb (by omega) (by omega)) (Ev.bind (same_refl (by unfold Lb; omega)) (Ev.some _))))
      · refine Ev.neg (bF c3) ?_
        by_cases c : val a < val b
        · exact Ev.bind (Sub_less ha.wf hb.wf ha.lb hb.lb c) (Ev.bind (rSub_less ha.wf hb.wf ha.lb hb.lb c) (Ev.pos (bT rfl) (Ev.bind (same_refl (by unfold Lb; simp)) (Ev.some _))))
        · have hl : (digs (val a - val b)).length ≤ 17592186043905 := Nat.le_trans (digs_len_mono (Nat.sub_le _ _)) (by omega)
          exact Ev.bind (Sub_ev ha.wf hb.wf ha.lb hb.lb (by omega)) (Ev.bind (rSub_ev ha.wf hb.wf ha.lb hb.lb (by omega)) (Ev.pos (bT rfl) (Ev.bind (same_refl (show Lb (digs (val a - val b)) by unfold Lb; omega)) (Ev.some _))))
/-- For all scripts: true. -/
theorem NatSimple (l : List OpT) (w : WFt (.sl OpTy) l) : Ev (fun k => vernierlaw02_NatSimple k l) true := by
  obtain ⟨h1, h2⟩ := op_of w
  refine Ev.congr (fun k => vernierlaw02_NatSimple_eq k _) (Ev.bind (all_ev h1 fun o ho c1 c2 => ?_) (Ev.some _))
  obtain ⟨g1, g2, g3, g4, g5⟩ := h2 o ho
  exact plays_ev g1 g2 c1 (by omega) (fun _ => simple_ev g1 g2) (fun _ _ => by omega) (fun _ => by omega)
end Pure
end Go.Proofs.YtdhndlcijpgjgaaDoor.X
