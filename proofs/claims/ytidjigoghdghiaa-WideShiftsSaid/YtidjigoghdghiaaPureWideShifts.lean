/- WideShifts, the plain law: every shift and jam is the document's. No conditions. -/
import Derived.Test.YtidjigoghdghiaaWideT
import Derived.Test.YtidjigoghdghiaaVx21
namespace Go.Proofs.Ytidjigoghdghiaa.Pure
open Go.RowKit Go.Proofs.Ytidjigoghdghiaa.V Go.Proofs.YtidjigoghdghiaaQ.PrintWords Go.Proofs.Ytidjigoghdghiaa.L

theorem same_eq (a b c d : Int) (h1 : a = c) (h2 : b = d) : vernierlaw01_same.f a b c d = some true := by
  unfold vernierlaw01_same.f
  rw [if_pos h1, h2]
  simp
theorem WideShifts : vernierlaw01_WideShifts.Pure := by
  intro a1 a0 n ha1 ha0 hn
  obtain ⟨A, hA, rfl, rfl⟩ := words_of a1 a0 ha1 ha0
  obtain ⟨hn0, hn1⟩ := i64_of_wf hn
  clear ha1 ha0 hn
  refine Ev.rounds (g := fun k => vernierlaw01_WideShifts.f k (hi A) (lo A) n) ?_
  unfold vernierlaw01_WideShifts.f
  refine ev_now fixed_true ?_
  refine ev_pos rfl ?_
  refine ev_now (shl_any A n hA hn0 (by omega)) ?_
  refine ev_now (w_eq _ _) ?_
  refine Ev.bind (rshl_ev A n hA (by omega)) ?_
  refine ev_now (same_eq _ _ _ _ rfl rfl) ?_
  refine ev_pos rfl ?_
  refine ev_now (shr_any A n hA (by omega)) ?_
  refine ev_now (w_eq _ _) ?_
  refine Ev.bind (rshr_ev A n hA (by omega)) ?_
  refine ev_now (same_eq _ _ _ _ rfl rfl) ?_
  refine ev_pos rfl ?_
  refine ev_now (jam_eq A n hA hn0 (by omega)) ?_
  refine ev_now (w_eq _ _) ?_
  refine Ev.bind (rjam_ev A n hA (by omega)) ?_
  refine ev_now (same_eq _ _ _ _ rfl rfl) ?_
  exact ev_some fun k => rfl
end Go.Proofs.Ytidjigoghdghiaa.Pure
