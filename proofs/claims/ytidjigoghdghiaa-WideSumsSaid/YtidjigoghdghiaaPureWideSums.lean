/- WideSums, the plain law: sum, difference, order and length are the document's. No conditions. -/
import Derived.Test.YtidjigoghdghiaaWideS
import Derived.Test.YtidjigoghdghiaaVx8
namespace Go.Proofs.Ytidjigoghdghiaa.Pure
open Go.RowKit Go.Proofs.Ytidjigoghdghiaa.V Go.Proofs.YtidjigoghdghiaaW.PrintWords Go.Proofs.Ytidjigoghdghiaa.L

theorem same_eq (a b c d : Int) (h1 : a = c) (h2 : b = d) : vernierlaw01_same.f a b c d = some true := by
  unfold vernierlaw01_same.f
  rw [if_pos h1, h2]
  simp
theorem WideSums : vernierlaw01_WideSums.Pure := by
  intro a1 a0 b1 b0 ha1 ha0 hb1 hb0
  obtain ⟨A, hA, rfl, rfl⟩ := words_of a1 a0 ha1 ha0
  obtain ⟨B, hB, rfl, rfl⟩ := words_of b1 b0 hb1 hb0
  clear ha1 ha0 hb1 hb0
  refine Ev.rounds (g := fun k => vernierlaw01_WideSums.f k (hi A) (lo A) (hi B) (lo B)) ?_
  unfold vernierlaw01_WideSums.f
  refine ev_now (add_eq A B hA hB) ?_
  refine ev_now (w_eq _ _) ?_
  refine ev_now (w_eq _ _) ?_
  refine Ev.bind (radd_ev A B hA hB) ?_
  refine ev_now (sub_eq A B hA hB) ?_
  refine ev_now (w_eq _ _) ?_
  refine ev_now (w_eq _ _) ?_
  refine Ev.bind (rsub_ev A B hA hB) ?_
  refine ev_now fixed_true ?_
  refine ev_pos rfl ?_
  refine ev_now (same_eq _ _ _ _ rfl rfl) ?_
  refine ev_pos rfl ?_
  refine ev_pos rfl ?_
  refine ev_now (same_eq _ _ _ _ rfl rfl) ?_
  refine ev_pos rfl ?_
  refine ev_pos rfl ?_
  refine ev_now (cmp_eq A B) ?_
  refine ev_now (w_eq _ _) ?_
  refine ev_now (w_eq _ _) ?_
  refine Ev.bind (rcmp_ev A B hA hB) ?_
  refine ev_pos rfl ?_
  refine ev_now (len_eq A hA) ?_
  refine ev_now (w_eq _ _) ?_
  refine Ev.bind (rlen_ev A hA) ?_
  exact ev_some fun k => by simp
end Go.Proofs.Ytidjigoghdghiaa.Pure
