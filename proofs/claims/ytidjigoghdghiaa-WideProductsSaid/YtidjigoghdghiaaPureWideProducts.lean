/- WideProducts, the plain law: every product and quotient is the document's. No conditions. -/
import Derived.Test.YtidjigoghdghiaaWideD
import Derived.Test.YtidjigoghdghiaaVx27
namespace Go.Proofs.Ytidjigoghdghiaa.Pure
open Go.RowKit Go.Proofs.Ytidjigoghdghiaa.V Go.Proofs.YtidjigoghdghiaaQ.PrintWords Go.Proofs.Ytidjigoghdghiaa.L

theorem same_eq (a b c d : Int) (h1 : a = c) (h2 : b = d) : vernierlaw01_same.f a b c d = some true := by
  unfold vernierlaw01_same.f
  rw [if_pos h1, h2]
  simp
theorem WideProducts : vernierlaw01_WideProducts.Pure := by
  intro a1 a0 y ha1 ha0 hy
  obtain ⟨y, rfl, hy2⟩ := nat_of_wf hy
  have div : ∃ q1 q0 r e : Int, Ev (fun k => wide_Div.f k a1 a0 (y : Int)) (q1, q0, r, e) ∧ Ev (fun k => vernierref01_Div.f k a1 a0 (y : Int)) (q1, q0, r, e) := by
    by_cases h0 : y = 0
    · subst h0
      exact ⟨0, 0, 0, 10, ev_some fun k => rfl, ev_some fun k => rfl⟩
    · obtain ⟨A, hA, rfl, rfl⟩ := words_of a1 a0 ha1 ha0
      exact ⟨_, _, _, _, wdiv_ev A y hA hy2 h0, rdiv_ev A y hA hy2 h0⟩
  obtain ⟨q1, q0, r, e, d1, d2⟩ := div
  obtain ⟨x1, rfl, h1⟩ := nat_of_wf ha1
  obtain ⟨x0, rfl, h0⟩ := nat_of_wf ha0
  refine Ev.rounds (g := fun k => vernierlaw01_WideProducts.f k (x1 : Int) (x0 : Int) (y : Int)) ?_
  unfold vernierlaw01_WideProducts.f
  refine Ev.bind d1 ?_
  refine ev_now (w_eq _ _) ?_
  refine Ev.bind d2 ?_
  refine ev_now fixed_true ?_
  refine ev_pos rfl ?_
  refine ev_now (same_eq _ _ _ _ rfl rfl) ?_
  refine ev_pos rfl ?_
  refine ev_pos rfl ?_
  refine ev_pos rfl ?_
  refine ev_now (mul_eq x0 y h0 hy2) ?_
  refine Ev.bind (rmul_ev x0 y h0 hy2) ?_
  refine ev_now (same_eq _ _ _ _ rfl rfl) ?_
  refine ev_pos rfl ?_
  refine ev_now (mul_eq x1 y h1 hy2) ?_
  refine Ev.bind (rmul_ev x1 y h1 hy2) ?_
  refine ev_now (same_eq _ _ _ _ rfl rfl) ?_
  exact ev_some fun k => rfl
end Go.Proofs.Ytidjigoghdghiaa.Pure
