/- WideSquares, the plain law: the root of a square, the root's square, the order of roots. No conditions. -/
import Derived.Test.YtidjigoghdghiaaWideB
import Derived.Test.YtidjigoghdghiaaVx6
namespace Go.Proofs.Ytidjigoghdghiaa.Pure
open Go.RowKit Go.Proofs.Ytidjigoghdghiaa.V Go.Proofs.YtidjigoghdghiaaW.PrintWords Go.Proofs.Ytidjigoghdghiaa.L

theorem ord_le0 (A B : Nat) : ord A B ≤ 0 ↔ A ≤ B := by
  unfold ord
  by_cases h : A = B
  · simp [h]
  · by_cases h2 : A < B
    · simp [h, h2]; omega
    · simp [h, h2]; omega
theorem WideSquares : vernierlaw01_WideSquares.Pure := by
  intro a1 a0 b1 b0 x ha1 ha0 hb1 hb0 hx
  obtain ⟨A, hA, rfl, rfl⟩ := words_of a1 a0 ha1 ha0
  obtain ⟨B, hB, rfl, rfl⟩ := words_of b1 b0 hb1 hb0
  obtain ⟨x, rfl, hx2⟩ := nat_of_wf hx
  clear ha1 ha0 hb1 hb0
  obtain ⟨r, hr⟩ := root_ex A
  obtain ⟨s, hs⟩ := root_ex B
  have hrl := hr.lt hA
  have hsl := hs.lt hB
  have e0 := root_ev (x * x) x (mul_lt hx2 hx2) (IsRoot.sq x)
  have e1 := root_ev A r hA hr
  have e2 := root_ev B s hB hs
  refine Ev.rounds (g := fun k => vernierlaw01_WideSquares.f k (hi A) (lo A) (hi B) (lo B) (x : Int)) ?_
  unfold vernierlaw01_WideSquares.f
  refine ev_now (mul_eq x x hx2 hx2) ?_
  refine Ev.bind e0 ?_
  refine ev_now fixed_true ?_
  refine ev_pos rfl ?_
  refine ev_pos rfl ?_
  refine ev_pos (by simp) ?_
  refine Ev.bind e1 ?_
  refine ev_now (mul_eq r r hrl hrl) ?_
  refine ev_now (cmp_eq _ _) ?_
  have o1 := ord_le0 (r * r) A
  have h1 := hr.1
  refine ev_neg (by omega) ?_
  refine ev_neg (by simp only [pair_beq]; simp) ?_
  have last : Ev (fun k => (wide_Root.f k (hi B) (lo B)).bind fun bt => (wide_Cmp.f (hi A) (lo A) (hi B) (lo B)).bind fun t => if t > 0 then some true else some (decide ((r : Int) ≤ bt.1))) true := by
    refine Ev.bind e2 ?_
    refine ev_now (cmp_eq _ _) ?_
    by_cases h : A ≤ B
    · refine ev_neg (by have := (ord_le0 A B).2 h; omega) (ev_some fun k => ?_)
      have := hr.mono hs h
      simp only [Option.some.injEq, decide_eq_true_eq]
      omega
    · exact ev_pos (by have := (ord_le0 A B); omega) (ev_some fun k => rfl)
  by_cases hm : r < 18446744073709551615
  · refine ev_pos (by simp only []; omega) ?_
    have er : IntKind.u64.wrap ((r : Int) + 1) = ((r + 1 : Nat) : Int) := by rw [wrapu_id (by omega) (by omega)]; rfl
    simp only [er]
    refine ev_now (mul_eq (r + 1) (r + 1) (by omega) (by omega)) ?_
    refine ev_now (cmp_eq _ _) ?_
    have o2 := ord_le0 ((r + 1) * (r + 1)) A
    have h2 := hr.2
    refine ev_neg (by omega) ?_
    exact last
  · exact ev_neg (by simp only []; omega) last
end Go.Proofs.Ytidjigoghdghiaa.Pure
