/- Plain law: WholeFits answers true. Conditions: what the reading says of the arguments. -/
import Derived.Test.YtldjheckpophaaaDoorWhE
namespace Go.Proofs.YtldjheckpophaaaDoor.X
open Go Go.Rex
set_option linter.unusedVariables false

theorem fits_j1 {F : Int} {W P : Nat} {em ex : Int} (h : Fm F W P em ex) {M K x7 : Int} (k0 : 0 ≤ K) (k3 : K ≤ 3) {Kp U : Nat} {s lost : Bool} (hK : plV P Kp = U * wD P em) (hi : Kp < infP W P) {b9 b12 b15 : Bool} {l8 l11 l14 : List Int} {x10 x13 x16 : Int} (lo : RepZ b9 l8 x10 (-(kBel K : Int))) (hii : RepZ b12 l11 x13 (kMost K : Int)) {y : Nat}
    (hy : (if (if s then kBel K else kMost K) < U then ((if s then negU (kBel K) else (kMost K : Int)), ((1 : Int), (0 : Int))) else ((if s then negU U else (U : Int)), ((if lost then 16 else 0), 0))).1 = (y : Int)) (got : RepZ b15 l14 x16 (intV K y)) (x6 : Int) :
    Ev (fun k => vernierlaw12_WholeFits.j1 k (if (if s then kBel K else kMost K) < U then ((if s then negU (kBel K) else (kMost K : Int)), ((1 : Int), (0 : Int))) else ((if s then negU U else (U : Int)), ((if lost then 16 else 0), 0))).2.1 ((Kp + sgB s W : Nat) : Int) (if true = true ∧ lost = true then 16 else 0) F M K x6 x7 l8 b9 x10 l11 b12 x13 l14 b15 x16) true := by
  obtain ⟨sv, lv, ev, v1, v2⟩ := valueZ h hK hi s
  have c1 := cmpZ v2 lo
  have c2 := cmpZ v2 hii
  refine Ev.congr (fun k => vernierlaw12_WholeFits.j1_eq k _ _ _ _ _ _ _ _ _ _ _ _ _ _ _ _ _) (Ev.bind v1 (Ev.bind c1 ?_))
  have same : ∀ {b b' : Bool} {l l' : List Int} {e e' : Int} {v v' : Int}, RepZ b l e v → RepZ b' l' e' v' → v = v' → Ev (fun k => (vernierlaw12_compare k b l e b' l' e').bind fun o => some (o == 0)) true := fun r r' e => by
    have c := cmpZ r r'
    rw [e, Int.sub_self] at c
    exact Ev.bind c (Ev.eq (Ev.some _) rfl)
  cases s
  · -- at least 0
    rw [show (if false = true then kBel K else kMost K) = kMost K from rfl] at hy ⊢
    rw [show (if false = true then negU (kBel K) else (kMost K : Int)) = (kMost K : Int) from rfl, show (if false = true then negU U else (U : Int)) = (U : Int) from rfl] at hy ⊢
    rw [show sg false U = (U : Int) from rfl] at c1 c2 v2 ⊢
    refine Ev.neg ?_ (Ev.bind c2 ?_)
    · rw [sgn_neg]; exact dF (by omega)
    by_cases c : kMost K < U
    · rw [if_pos c] at hy ⊢
      have hyk : y = kMost K := by
        have : (kMost K : Int) = (y : Int) := hy
        omega
      rw [hyk, intV_most k0 k3] at got
      refine Ev.pos ?_ (Ev.pos (bT rfl) (same got hii rfl))
      rw [sgn_pos]; exact dT (by omega)
    · rw [if_neg c] at hy ⊢
      have hyk : y = U := by
        have : (U : Int) = (y : Int) := hy
        omega
      rw [hyk, intV_pos (by omega)] at got
      refine Ev.neg ?_ (Ev.pos (bT ?_) (same got v2 rfl))
      · rw [sgn_pos]; exact dF (by omega)
      · show (if lost = true then (16 : Int) else 0) = if true = true ∧ lost = true then 16 else 0
        cases lost <;> rfl
  · rw [show (if true = true then kBel K else kMost K) = kBel K from rfl] at hy ⊢
    rw [show (if true = true then negU (kBel K) else (kMost K : Int)) = negU (kBel K) from rfl, show (if true = true then negU U else (U : Int)) = negU U from rfl] at hy ⊢
    rw [show sg true U = -(U : Int) from rfl] at c1 c2 v2 ⊢
    by_cases c : kBel K < U
    · rw [if_pos c] at hy ⊢
      obtain ⟨x, a1, a2, a3⟩ := intV_neg (κ := K) (U := kBel K) (Nat.le_refl _)
      have hyk : y = x := by
        have : negU (kBel K) = (y : Int) := hy
        omega
      rw [hyk, a3] at got
      refine Ev.pos ?_ (Ev.pos (bT rfl) (same got lo rfl))
      rw [sgn_neg]; exact dT (by omega)
    · rw [if_neg c] at hy ⊢
      obtain ⟨x, a1, a2, a3⟩ := intV_neg (κ := K) (U := U) (by omega)
      have hyk : y = x := by
        have : negU U = (y : Int) := hy
        omega
      rw [hyk, a3] at got
      refine Ev.neg ?_ (Ev.bind c2 (Ev.neg ?_ (Ev.pos (bT ?_) (same got v2 rfl))))
      · rw [sgn_neg]; exact dF (by omega)
      · rw [sgn_pos]; exact dF (by omega)
      · show (if lost = true then (16 : Int) else 0) = if true = true ∧ lost = true then 16 else 0
        cases lost <;> rfl
namespace Pure
abbrev OneTyF : Ty := .pair (.int .i64) (.pair (.int .i64) (.pair (.int .i64) (.pair (.int .u64) (.int .i64))))
theorem WholeFits (t : Int × (Int × (Int × (Int × Int)))) (w : WFt OneTyF t) : Ev (fun k => vernierlaw12_WholeFits k t.1 t.2.1 t.2.2.1 t.2.2.2.1 t.2.2.2.2) true := by
  obtain ⟨w1, w2, w3, w4, w5⟩ := w
  obtain ⟨f, m, κ, a, x⟩ := t
  have hf := wf_i64 w1
  have hm := wf_i64 w2
  have hk := wf_i64 w3
  have ha : 0 ≤ a ∧ a < 18446744073709551616 := wf_u64 w4
  show Ev (fun k => vernierlaw12_WholeFits k f m κ a x) true
  obtain ⟨a, rfl⟩ := Int.eq_ofNat_of_zero_le ha.1
  obtain ⟨F, M, K, W, P, em, ex, h, hM, k0, k3, rt⟩ := wright_ev (f := f) (m := m) (κ := κ) (a := a) x hf hm hk (by omega)
  obtain ⟨s1, l1, e1, s2, l2, e2, en, lo, hi⟩ := ends_ev k0 k3
  have lA := Nat.mod_lt a (Nat.two_pow_pos W)
  generalize a % 2 ^ W = A at *
  have h8 := h.p8; have h3 := h.wp
  have hip := infP_le h
  have hpp := Nat.two_pow_pos (P - 1)
  have i1 : 0 < infP W P := Nat.mul_pos (by have := (eTop_le h).2; omega) (Nat.two_pow_pos _)
  have ti := ToInt_ev h (κ := K) hM k0 k3 lA
  obtain ⟨vn, d, e, o6, -⟩ := open06 h lA
  refine Ev.congr (fun k => vernierlaw12_WholeFits_eq k _ _ _ _ _) (Ev.bind awake12_ev (Ev.neg (notF rfl) (Ev.bind rt (Ev.bind en (Ev.bind ti ?_)))))
  have same : ∀ {b b' : Bool} {l l' : List Int} {e e' : Int} {v v' : Int}, RepZ b l e v → RepZ b' l' e' v' → v = v' → Ev (fun k => (vernierlaw12_compare k b l e b' l' e').bind fun o => some (o == 0)) true := fun r r' e => by
    have c := cmpZ r r'
    rw [e, Int.sub_self] at c
    exact Ev.bind c (Ev.eq (Ev.some _) rfl)
  obtain ⟨km, kmm⟩ := kB_lt K
  by_cases fin : pk W A < infP W P
  · -- a number
    have tf := toR_fin h K lA fin (wU P em M (ps W A) (pk W A)) (wL P em (pk W A))
    rw [tf]
    obtain ⟨y, hy, hyl⟩ : ∃ y : Nat, (if (if ps W A then kBel K else kMost K) < wU P em M (ps W A) (pk W A) then ((if ps W A then negU (kBel K) else (kMost K : Int)), ((1 : Int), (0 : Int))) else ((if ps W A then negU (wU P em M (ps W A) (pk W A)) else (wU P em M (ps W A) (pk W A) : Int)), ((if wL P em (pk W A) then 16 else 0), 0))).1 = (y : Int) ∧ y < 18446744073709551616 := by
      obtain ⟨y1, a1, a2, -⟩ := negU_nat (kBel K)
      obtain ⟨y2, b1, b2, -⟩ := negU_nat (wU P em M (ps W A) (pk W A))
      cases ps W A
      · by_cases c : kMost K < wU P em M false (pk W A)
        · exact ⟨kMost K, by rw [if_pos (show (if false = true then kBel K else kMost K) < wU P em M false (pk W A) from c)]; rfl, kmm⟩
        · exact ⟨wU P em M false (pk W A), by rw [if_neg (show ¬ (if false = true then kBel K else kMost K) < wU P em M false (pk W A) from c)]; rfl, by omega⟩
      · by_cases c : kBel K < wU P em M true (pk W A)
        · exact ⟨y1, by rw [if_pos (show (if true = true then kBel K else kMost K) < wU P em M true (pk W A) from c)]; exact a1, a2⟩
        · obtain ⟨y3, c1, c2, -⟩ := negU_nat (wU P em M true (pk W A))
          exact ⟨y3, by rw [if_neg (show ¬ (if true = true then kBel K else kMost K) < wU P em M true (pk W A) from c)]; exact c1, c2⟩
    obtain ⟨gs, gl, ge, g1, g2⟩ := integerZ (κ := K) hyl
    rw [← hy] at g1
    have rI := Integral_ev h hM lA true
    rw [inR_fin h M lA fin true] at rI
    obtain ⟨q1, q2⟩ := wK_ok h (m := M) (ps W A) fin
    obtain ⟨z1, z2, z3⟩ := pk_at (W := W) (K := wK P em M (ps W A) (pk W A)) (by omega) (by omega) (ps W A)
    have fi := finite12_ev h z3
    rw [z1, decide_eq_true q2] at fi
    have e0 : (if (if ps W A then kBel K else kMost K) < wU P em M (ps W A) (pk W A) then ((if ps W A then negU (kBel K) else (kMost K : Int)), ((1 : Int), (0 : Int))) else ((if ps W A then negU (wU P em M (ps W A) (pk W A)) else (wU P em M (ps W A) (pk W A) : Int)), ((if wL P em (pk W A) then 16 else 0), 0))).2.2 = 0 := by
      by_cases c : (if ps W A then kBel K else kMost K) < wU P em M (ps W A) (pk W A)
      · rw [if_pos c]
      · rw [if_neg c]
    refine Ev.neg (nF e0) (Ev.bind g1 (Ev.bind o6 (Ev.neg (dF (by omega)) (Ev.neg (dF (by omega)) ?_))))
    refine Ev.congr (fun k => vernierlaw12_WholeFits.j0_eq k _ _ _ _ _ _ _ _ _ _ _ _ _ _ _ _ _) (Ev.bind rI (Ev.neg (nF rfl) (Ev.bind fi (Ev.neg (notF rfl) ?_))))
    exact fits_j1 h k0 k3 q1 q2 lo hi hy g2 _
  · obtain ⟨c, hc, hcc⟩ := cls_all (W := W) (P := P) (p := pk W A) (neg := ps W A) i1
    rw [hc]
    obtain ⟨gs, gl, ge, g1, g2⟩ := integerZ (κ := K) kmm
    rw [intV_most k0 k3] at g2
    rcases hcc with ⟨rfl, a1, a2⟩ | ⟨rfl, a1, a2⟩ | ⟨rfl, a1, a2⟩ | ⟨rfl, a1, a2⟩ | ⟨rfl, a1, a2⟩ | ⟨rfl, a1, a2⟩ | ⟨hcc, a1, a2⟩
    · refine Ev.neg (nF rfl) (Ev.bind g1 (Ev.bind o6 (Ev.pos (dT a1) (Ev.neg (nF rfl) (Ev.neg (dF (by omega)) (same g2 hi rfl))))))
    · refine Ev.neg (nF rfl) (Ev.bind g1 (Ev.bind o6 (Ev.pos (dT a1) (Ev.neg (nF rfl) (Ev.neg (dF (by omega)) (same g2 hi rfl))))))
    · obtain ⟨y, b1, b2, b3⟩ := intV_neg (κ := K) (U := kBel K) (Nat.le_refl _)
      obtain ⟨gs', gl', ge', g1', g2'⟩ := integerZ (κ := K) b2
      rw [b3] at g2'
      rw [← b1] at g1'
      refine Ev.neg (nF rfl) (Ev.bind g1' (Ev.bind o6 (Ev.neg (dF (by omega)) (Ev.pos (dT a1) (Ev.neg (nF rfl) (Ev.pos (dT a1) (Ev.pos a2 (same g2' lo rfl))))))))
    · refine Ev.neg (nF rfl) (Ev.bind g1 (Ev.bind o6 (Ev.neg (dF (by omega)) (Ev.pos (dT a1) (Ev.neg (nF rfl) (Ev.pos (dT a1) (Ev.neg (by rw [a2]; simp) (same g2 hi rfl))))))))
    · exact absurd (show pk W A < infP W P by omega) fin
    · exact absurd (show pk W A < infP W P by omega) fin
    · exact absurd a2 fin
end Pure
end Go.Proofs.YtldjheckpophaaaDoor.X
