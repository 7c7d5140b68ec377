/- Plain law: RoundOrder answers true. Conditions: what the reading says of the arguments. -/
import Derived.Test.YtkpmladopkkfnaaDoorRoH
import Derived.Test.YtkpmladopkkfnaaDoorPureRoundKeeps
namespace Go.Proofs.YtkpmladopkkfnaaDoor.X
open Go Go.Rex
set_option linter.unusedVariables false

theorem kNum_le (W P : Nat) (em m : Int) (s : Bool) (n : Nat) (g : Int) : kNum W P em m s n g ≤ infP W P := by
  unfold kNum
  split
  · exact Nat.zero_le _
  · exact kOut_le _ _ _ _ _ _
section
variable {f : Int} {W P : Nat} {em ex : Int} (h : Fm f W P em ex)
include h
theorem order_loop {s t u : Bool} {n k : Nat} {g e : Int} (hx : Ft s n g) (hy : Ft t k e) (hz : Ft u n g) (hu : n ≠ 0 → u = !s) (c : Nat) : ∀ i : Nat, i + c = 6 →
    Ev2 (fun q l => vernierlaw05_RoundOrder.l2 q l f 6 (i : Int) s (digs n) g t (digs k) e (W : Int) (P : Int) em ex (digs n) u g six) true := by
  have h8 := h.p8; have h53 := h.p53; have m0 := h.m0; have m1 := h.m1
  obtain ⟨x1, x2, x3⟩ := fm_ex h
  have hip := infP_le h
  have hpp := Nat.two_pow_pos (P - 1)
  have hb0 := hx.g0; have hb1 := hy.g0
  induction c with
  | zero =>
    intro i hi
    exact Ev2.step (fun q l => vernierlaw05_RoundOrder.l2_eq q l _ _ _ _ _ _ _ _ _ _ _ _ _ _ _ _ _) (Ev2.neg (dF (by omega)) (Ev2.some _))
  | succ c ih =>
    intro i hi
    have next := ih (i + 1) (by omega)
    refine Ev2.step (fun q l => vernierlaw05_RoundOrder.l2_eq q l _ _ _ _ _ _ _ _ _ _ _ _ _ _ _ _ _) ?_
    have hl : six.length = 6 := rfl
    rw [Int.toNat_natCast, six_get (by omega)]
    have md : Md (i : Int) := ⟨by omega, by omega⟩
    have evx := Exact_ev h md (a := digs n) (WF.digs _) g s
    have evy := Exact_ev h md (a := digs k) (WF.digs _) e t
    rw [exR_ft hx] at evx
    rw [exR_ft hy] at evy
    refine Ev2.pos (dT (by omega)) (Ev2.pos ⟨by omega, by rw [hl]; omega⟩ (Ev2.call evx (Ev2.call evy (Ev2.neg (nF rfl) (Ev2.neg (nF rfl) ?_)))))
    have kx := kNum_le W P em (i : Int) s n g
    have ky := kNum_le W P em (i : Int) t k e
    have px := place05_ev h (K := kNum W P em (i : Int) s n g) (by omega) s
    have py := place05_ev h (K := kNum W P em (i : Int) t k e) (by omega) t
    -- the flags
    have hF : (fFlags W P em (i : Int) s n g = 20 ∧ (2 ^ P - 1) * p2 (ex - (P : Int) + 1 - -8000) < n * p2 (g - -8000)) ∨ fFlags W P em (i : Int) s n g = 0 ∨ (fFlags W P em (i : Int) s n g = 24 ∧ n * p2 (g - -8000) < 1 * p2 (em - -8000)) ∨ fFlags W P em (i : Int) s n g = 16 := by
      by_cases c0 : n = 0
      · right; left; unfold fFlags; rw [if_pos c0]
      · have e : fFlags W P em (i : Int) s n g = (rnOut W P (i : Int) s (rA n g (em - (P : Int) + 1)) (rB 1 g (em - (P : Int) + 1))).2 := by unfold fFlags; rw [if_neg c0]
        rw [e]
        rcases flags_are W P (i : Int) s (rA n g (em - (P : Int) + 1)) (rB 1 g (em - (P : Int) + 1)) with ⟨q1, q2⟩ | q1 | ⟨q1, q2⟩ | q1
        · exact .inl ⟨q1, over_cmp h (b := -8000) hb0 (by omega) q2⟩
        · exact .inr (.inl q1)
        · exact .inr (.inr (.inl ⟨q1, tiny_cmp h (b := -8000) hb0 (by omega) q2⟩))
        · exact .inr (.inr (.inr q1))
    have eF : fFlags W P em (mir (i : Int)) u n g = fFlags W P em (i : Int) s n g := by
      by_cases c0 : n = 0
      · unfold fFlags; rw [if_pos c0, if_pos c0]
      · rw [hu c0]; exact fFlags_mir _ _ _ _ _ _ _
    have ez := Exact_ev h (m := mir (i : Int)) (by unfold mir; split <;> (try split) <;> exact ⟨by omega, by omega⟩) (a := digs n) (WF.digs _) g u
    rw [exR_ft hz, eF] at ez
    have kz := kNum_le W P em (mir (i : Int)) u n g
    have pz := place05_ev h (K := kNum W P em (mir (i : Int)) u n g) (by omega) u
    have ep : plc (kNum W P em (mir (i : Int)) u n g) u = IntKind.i64.wrap (0 - plc (kNum W P em (i : Int) s n g) s) := by
      have h64 := h.w64
      have h63 : 2 ^ (W - 1) ≤ 2 ^ 63 := pow_mono2 (by omega)
      by_cases c0 : n = 0
      · unfold kNum; rw [if_pos c0, if_pos c0]; cases u <;> cases s <;> rfl
      · rw [hu c0, kNum_mir]
        generalize kNum W P em (i : Int) s n g = K at *
        unfold plc
        cases s
        · show -(K : Int) = IntKind.i64.wrap (0 - (K : Int)); rw [wrapI (by omega) (by omega)]; omega
        · show (K : Int) = IntKind.i64.wrap (0 - -(K : Int)); rw [wrapI (by omega) (by omega)]; omega
    generalize fFlags W P em (i : Int) s n g = F at *
    -- the last tests
    have nx : Ev2 (fun q l => vernierlaw05_RoundOrder.l2 q l f 6 (IntKind.i64.wrap ((i : Int) + 1)) s (digs n) g t (digs k) e (W : Int) (P : Int) em ex (digs n) u g six) true := by
      rw [succ_i i (by omega)]; exact next
    have j7 : Ev2 (fun q l => vernierlaw05_RoundOrder.j7 q l f F 6 (i : Int) s (digs n) g t (digs k) e (W : Int) (P : Int) em ex (digs n) u g six) true := by
      refine Ev2.congr (fun q l => vernierlaw05_RoundOrder.j7_eq q l _ _ _ _ _ _ _ _ _ _ _ _ _ _ _ _ _ _) ?_
      have eP : IntKind.u64.wrap (P : Int) = (P : Int) := wrapUn (by omega)
      rw [eP]
      refine Ev2.pos (by omega) ?_
      rcases hF with ⟨rfl, hc⟩ | rfl | ⟨rfl, hc⟩ | rfl
      · have hp64 : 2 ^ P ≤ 2 ^ 53 := pow_mono2 h53
        have hp8 : 2 ^ 8 ≤ 2 ^ P := pow_mono2 h8
        have e1 : shlK .u64 1 (P : Int) = ((2 ^ P : Nat) : Int) := by
          have := shlK_exact 1 P (by omega) (by omega)
          rwa [show ((1 : Nat) : Int) = 1 from rfl, Nat.one_mul] at this
        have e2 : IntKind.u64.wrap (((2 ^ P : Nat) : Int) - 1) = ((2 ^ P - 1 : Nat) : Int) := by rw [wrap_u64]; omega
        have e3 : (List.replicate 1 (0 : Int)).set 0 ((2 ^ P - 1 : Nat) : Int) = digs (2 ^ P - 1) := by rw [digs_word (by omega) (by omega)]; rfl
        have e4 : IntKind.i64.wrap ((IntKind.i64.wrap (ex - (P : Int))) + 1) = ex - (P : Int) + 1 := by rw [wrapI (x := ex - (P : Int)) (by omega) (by omega), wrapI (by omega) (by omega)]
        have l1 : (digs (2 ^ P - 1)).length ≤ 1 := digs_length_lt.2 (by rw [Nat.pow_one]; omega)
        have cm := cmp_ft (s := false) (t := false) hx.sm (k := 2 ^ P - 1) (f := ex - (P : Int) + 1) ⟨by omega, by omega, by omega⟩ (b := -8000) hb0 (by omega) (by decide)
        rw [e1, e2, e3, e4]
        refine Ev2.pos (by decide +kernel) (Ev2.call cm (Ev2.neg (dF ?_) (Ev2.neg (by decide +kernel) nx)))
        rw [sgn_le]
        show ¬ (((n * p2 (g - -8000) : Nat) : Int) + -(((2 ^ P - 1) * p2 (ex - (P : Int) + 1 - -8000) : Nat) : Int) ≤ 0)
        omega
      · exact Ev2.neg (by decide +kernel) (Ev2.neg (by decide +kernel) nx)
      · have e3 : (List.replicate 1 (0 : Int)).set 0 1 = digs 1 := by rw [digs_pos (by decide)]; simp [digs_zero]
        have l1 : (digs 1).length ≤ 1 := digs_length_lt.2 (by decide)
        have cm := cmp_ft (s := false) (t := false) hx.sm (k := 1) (f := em) ⟨by omega, by omega, by omega⟩ (b := -8000) hb0 (by omega) (by decide)
        rw [e3]
        refine Ev2.neg (by decide +kernel) (Ev2.pos (by decide +kernel) (Ev2.call cm (Ev2.neg (dF ?_) nx)))
        show ¬ (0 ≤ sgn _)
        rw [sgn_ge]
        show ¬ (0 ≤ ((n * p2 (g - -8000) : Nat) : Int) + -((1 * p2 (em - -8000) : Nat) : Int))
        omega
      · exact Ev2.neg (by decide +kernel) (Ev2.neg (by decide +kernel) nx)
    have j6 : Ev2 (fun q l => vernierlaw05_RoundOrder.j6 q l f F 6 (i : Int) s (digs n) g t (digs k) e (W : Int) (P : Int) em ex (digs n) u g six) true := by
      refine Ev2.congr (fun q l => vernierlaw05_RoundOrder.j6_eq q l _ _ _ _ _ _ _ _ _ _ _ _ _ _ _ _ _ _) ?_
      rcases hF with ⟨rfl, hc⟩ | rfl | ⟨rfl, hc⟩ | rfl
      · exact Ev2.neg (by decide +kernel) (Ev2.pos (by decide) (Ev2.neg (by decide +kernel) (Ev2.pos (by decide +kernel) (Ev2.neg (by decide +kernel) j7))))
      · exact Ev2.neg (by decide +kernel) (Ev2.neg (by decide) (Ev2.neg (by decide +kernel) j7))
      · exact Ev2.neg (by decide +kernel) (Ev2.pos (by decide) (Ev2.neg (by decide +kernel) (Ev2.neg (by decide +kernel) j7)))
      · exact Ev2.neg (by decide +kernel) (Ev2.pos (by decide) (Ev2.neg (by decide +kernel) (Ev2.neg (by decide +kernel) j7)))
    have j5 : Ev2 (fun q l => vernierlaw05_RoundOrder.j5 q l f ((kNum W P em (i : Int) s n g + sgB s W : Nat) : Int) F (mir (i : Int)) 6 (i : Int) s (digs n) g t (digs k) e (W : Int) (P : Int) em ex (digs n) u g six) true :=
      Ev2.congr (fun q l => vernierlaw05_RoundOrder.j5_eq q l _ _ _ _ _ _ _ _ _ _ _ _ _ _ _ _ _ _ _ _) (Ev2.call ez (Ev2.neg (nF rfl) (Ev2.neg (nF rfl) (Ev2.call pz (Ev2.call px (Ev2.neg (nF ep) j6))))))
    have j4 : Ev2 (fun q l => vernierlaw05_RoundOrder.j4 q l f (i : Int) ((kNum W P em (i : Int) s n g + sgB s W : Nat) : Int) F 6 (i : Int) s (digs n) g t (digs k) e (W : Int) (P : Int) em ex (digs n) u g six) true := by
      refine Ev2.congr (fun q l => vernierlaw05_RoundOrder.j4_eq q l _ _ _ _ _ _ _ _ _ _ _ _ _ _ _ _ _ _ _ _) ?_
      by_cases c3 : (i : Int) = 3
      · have e : mir (i : Int) = 4 := by unfold mir; rw [if_pos c3]
        rw [e] at j5; exact Ev2.pos (bT c3) j5
      · by_cases c4 : (i : Int) = 4
        · have e : mir (i : Int) = 3 := by unfold mir; rw [if_neg c3, if_pos c4]
          rw [e] at j5; exact Ev2.neg (bF c3) (Ev2.pos (bT c4) j5)
        · have e : mir (i : Int) = (i : Int) := by unfold mir; rw [if_neg c3, if_neg c4]
          rw [e] at j5; exact Ev2.neg (bF c3) (Ev2.neg (bF c4) j5)
    refine Ev2.congr (fun q l => vernierlaw05_RoundOrder.j3_eq q l _ _ _ _ _ _ _ _ _ _ _ _ _ _ _ _ _ _ _ _ _) ?_
    have cm := cmp_ft (s := s) (t := t) hx.sm hy.sm (b := -8000) hb0 hb1 (by decide)
    rw [sg_not] at cm
    have oxy := num_order W (by omega : 2 ≤ P) em (i : Int) s t (n := n) (k := k) (e := g) (f := e) (b := -8000) hb0 hb1
    have oyx := num_order W (by omega : 2 ≤ P) em (i : Int) t s (n := k) (k := n) (e := e) (f := g) (b := -8000) hb1 hb0
    refine Ev2.call cm ?_
    generalize sg s (n * p2 (g - -8000)) = X at *
    generalize sg t (k * p2 (e - -8000)) = Y at *
    by_cases c1 : sgn (X + -Y) ≤ 0
    · have := sgn_le.1 c1
      refine Ev2.pos (dT c1) (Ev2.call px (Ev2.call py (Ev2.neg (dF (by have := oxy (by omega); omega)) ?_)))
      by_cases c2 : sgn (X + -Y) ≥ 0
      · have := sgn_ge.1 c2
        exact Ev2.pos (dT c2) (Ev2.call px (Ev2.call py (Ev2.neg (dF (by have := oyx (by omega); omega)) j4)))
      · exact Ev2.neg (dF c2) j4
    · refine Ev2.neg (dF c1) ?_
      have c2 : sgn (X + -Y) ≥ 0 := by omega
      have := sgn_ge.1 c2
      exact Ev2.pos (dT c2) (Ev2.call px (Ev2.call py (Ev2.neg (dF (by have := oyx (by omega); omega)) j4)))
end
namespace Pure
abbrev DyTy : Ty := .pair .bool (.pair (.sl (.int .u64)) (.int .i64))
/-- For all formats and exact numbers: true. -/
theorem RoundOrder (f : Int) (x y : Bool × (List Int × Int)) (wf : (Lit.int .i64 f).wf = true) (wx : WFt DyTy x) (wy : WFt DyTy y) : Ev (fun k => vernierlaw05_RoundOrder k f x.1 x.2.1 x.2.2 y.1 y.2.1 y.2.2) true := by
  obtain ⟨-, ⟨-, w2⟩, -⟩ := wx
  obtain ⟨-, ⟨-, w3⟩, -⟩ := wy
  obtain ⟨s0, a, e0⟩ := x
  obtain ⟨t0, b, e1⟩ := y
  have ha : WF a := fun z hz => wf_u64 (w2 z hz)
  have hb : WF b := fun z hz => wf_u64 (w3 z hz)
  show Ev (fun k => vernierlaw05_RoundOrder k f s0 a e0 t0 b e1) true
  refine Ev.congr (fun k => vernierlaw05_RoundOrder_eq k _ _ _ _ _ _ _) (Ev.bind awake05_ev (Ev.neg (notF rfl) ?_))
  have step : ∀ {p q : Bool × (List Int × (Int × Bool))}, Ev (fun k => vernierlaw05_fit k s0 a e0) p → Ev (fun k => vernierlaw05_fit k t0 b e1) q → (0 ≤ f → f < 4 → p.2.2.2 = true → q.2.2.2 = true → Ev (fun k => vernierlaw05_RoundOrder.j0 k f p.1 p.2.1 p.2.2.1 q.1 q.2.1 q.2.2.1) true) →
      Ev (fun k => ((vernierlaw05_fit k s0 a e0)).bind fun o1 => ((vernierlaw05_fit k t0 b e1)).bind fun o2 => (if decide (f < 0) then some true else (if decide (f > 3) then some true else (if !o1.2.2.2 then some true else (if !o2.2.2.2 then some true else vernierlaw05_RoundOrder.j0 k f o1.1 o1.2.1 o1.2.2.1 o2.1 o2.2.1 o2.2.2.1))))) true := fun {p q} fp fq H => by
    refine Ev.bind fp (Ev.bind fq ?_)
    by_cases c1 : f < 0
    · exact Ev.pos (dT c1) (Ev.some _)
    · refine Ev.neg (dF c1) ?_
      by_cases c2 : f > 3
      · exact Ev.pos (dT c2) (Ev.some _)
      · refine Ev.neg (dF c2) ?_
        cases hp : p.2.2.2
        · exact Ev.pos rfl (Ev.some _)
        · refine Ev.neg (by simp) ?_
          cases hq : q.2.2.2
          · exact Ev.pos rfl (Ev.some _)
          · exact Ev.neg (by simp) (H (by omega) (by omega) hp hq)
  rcases fit_ev ha s0 e0 with fx | ⟨s, n, g, fx, x1, x2, x3, x4, x5⟩
  · rcases fit_ev hb t0 e1 with fy | ⟨t, k, e, fy, y1, y2, y3, y4, y5⟩
    · exact step fx fy (fun _ _ hp _ => by cases hp)
    · exact step fx fy (fun _ _ hp _ => by cases hp)
  · rcases fit_ev hb t0 e1 with fy | ⟨t, k, e, fy, y1, y2, y3, y4, y5⟩
    · exact step fx fy (fun _ _ _ hq => by cases hq)
    · refine step fx fy (fun f0 f4 _ _ => ?_)
      obtain ⟨W, P, em, ex, h⟩ := fm_of f0 f4
      have h8 := h.p8
      have hx : Ft s n g := ⟨x1, x2, x3, x4, x5⟩
      have hy : Ft t k e := ⟨y1, y2, y3, y4, y5⟩
      obtain ⟨u, hu1, hu2, hu3⟩ := neg_ft hx
      refine Ev.congr (fun q => vernierlaw05_RoundOrder.j0_eq q _ _ _ _ _ _ _) (Ev.bind (Ev.of fun q => params_at h q) (Ev.neg (nF rfl) (Ev.neg (dF ?_) ?_)))
      · show ¬ ((P : Int) < 2); omega
      refine Ev.congr (fun q => vernierlaw05_RoundOrder.j1_eq q _ _ _ _ _ _ _ _ _ _ _) (Ev.bind hu3 (Ev.neg (nF rfl) (Ev.bind (Ev.of fun q => (vernierlaw05_six_eq q : vernierlaw05_six q = some six)) (order_loop h hx hy hu1 hu2 6 0 (by omega)).ev)))
end Pure
end Go.Proofs.YtkpmladopkkfnaaDoor.X
