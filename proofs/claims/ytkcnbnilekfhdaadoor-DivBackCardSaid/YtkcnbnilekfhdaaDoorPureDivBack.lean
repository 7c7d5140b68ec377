/- Plain law: DivBack answers true. Conditions: what the reading says of the arguments. -/
import Derived.Test.YtkcnbnilekfhdaaDoorDivE
import Derived.Test.YtkcnbnilekfhdaaDoorDivBk
namespace Go.Proofs.YtkcnbnilekfhdaaDoor.X
open Go Go.Rex
set_option linter.unusedVariables false

theorem sgn_wrap (x : Int) : IntKind.i64.wrap (0 - sgn x) = sgn (-x) := by
  unfold sgn
  by_cases c : x < 0
  · rw [if_pos c, if_neg (by omega), if_neg (by omega)]; decide
  · rw [if_neg c]
    by_cases c0 : x = 0
    · rw [if_pos c0, if_neg (by omega), if_pos (by omega)]; decide
    · rw [if_neg c0, if_pos (by omega)]; decide
theorem sgn_zero {x : Int} : (sgn x == 0) = decide (x = 0) := by
  unfold sgn
  by_cases c : x < 0
  · rw [if_pos c, decide_eq_false (by omega)]; rfl
  · rw [if_neg c]
    by_cases c0 : x = 0
    · rw [if_pos c0, decide_eq_true c0]; rfl
    · rw [if_neg c0, decide_eq_false c0]; rfl
section
variable {f : Int} {W P : Nat} {em ex : Int} (h : Fm f W P em ex)
include h
/-- The number of a place and a sign, as Value tells it. -/
def vNeg (neg : Bool) (K : Nat) : Bool := if K = 0 then false else neg
def vN (P K : Nat) : List Int := if K = 0 then [] else digs (oddN (plV P K))
def vE (P : Nat) (em : Int) (K : Nat) : Int := if K = 0 then 0 else em - (P : Int) + 1 + (tz (plV P K) : Int)
theorem value_K {K : Nat} (hK : K ≤ infP W P) (n : Bool) : Ev (fun k => format_Value k f ((K + sgB n W : Nat) : Int)) (if K < infP W P then (vNeg n K, (vN P K, (vE P em K, (0 : Int)))) else (false, (([] : List Int), ((0 : Int), (40 : Int))))) := by
  have hip := infP_le h
  have hpp := Nat.two_pow_pos (P - 1)
  have h8 := h.p8; have h3 := h.wp
  obtain ⟨q1, q2, q3⟩ := pk_at (W := W) (K := K) (by omega) (by omega) n
  obtain ⟨v1, v2, v3⟩ := value_pk h q3
  rw [q1] at v1 v2 v3
  rw [q2] at v3
  by_cases c : K < infP W P
  · rw [if_pos c]
    unfold vNeg vN vE
    by_cases c0 : K = 0
    · rw [if_pos c0, if_pos c0, if_pos c0]; exact Ev.of (v2 c0)
    · rw [if_neg c0, if_neg c0, if_neg c0]; exact Ev.of (v3 c0 c)
  · rw [if_neg c]; exact Ev.of (v1 (by omega))
/-- A quotient's place, times the divisor, held against the dividend. -/
theorem side_ev {p q K : Nat} (g1 : p ≠ 0 ∧ p < infP W P) (g2 : q ≠ 0 ∧ q < infP W P) (hK : K < infP W P) (s t : Bool) : Ev (fun k => vernierlaw08_side k (vNeg (!(s == t)) K) (vN P K) (vE P em K) t (digs (oddN (plV P q))) (em - (P : Int) + 1 + (tz (plV P q) : Int)) s (digs (oddN (plV P p))) (em - (P : Int) + 1 + (tz (plV P p) : Int)))
    (sgn (sg (!(s == t)) (plV P K * plV P q) - sg (!(s == t)) (plV P p * p2 (-(em - (P : Int) + 1)))), (0 : Int)) := by
  have hip := infP_le h
  have hpp := Nat.two_pow_pos (P - 1)
  have h8 := h.p8; have h53 := h.p53; have m0 := h.m0; have m1 := h.m1
  obtain ⟨w1, w2, w3, w4⟩ := plV_facts h g1.1 (by omega)
  obtain ⟨x1, x2, x3, x4⟩ := plV_facts h g2.1 (by omega)
  have o1 := oddN_odd w1
  have o2 := oddN_odd x1
  have e1 := oddN_mul w1
  have e2 := oddN_mul x1
  have lp : (digs (oddN (plV P p))).length ≤ 1 := digs_length_lt.2 (by rw [Nat.pow_one]; exact w4)
  -- the dividend's part
  have eY : oddN (plV P p) * 2 ^ ((em - (P : Int) + 1 + (tz (plV P p) : Int)) - (2 * (em - (P : Int) + 1))).toNat = plV P p * p2 (-(em - (P : Int) + 1)) := by
    conv => rhs; rw [← e1]
    unfold p2
    rw [Nat.mul_assoc, ← Nat.pow_add]
    congr 2; omega
  have fin : ∀ (a : Bool) (n : Nat) (e : Int), Sm n e → 2 * (em - (P : Int) + 1) ≤ e → n * 2 ^ (e - 2 * (em - (P : Int) + 1)).toNat = plV P K * plV P q → (n ≠ 0 → a = s) →
      Ev (fun k => dyad_Mul k (vNeg (!(s == t)) K) (vN P K) (vE P em K) t (digs (oddN (plV P q))) (em - (P : Int) + 1 + (tz (plV P q) : Int))) (a, (digs n, (e, (0 : Int)))) →
      Ev (fun k => vernierlaw08_side k (vNeg (!(s == t)) K) (vN P K) (vE P em K) t (digs (oddN (plV P q))) (em - (P : Int) + 1 + (tz (plV P q) : Int)) s (digs (oddN (plV P p))) (em - (P : Int) + 1 + (tz (plV P p) : Int)))
        (sgn (sg (!(s == t)) (plV P K * plV P q) - sg (!(s == t)) (plV P p * p2 (-(em - (P : Int) + 1)))), (0 : Int)) := by
    intro a n e hs hB eX ha hm
    have cm := DCmp_ev hs (m := oddN (plV P p)) (f := em - (P : Int) + 1 + (tz (plV P p) : Int)) ⟨by omega, by omega, by omega⟩ a s (2 * (em - (P : Int) + 1)) hB (by omega) (by omega)
    rw [eX, eY] at cm
    have ha' : sg a (plV P K * plV P q) = sg s (plV P K * plV P q) := by
      by_cases c : n = 0
      · rw [← eX, c, Nat.zero_mul]; unfold sg; cases a <;> cases s <;> rfl
      · rw [ha c]
    rw [ha'] at cm
    refine Ev.congr (fun k => vernierlaw08_side_eq k _ _ _ _ _ _ _ _ _) (Ev.bind hm (Ev.neg (nF rfl) (Ev.bind cm ?_)))
    generalize plV P K * plV P q = X at *
    generalize plV P p * p2 (-(em - (P : Int) + 1)) = Y at *
    cases t
    · refine Ev.neg (by simp) (Ev.eq (Ev.some _) ?_)
      cases s <;> simp [sg, Int.sub_eq_add_neg]
    · refine Ev.pos rfl (Ev.eq (Ev.some _) ?_)
      show (IntKind.i64.wrap (0 - sgn (sg s X + sg (!s) Y)), (0 : Int)) = _
      rw [sgn_wrap]
      cases s <;> simp [sg, Int.sub_eq_add_neg, Int.add_comm, Int.neg_add]
  by_cases c0 : K = 0
  · have z := DMul_zero (K := oddN (plV P q)) o2 x4 (f := em - (P : Int) + 1 + (tz (plV P q) : Int)) (by omega) t
    refine fin false 0 0 ⟨by simp [digs_zero], by omega, by omega⟩ (by omega) ?_ (fun g => absurd rfl g) ?_
    · rw [c0, (plV_zero (P := P) (by omega)).2 rfl, Nat.zero_mul, Nat.zero_mul]
    · unfold vNeg vN vE
      rw [if_pos c0, if_pos c0, if_pos c0]; exact z
  · obtain ⟨y1, y2, y3, y4⟩ := plV_facts h c0 (by omega)
    have o3 := oddN_odd y1
    have e3 := oddN_mul y1
    have lk : (digs (oddN (plV P K))).length ≤ 1 := digs_length_lt.2 (by rw [Nat.pow_one]; exact y4)
    have lq : (digs (oddN (plV P q))).length ≤ 1 := digs_length_lt.2 (by rw [Nat.pow_one]; exact x4)
    have lm := mul_len lk lq
    have z := DMul_ev o3 o2 y4 x4 (e := em - (P : Int) + 1 + (tz (plV P K) : Int)) (f := em - (P : Int) + 1 + (tz (plV P q) : Int)) (by omega) (by omega) (!(s == t)) t
    refine fin (!((!(s == t)) == t)) (oddN (plV P K) * oddN (plV P q)) ((em - (P : Int) + 1 + (tz (plV P K) : Int)) + (em - (P : Int) + 1 + (tz (plV P q) : Int))) ⟨by omega, by omega, by omega⟩ (by omega) ?_ (fun _ => by cases s <;> cases t <;> rfl) ?_
    · conv => rhs; rw [← e3, ← e2]
      have : 2 ^ ((em - (P : Int) + 1 + (tz (plV P K) : Int)) + (em - (P : Int) + 1 + (tz (plV P q) : Int)) - 2 * (em - (P : Int) + 1)).toNat = 2 ^ tz (plV P K) * 2 ^ tz (plV P q) := by
        rw [← Nat.pow_add]; congr 1; omega
      rw [this]; grind
    · unfold vNeg vN vE
      rw [if_neg c0, if_neg c0, if_neg c0]; exact z
end
namespace Pure
theorem DivBack (f a b : Int) (wf : (Lit.int .i64 f).wf = true) (wa : (Lit.int .u64 a).wf = true) (wb : (Lit.int .u64 b).wf = true) : Ev (fun k => vernierlaw08_DivBack k f a b) true := by
  have ha := wf_u64 wa
  have hb := wf_u64 wb
  refine Ev.congr (fun k => vernierlaw08_DivBack_eq k _ _ _) (Ev.bind awake08_ev (Ev.neg (notF rfl) ?_))
  by_cases c1 : f < 0
  · exact Ev.pos (dT c1) (Ev.some _)
  refine Ev.neg (dF c1) ?_
  by_cases c2 : f > 3
  · exact Ev.pos (dT c2) (Ev.some _)
  refine Ev.neg (dF c2) (Ev.congr (fun k => vernierlaw08_DivBack.j0_eq k _ _ _) ?_)
  obtain ⟨W, P, em, ex, h⟩ := fm_of (f := f) (by omega) (by omega)
  obtain ⟨x, rfl⟩ := Int.eq_ofNat_of_zero_le ha.1
  obtain ⟨y, rfl⟩ := Int.eq_ofNat_of_zero_le hb.1
  have l1 := Nat.mod_lt x (Nat.two_pow_pos W)
  have l2 := Nat.mod_lt y (Nat.two_pow_pos W)
  refine Ev.bind (cut08_ev h (x := x) (by omega)) (Ev.bind (cut08_ev h (x := y) (by omega)) ?_)
  generalize x % 2 ^ W = A at *
  generalize y % 2 ^ W = B at *
  have h8 := h.p8; have h53 := h.p53; have m0 := h.m0; have m1 := h.m1
  have hip := infP_le h
  have hpp := Nat.two_pow_pos (P - 1)
  obtain ⟨n1, n2⟩ := finite08_ev h l1
  obtain ⟨n3, n4⟩ := finite08_ev h l2
  have any2 : ∃ b l e g, Ev (fun k => vernierlaw08_finite k f (B : Int)) (b, (l, (e, g))) ∧ (g = true → pk W B ≠ 0 ∧ pk W B < infP W P) := by
    by_cases c : pk W B ≠ 0 ∧ pk W B < infP W P
    · exact ⟨_, _, _, _, n4 c.1 c.2, fun _ => c⟩
    · obtain ⟨b, l, e, g⟩ := n3 c
      exact ⟨b, l, e, false, g, fun h => by cases h⟩
  by_cases ok1 : pk W A ≠ 0 ∧ pk W A < infP W P
  case neg =>
    obtain ⟨u, v, z, g⟩ := n1 ok1
    obtain ⟨u', v', z', g', q1, q2⟩ := any2
    exact Ev.bind g (Ev.bind q1 (Ev.pos rfl (Ev.some _)))
  by_cases ok2 : pk W B ≠ 0 ∧ pk W B < infP W P
  case neg =>
    obtain ⟨u, v, z, g⟩ := n3 ok2
    exact Ev.bind (n2 ok1.1 ok1.2) (Ev.bind g (Ev.neg (notF rfl) (Ev.pos rfl (Ev.some _))))
  refine Ev.bind (n2 ok1.1 ok1.2) (Ev.bind (n4 ok2.1 ok2.2) (Ev.neg (notF rfl) (Ev.neg (notF rfl) (Ev.congr (fun k => vernierlaw08_DivBack.j1_eq k _ _ _ _ _ _ _ _ _) ?_))))
  have d4 := Div_ev h (m := 4) ⟨by decide, by decide⟩ l1 l2
  have d3 := Div_ev h (m := 3) ⟨by decide, by decide⟩ l1 l2
  rw [dvR_num (cls_num ok1.1 ok1.2) (cls_num ok2.1 ok2.2), raR_plain h _ _ ok1 ok2] at d3 d4
  obtain ⟨x1, x2, x3, x4⟩ := plV_facts h ok2.1 (by omega)
  have side := fun {K : Nat} (hK : K < infP W P) => side_ev h ok1 ok2 hK (ps W A) (ps W B)
  generalize hA0 : plV P (pk W A) * p2 (-(em - (P : Int) + 1)) = A0 at *
  generalize hB0 : plV P (pk W B) = B0 at *
  have hi0 : 0 < infP W P := by omega
  have hB : 0 < B0 := by omega
  generalize hn : (!(ps W A == ps W B)) = n at *
  have f4 := even0_flags (W := W) (P := P) (A := A0) (B := B0) (by omega) (m := 4) (n := n) (.inr rfl)
  have f3 := even0_flags (W := W) (P := P) (A := A0) (B := B0) (by omega) (m := 3) (n := n) (.inl rfl)
  -- the places
  obtain ⟨Kd, hKd⟩ : ∃ K, K = kOut W P 4 n A0 B0 := ⟨_, rfl⟩
  obtain ⟨Ku, hKu⟩ : ∃ K, K = kOut W P 3 n A0 B0 := ⟨_, rfl⟩
  have fac : (Kd ≤ infP W P ∧ Ku ≤ infP W P) ∧ (Kd = Ku ↔ even0 W P A0 B0 = true) ∧ (Kd < infP W P → sgn (sg n (plV P Kd * B0) - sg n A0) ≤ 0 ∧ (plV P Kd * B0 = A0 ↔ even0 W P A0 B0 = true)) ∧
      (Ku < infP W P → 0 ≤ sgn (sg n (plV P Ku * B0) - sg n A0) ∧ (plV P Ku * B0 = A0 ↔ even0 W P A0 B0 = true)) := by
    rw [hKd, hKu]
    clear d3 d4 f3 f4 side hKd hKu
    cases n
    · obtain ⟨t1, t2, t3, t4⟩ := dir_toward (A := A0) hi0 (by omega) hB (m := 4) (n := false) (.inl ⟨rfl, rfl⟩)
      obtain ⟨u1, u2, u3⟩ := dir_away (A := A0) hi0 (by omega) hB (m := 3) (n := false) (.inl ⟨rfl, rfl⟩)
      refine ⟨⟨by omega, u1⟩, even0_iff t4 u3 hi0, fun _ => ⟨?_, t3⟩, fun g => ⟨?_, (u2 g).2⟩⟩
      · unfold sgn sg; simp only [Bool.false_eq_true, if_false]; split <;> (try split) <;> omega
      · have := (u2 g).1
        unfold sgn sg; simp only [Bool.false_eq_true, if_false]; split <;> (try split) <;> omega
    · obtain ⟨t1, t2, t3, t4⟩ := dir_toward (A := A0) hi0 (by omega) hB (m := 3) (n := true) (.inr ⟨rfl, rfl⟩)
      obtain ⟨u1, u2, u3⟩ := dir_away (A := A0) hi0 (by omega) hB (m := 4) (n := true) (.inr ⟨rfl, rfl⟩)
      refine ⟨⟨u1, by omega⟩, ⟨fun e => (even0_iff t4 u3 hi0).1 e.symm, fun e => ((even0_iff t4 u3 hi0).2 e).symm⟩, fun g => ⟨?_, (u2 g).2⟩, fun _ => ⟨?_, t3⟩⟩
      · have := (u2 g).1
        unfold sgn sg; simp only [if_true]; split <;> (try split) <;> omega
      · unfold sgn sg; simp only [if_true]; split <;> (try split) <;> omega
  obtain ⟨⟨b1, b2⟩, fe, fd, fu⟩ := fac
  rw [rnOut_bits, ← hKd] at d4
  rw [rnOut_bits, ← hKu] at d3
  have inj : ((((Kd + sgB n W : Nat) : Int)) == (((Ku + sgB n W : Nat) : Int))) = even0 W P A0 B0 := by
    by_cases c : even0 W P A0 B0 = true
    · rw [c, fe.2 c]; exact beq_self_eq_true _
    · rw [Bool.eq_false_iff.2 c]
      refine beq_eq_false_iff_ne.2 fun e => c (fe.1 ?_)
      have := Int.natCast_inj.1 e
      omega
  have fl : ∀ {z : Int}, (z = 0 ∧ even0 W P A0 B0 = true) ∨ ((z = 16 ∨ z = 20 ∨ z = 24) ∧ even0 W P A0 B0 = false) → (andK IntKind.i64 z 16 == 0) = even0 W P A0 B0 := by
    rintro z (⟨rfl, e⟩ | ⟨rfl | rfl | rfl, e⟩) <;> rw [e] <;> decide +kernel
  have f3' := fl f3
  have f4' := fl f4
  generalize (rnOut W P 4 n A0 B0).2 = z4 at *
  generalize (rnOut W P 3 n A0 B0).2 = z3 at *
  refine Ev.bind d4 (Ev.bind d3 (Ev.neg (nF rfl) (Ev.neg (nF rfl) (Ev.neg ?_ (Ev.neg ?_ (Ev.congr (fun k => vernierlaw08_DivBack.j2_eq k _ _ _ _ _ _ _ _ _) ?_))))))
  · show ¬ ((!((andK IntKind.i64 z4 16 == 0) == (andK IntKind.i64 z3 16 == 0))) = true)
    rw [f3', f4']; simp
  · show ¬ ((!((andK IntKind.i64 z4 16 == 0) == (((Kd + sgB n W : Nat) : Int) == ((Ku + sgB n W : Nat) : Int)))) = true)
    rw [f4', inj]; simp
  -- above
  have zeq : ∀ {X : Nat}, (X = A0 ↔ even0 W P A0 B0 = true) → (sgn (sg n X - sg n A0) == 0) = even0 W P A0 B0 := by
    intro X hX
    rw [sgn_zero]
    by_cases c : even0 W P A0 B0 = true
    · rw [c, hX.2 c, decide_eq_true (by omega)]
    · rw [Bool.eq_false_iff.2 c, decide_eq_false]
      intro e
      refine c (hX.1 ?_)
      cases n <;> (unfold sg at e; simp at e; omega)
  have j3 : ∀ l9 b10 x11, Ev (fun k => vernierlaw08_DivBack.j3 k f ((Kd + sgB n W : Nat) : Int) ((Ku + sgB n W : Nat) : Int) (digs (oddN (plV P (pk W A)))) (ps W A) (em - (P : Int) + 1 + (tz (plV P (pk W A)) : Int)) (digs (oddN B0)) (ps W B) (em - (P : Int) + 1 + (tz B0 : Int)) l9 b10 x11) true := by
    intro l9 b10 x11
    refine Ev.congr (fun k => vernierlaw08_DivBack.j3_eq k _ _ _ _ _ _ _ _ _ _ _ _) (Ev.bind (value_K h b2 n) ?_)
    by_cases c : Ku < infP W P
    · rw [if_pos c]
      obtain ⟨g1, g2⟩ := fu c
      refine Ev.pos (bT rfl) (Ev.bind (side c) (Ev.pos (bT rfl) (Ev.pos (dT ?_) (Ev.eq (Ev.some _) ?_))))
      · exact g1
      · show ((sgn (sg n (plV P Ku * B0) - sg n A0) == 0) == (((Kd + sgB n W : Nat) : Int) == ((Ku + sgB n W : Nat) : Int))) = true
        rw [zeq g2, inj]; simp
    · rw [if_neg c]
      exact Ev.neg (bF (by decide)) (Ev.eq (Ev.some _) (bT rfl))
  refine Ev.bind (value_K h b1 n) ?_
  by_cases c : Kd < infP W P
  · rw [if_pos c]
    obtain ⟨g1, g2⟩ := fd c
    refine Ev.pos (bT rfl) (Ev.bind (side c) (Ev.neg (nF rfl) (Ev.neg (dF ?_) (Ev.neg ?_ (j3 _ _ _)))))
    · show ¬ (sgn (sg n (plV P Kd * B0) - sg n A0) > 0); omega
    · show ¬ ((!((sgn (sg n (plV P Kd * B0) - sg n A0) == 0) == (((Kd + sgB n W : Nat) : Int) == ((Ku + sgB n W : Nat) : Int)))) = true)
      rw [zeq g2, inj]; simp
  · rw [if_neg c]
    exact Ev.neg (bF (by decide)) (Ev.neg (nF rfl) (j3 _ _ _))
end Pure
end Go.Proofs.YtkcnbnilekfhdaaDoor.X
