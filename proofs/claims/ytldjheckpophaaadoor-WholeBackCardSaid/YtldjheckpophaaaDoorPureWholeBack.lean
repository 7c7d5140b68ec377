/- Plain law: WholeBack answers true. Conditions: what the reading says of the arguments. -/
import Derived.Test.YtldjheckpophaaaDoorWhE
namespace Go.Proofs.YtldjheckpophaaaDoor.X
open Go Go.Rex
set_option linter.unusedVariables false

theorem wrap_i32 (x : Int) : IntKind.i32.wrap x = (x + 2147483648) % 4294967296 - 2147483648 := by
  simp [IntKind.wrap, IntKind.signed, IntKind.bits]
  split <;> omega
/-- The bits that the law takes, by kind. -/
theorem pick {K X : Int} (h0 : 0 ≤ K) (h3 : K ≤ 3) (hX : -9223372036854775808 ≤ X ∧ X ≤ 9223372036854775807) :
    ∃ x : Nat, (if K = 0 then IntKind.u64.wrap (IntKind.i64.wrap (IntKind.i32.wrap X)) else if K = 2 then (IntKind.u64.wrap X).tmod 4294967296 else IntKind.u64.wrap X) = (x : Int) ∧ x < 18446744073709551616 ∧ ¬ (if inNeg K x then kBel K else kMost K) < inMag K x := by
  have : K = 0 ∨ K = 1 ∨ K = 2 ∨ K = 3 := by omega
  rcases this with rfl | rfl | rfl | rfl
  · rw [if_pos rfl]
    have b1 : -2147483648 ≤ IntKind.i32.wrap X ∧ IntKind.i32.wrap X ≤ 2147483647 := by rw [wrap_i32]; omega
    generalize IntKind.i32.wrap X = v at *
    rw [wrapI (x := v) (by omega) (by omega)]
    by_cases c : v < 0
    · refine ⟨(18446744073709551616 + v).toNat, by rw [wrap_u64]; omega, by omega, ?_⟩
      have hn : inNeg 0 (18446744073709551616 + v).toNat = true := by
        unfold inNeg; rw [decide_eq_true (by decide), decide_eq_true (by omega)]; rfl
      unfold inMag; rw [hn, if_pos rfl, if_pos rfl]
      show ¬ 2147483648 < _
      omega
    · refine ⟨v.toNat, by rw [wrap_u64]; omega, by omega, ?_⟩
      have hn : inNeg 0 v.toNat = false := by
        unfold inNeg; rw [decide_eq_false (show ¬ 9223372036854775808 ≤ v.toNat by omega), Bool.and_false]
      unfold inMag; rw [hn, if_neg (by simp), if_neg (by simp)]
      show ¬ 2147483647 < _
      omega
  · rw [if_neg (by decide), if_neg (by decide)]
    refine ⟨(IntKind.u64.wrap X).toNat, by rw [wrap_u64]; omega, by rw [wrap_u64]; omega, ?_⟩
    have hw : IntKind.u64.wrap X = X % 18446744073709551616 := wrap_u64 X
    by_cases c : 9223372036854775808 ≤ (IntKind.u64.wrap X).toNat
    · have hn : inNeg 1 (IntKind.u64.wrap X).toNat = true := by
        unfold inNeg; rw [decide_eq_true (by decide), decide_eq_true c]; rfl
      unfold inMag; rw [hn, if_pos rfl, if_pos rfl]
      show ¬ 9223372036854775808 < _
      omega
    · have hn : inNeg 1 (IntKind.u64.wrap X).toNat = false := by
        unfold inNeg; rw [decide_eq_false c, Bool.and_false]
      unfold inMag; rw [hn, if_neg (by simp), if_neg (by simp)]
      show ¬ 9223372036854775807 < _
      omega
  · rw [if_neg (by decide), if_pos rfl]
    have hw : IntKind.u64.wrap X = (((IntKind.u64.wrap X).toNat : Nat) : Int) := by rw [wrap_u64]; omega
    rw [hw, show (4294967296 : Int) = ((4294967296 : Nat) : Int) from rfl, tmod_nat]
    refine ⟨_, rfl, by omega, ?_⟩
    generalize (IntKind.u64.wrap X).toNat = u at *
    have hn : inNeg 2 (u % 4294967296) = false := rfl
    unfold inMag; rw [hn, if_neg (by simp), if_neg (by simp)]
    show ¬ 4294967295 < _
    omega
  · rw [if_neg (by decide), if_neg (by decide)]
    have hw : IntKind.u64.wrap X = X % 18446744073709551616 := wrap_u64 X
    refine ⟨(IntKind.u64.wrap X).toNat, by rw [hw]; omega, by rw [hw]; omega, ?_⟩
    have hn : inNeg 3 (IntKind.u64.wrap X).toNat = false := rfl
    unfold inMag; rw [hn, if_neg (by simp), if_neg (by simp)]
    show ¬ 18446744073709551615 < _
    rw [hw]; omega
theorem back_x0 (k : Nat) (K X F M A : Int) : (if (K == 0) = true then vernierlaw12_WholeBack.j0 k (IntKind.u64.wrap (IntKind.i64.wrap (IntKind.i32.wrap X))) F M K A X else (if (K == 2) = true then vernierlaw12_WholeBack.j0 k ((IntKind.u64.wrap X).tmod 4294967296) F M K A X else vernierlaw12_WholeBack.j0 k (IntKind.u64.wrap X) F M K A X)) = vernierlaw12_WholeBack.j0 k (if K = 0 then IntKind.u64.wrap (IntKind.i64.wrap (IntKind.i32.wrap X)) else if K = 2 then (IntKind.u64.wrap X).tmod 4294967296 else IntKind.u64.wrap X) F M K A X := by
  by_cases c0 : K = 0
  · rw [if_pos (bT c0), if_pos c0]
  · rw [if_neg (bF c0), if_neg c0]
    by_cases c2 : K = 2
    · rw [if_pos (bT c2), if_pos c2]
    · rw [if_neg (bF c2), if_neg c2]
theorem intV_in {K : Int} (h0 : 0 ≤ K) (h3 : K ≤ 3) {x : Nat} (hx : x < 18446744073709551616) : intV K x = sg (inNeg K x) (inMag K x) := by
  have : K = 0 ∨ K = 1 ∨ K = 2 ∨ K = 3 := by omega
  have two : ∀ K : Int, (K = 0 ∨ K = 1) → 0 < kBel K → intV K x = sg (inNeg K x) (inMag K x) := fun K hK hb => by
    unfold intV; rw [if_pos hK]
    by_cases c : 9223372036854775808 ≤ x
    · have hn : inNeg K x = true := by unfold inNeg; rw [decide_eq_true hb, decide_eq_true c]; rfl
      unfold inMag sg; rw [hn, if_pos rfl, if_pos rfl, wrap_i64]; omega
    · have hn : inNeg K x = false := by unfold inNeg; rw [decide_eq_false c, Bool.and_false]
      unfold inMag sg; rw [hn, if_neg (by simp), if_neg (by simp), wrap_i64]; omega
  rcases this with rfl | rfl | rfl | rfl
  · exact two 0 (.inl rfl) (by decide)
  · exact two 1 (.inr rfl) (by decide)
  · have hn : inNeg 2 x = false := rfl
    unfold intV inMag sg; rw [if_neg (by decide), hn, if_neg (by simp), if_neg (by simp)]
  · have hn : inNeg 3 x = false := rfl
    unfold intV inMag sg; rw [if_neg (by decide), hn, if_neg (by simp), if_neg (by simp)]
theorem RepZ.abs {s : Bool} {l : List Int} {e : Int} {t : Bool} {n : Nat} (h : RepZ s l e (sg t n)) : RepZ false l e (n : Int) := by
  obtain ⟨k, h1, h2, h3, h4, h5⟩ := h
  refine ⟨k, h1, h2, h3, h4, ?_⟩
  unfold sg at *
  rw [if_neg (by simp)]
  generalize k * 2 ^ e.toNat = z at *
  cases s <;> cases t <;> simp at h5 <;> omega
theorem repPow {p : Nat} (hp : p ≤ 1000) : RepZ false ((List.replicate 1 (0 : Int)).set 0 1) (p : Int) ((2 ^ p : Nat) : Int) := by
  refine ⟨1, one_digs, by have := one_len; omega, by omega, by omega, ?_⟩
  rw [Int.toNat_natCast, Nat.one_mul]; rfl
section
variable {F : Int} {W P : Nat} {em ex : Int} (h : Fm F W P em ex)
include h
/-- A whole number into the format: exactly, or it is a great one. -/
theorem whole_in {m : Int} (hm : Md m) (s : Bool) {n : Nat} (hn0 : n ≠ 0) : (∃ K, plV P K = n * wD P em ∧ K < infP W P ∧ paR W P em m s n 0 false = (((K + sgB s W : Nat) : Int), ((0 : Int), (0 : Int)))) ∨
    (2 ^ P < n ∧ ∃ b g : Int, paR W P em m s n 0 false = (b, (g, 0)) ∧ (g = 16 ∨ g = 20)) := by
  have h8 := h.p8; have h53 := h.p53; have m0 := h.m0; have m1 := h.m1
  obtain ⟨x1, x2, x3⟩ := fm_ex h
  have hpe := p_ex h
  obtain ⟨t, t1, t2, t3, t4⟩ := wD_pow h
  have eA : qA n 0 false (em - (P : Int) + 1) = n * wD P em := by
    unfold qA nuN
    rw [if_neg (by simp)]
    unfold wD; rw [show (0 : Int) - (em - (P : Int) + 1) = -(em - (P : Int) + 1) by omega]
  have eB : qB 0 false (em - (P : Int) + 1) = 1 := by
    unfold qB nuD
    rw [if_neg (by simp), p2_neg (by omega)]
  have ep : paR W P em m s n 0 false = ((rnOut W P m s (n * wD P em) 1).1, ((rnOut W P m s (n * wD P em) 1).2, 0)) := by
    unfold paR
    rw [if_neg (by omega), if_neg (by simp), if_neg hn0, eA, eB]
  by_cases c : n ≤ 2 ^ P
  · left
    obtain ⟨K, hK⟩ : ∃ K, plV P K = n * 2 ^ t := by
      by_cases c2 : n < 2 ^ P
      · exact short_place' (by omega) c2
      · obtain ⟨K, hK⟩ := short_place' (P := P) (u := 1) (q := P + t) (by omega) (Nat.one_lt_two_pow (by omega))
        exact ⟨K, by rw [hK, show n = 2 ^ P by omega, Nat.one_mul, Nat.pow_add]⟩
    have hi : K < infP W P := by
      refine Nat.lt_of_not_le fun g => ?_
      have a1 := (plV_le (P := P) (by omega)).2 g
      rw [hK, plV_inf h] at a1
      have a2 := Nat.mul_le_mul_right (2 ^ t) c
      have a3 : 2 ^ P * 2 ^ t < 2 ^ (P - 1) * 2 ^ (eTop W P - 1) := by
        rw [← Nat.pow_add, ← Nat.pow_add]
        exact Nat.pow_lt_pow_right (by decide) (by omega)
      omega
    refine ⟨K, by rw [t1]; exact hK, hi, ?_⟩
    have := rnOut_rep (W := W) (P := P) (k := K) (B := 1) (by omega) (by decide) hi m s
    rw [Nat.mul_one, hK, ← t1] at this
    rw [ep, this]
  · by_cases z : (rnOut W P m s (n * wD P em) 1).2 = 0
    · left
      have hfl : rnd P m s (n * wD P em) 1 < infP W P ∧ lftP P (n * wD P em) 1 = 0 := by
        unfold rnOut at z
        by_cases c1 : infP W P ≤ rnd P m s (n * wD P em) 1
        · rw [if_pos c1] at z; exact absurd (show (20 : Int) = 0 from z) (by decide)
        · rw [if_neg c1] at z
          refine ⟨by omega, ?_⟩
          by_cases c2 : lftP P (n * wD P em) 1 = 0
          · exact c2
          · have z' : (if lftP P (n * wD P em) 1 = 0 then (0 : Int) else if tinyB P m s (n * wD P em) 1 then 24 else 16) = 0 := z
            rw [if_neg c2] at z'
            split at z' <;> exact absurd z' (by decide)
      have hr : rnd P m s (n * wD P em) 1 = flr P (n * wD P em) 1 := by rw [rnd_flr (by omega), hfl.2, chs_zero]
      have hv := (lftP_zero (P := P) (by omega) (by decide)).1 hfl.2
      rw [Nat.mul_one] at hv
      have hi : flr P (n * wD P em) 1 < infP W P := by rw [← hr]; exact hfl.1
      refine ⟨flr P (n * wD P em) 1, hv.symm, hi, ?_⟩
      have := rnOut_rep (W := W) (P := P) (k := flr P (n * wD P em) 1) (B := 1) (by omega) (by decide) hi m s
      rw [Nat.mul_one, ← hv] at this
      rw [ep, this]
    · right
      refine ⟨by omega, _, _, ep, ?_⟩
      rcases flags_are W P m s (n * wD P em) 1 with ⟨g, -⟩ | g | ⟨g, g'⟩ | g
      · exact .inr g
      · exact absurd g z
      · exfalso
        unfold tinyB at g'
        simp only [Bool.and_eq_true, decide_eq_true_eq] at g'
        have a1 : 2 ^ (P - 1) ≤ 2 ^ t := pow_mono2 (by omega)
        have a2 : 1 * 2 ^ t ≤ n * 2 ^ t := Nat.mul_le_mul_right _ (by omega)
        rw [t1] at g'
        omega
      · exact .inl g
end
namespace Pure
abbrev OneTyB : Ty := .pair (.int .i64) (.pair (.int .i64) (.pair (.int .i64) (.pair (.int .u64) (.int .i64))))
theorem WholeBack (t : Int × (Int × (Int × (Int × Int)))) (w : WFt OneTyB t) : Ev (fun k => vernierlaw12_WholeBack k t.1 t.2.1 t.2.2.1 t.2.2.2.1 t.2.2.2.2) true := by
  obtain ⟨w1, w2, w3, w4, w5⟩ := w
  obtain ⟨f, m, κ, a, X⟩ := t
  have hf := wf_i64 w1
  have hm := wf_i64 w2
  have hk := wf_i64 w3
  have ha : 0 ≤ a ∧ a < 18446744073709551616 := wf_u64 w4
  have hX := wf_i64 w5
  show Ev (fun k => vernierlaw12_WholeBack k f m κ a X) true
  obtain ⟨a, rfl⟩ := Int.eq_ofNat_of_zero_le ha.1
  obtain ⟨F, M, K, W, P, em, ex, h, hM, k0, k3, rt⟩ := wright_ev (f := f) (m := m) (κ := κ) (a := a) X hf hm hk (by omega)
  refine Ev.congr (fun k => vernierlaw12_WholeBack_eq k _ _ _ _ _) (Ev.bind awake12_ev (Ev.neg (notF rfl) (Ev.bind rt ?_)))
  refine Ev.congr (fun k => back_x0 k K X F M _) ?_
  obtain ⟨x, hx, xl, xm⟩ := pick k0 k3 hX
  rw [hx]
  have h8 := h.p8; have h3 := h.wp; have h53 := h.p53
  have hip := infP_le h
  have hpp := Nat.two_pow_pos (P - 1)
  have fi := FromInt_ev h hM k0 k3 xl
  rw [if_neg xm] at fi
  have iv := intV_in k0 k3 xl
  obtain ⟨is_, il, ie, i1, i2⟩ := integerZ (κ := K) xl
  rw [iv] at i2
  generalize ((a % 2 ^ W : Nat) : Int) = A at *
  have hM6 : -9223372036854775808 ≤ IntKind.i64.wrap (M + 1) ∧ IntKind.i64.wrap (M + 1) ≤ 9223372036854775807 := by rw [wrap_i64]; omega
  obtain ⟨M2, a1, a2, a3⟩ := winto_ev hM6 (.inr rfl)
  -- an exact one
  have exact1 : ∀ {Kp : Nat}, plV P Kp = inMag K x * wD P em → Kp < infP W P → Ev (fun k => vernierlaw12_WholeBack.j1 k (x : Int) F ((Kp + sgB (inNeg K x) W : Nat) : Int) 0 F M K A X) true := fun {Kp} hK hi => by
    obtain ⟨z1, z2, z3⟩ := pk_at (W := W) (K := Kp) (by omega) (by omega) (inNeg K x)
    have ti := ToInt_ev h (m := M2) (κ := K) ⟨a1, by omega⟩ k0 k3 z3
    rw [toR_fin h K z3 (by rw [z1]; exact hi), z1, z2] at ti
    have hD := wD_pos P em
    have hu : wU P em M2 (inNeg K x) Kp = inMag K x := by
      unfold wU cutN
      rw [hK, Nat.mul_mod_left, Nat.mul_div_cancel _ hD]
      have : lft 0 (wD P em) = 0 := by unfold lft; rw [if_pos rfl]
      rw [this, chs_zero]
    have hl : wL P em Kp = false := by
      unfold wL lftN
      rw [hK, Nat.mul_mod_left]
      have : lft 0 (wD P em) = 0 := by unfold lft; rw [if_pos rfl]
      rw [this]; rfl
    rw [hu, hl, if_neg xm] at ti
    have hxx : (if inNeg K x = true then negU (inMag K x) else ((inMag K x : Nat) : Int)) = (x : Int) := by
      cases hn : inNeg K x
      · rw [if_neg (by simp)]; unfold inMag; rw [hn]; rfl
      · have hx0 : 9223372036854775808 ≤ x := by unfold inNeg at hn; simp at hn; exact hn.2
        rw [if_pos rfl]
        have e : inMag K x = 18446744073709551616 - x := by unfold inMag; rw [hn]; rfl
        unfold negU; rw [e, wrap_u64]; omega
    rw [hxx] at ti
    obtain ⟨vs, vl, ve, v1, v2⟩ := valueZ h hK hi (inNeg K x)
    have c := cmpZ v2 i2
    rw [Int.sub_self] at c
    refine Ev.congr (fun k => vernierlaw12_WholeBack.j1_eq k _ _ _ _ _ _ _ _ _) (Ev.bind i1 (Ev.bind (Ev.of fun k => params06 h k) (Ev.neg (nF rfl) (Ev.bind a3 (Ev.bind ti (Ev.pos (bT rfl) (Ev.pos (bT rfl) (Ev.pos (bT rfl) (Ev.bind v1 (Ev.bind i1 (Ev.bind c (Ev.eq (Ev.some _) rfl))))))))))))
  refine Ev.congr (fun k => vernierlaw12_WholeBack.j0_eq k _ _ _ _ _ _) (Ev.bind fi ?_)
  by_cases x0 : x = 0
  · have hn : inNeg K x = false := by rw [x0]; unfold inNeg; rw [decide_eq_false (show ¬ 9223372036854775808 ≤ 0 by decide), Bool.and_false]
    have hmg : inMag K x = 0 := by unfold inMag; rw [hn, x0]; rfl
    have ep : paR W P em M (inNeg K x) (inMag K x) 0 false = ((0 : Int), ((0 : Int), (0 : Int))) := by
      rw [hn, hmg]
      unfold paR
      rw [if_neg (by omega), if_neg (by simp), if_pos rfl]
      rfl
    have ex0 := exact1 (Kp := 0) (by rw [hmg, Nat.zero_mul]; exact (plV_zero (by omega)).2 rfl) (Nat.mul_pos (by have := (eTop_le h).2; omega) (Nat.two_pow_pos _))
    have e0 : ((0 + sgB (inNeg K x) W : Nat) : Int) = 0 := by rw [hn]; rfl
    rw [e0] at ex0
    rw [ep]
    exact Ev.neg (nF rfl) (Ev.pos (bT (by omega)) (Ev.neg (nF rfl) (Ev.neg (nF rfl) ex0)))
  · have hn0 : inMag K x ≠ 0 := by
      unfold inMag
      cases hn : inNeg K x
      · rw [if_neg (by simp)]; exact x0
      · rw [if_pos rfl]; omega
    rcases whole_in h hM (inNeg K x) hn0 with ⟨Kp, q1, q2, q3⟩ | ⟨big, b, g, q3, hg⟩
    · rw [q3]
      exact Ev.neg (nF rfl) (Ev.neg (bF (by omega)) (exact1 q1 q2))
    · rw [q3]
      have i3 := RepZ.abs i2
      have c := cmpZ i3 (repPow (p := P) (by omega))
      refine Ev.neg (nF rfl) (Ev.neg (bF (by omega)) (Ev.congr (fun k => vernierlaw12_WholeBack.j1_eq k _ _ _ _ _ _ _ _ _) (Ev.bind i1 (Ev.bind (Ev.of fun k => params06 h k) (Ev.pos (nT ?_) (Ev.neg (bF ?_) (Ev.neg (nF ?_) (Ev.bind c (Ev.eq (Ev.some _) ?_)))))))))
      · show g ≠ 0
        rcases hg with rfl | rfl <;> decide
      · show andK IntKind.i64 g 16 ≠ 0
        rcases hg with rfl | rfl <;> decide +kernel
      · show andNotK IntKind.i64 g 20 = 0
        rcases hg with rfl | rfl <;> decide +kernel
      · rw [sgn_pos]; exact dT (by omega)
end Pure
end Go.Proofs.YtldjheckpophaaaDoor.X
