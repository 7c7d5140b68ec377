/- Plain law: WholeInts answers true. Conditions: what the reading says of the arguments. -/
import Derived.Test.YtldjheckpophaaaDoorTpC
namespace Go.Proofs.YtldjheckpophaaaDoor.X
open Go Go.Rex
set_option linter.unusedVariables false

theorem fm16t : Fm 0 16 11 (-14) 15 := ⟨by decide, by decide, rfl, by decide, by decide, by decide, by decide, by decide, by decide, by decide⟩
theorem ints_awake : Ev (fun k => whole_ToInt k 0 3 0 15361) ((2 : Int), ((16 : Int), (0 : Int))) := by
  have r := ToInt_ev fm16t (m := 3) (κ := 0) ⟨by decide, by decide⟩ (by decide) (by decide) (a := 15361) (by decide)
  have e1 : pk 16 15361 = 15361 := by decide +kernel
  have e2 : ps 16 15361 = false := by decide +kernel
  have c1 : clsOf 16 11 15361 false = 8 := by decide +kernel
  have u : wU 11 (-14) 3 false 15361 = 2 := by decide +kernel
  have l : wL 11 (-14) 15361 = true := by decide +kernel
  rw [e1, e2, c1, u, l] at r
  exact Ev.eq r (by decide +kernel)
section
variable {F : Int} {W P : Nat} {em ex : Int} (h : Fm F W P em ex)
include h
theorem plV_short {K p : Nat} (hK : K < infP W P) (hp : 2112 ≤ p) : plV P K < 2 ^ p := by
  have h8 := h.p8
  have hip := infP_le h
  have hpp := Nat.two_pow_pos (P - 1)
  by_cases c : K = 0
  · rw [c, (plV_zero (P := P) (by omega)).2 rfl]; exact Nat.two_pow_pos p
  · obtain ⟨f1, f2, f3, f4⟩ := plV_facts h c (by omega)
    exact Nat.lt_of_lt_of_le (blen_lt _) (pow_mono2 (by omega))
/-- A whole number that the format holds, put into it. -/
theorem paX {m : Int} (hm : Md m) {K n : Nat} (hn0 : n ≠ 0) (hK : plV P K = n * wD P em) (hi : K < infP W P) (s : Bool) : paR W P em m s n 0 false = (((K + sgB s W : Nat) : Int), ((0 : Int), (0 : Int))) := by
  have h8 := h.p8; have h53 := h.p53; have m0 := h.m0; have m1 := h.m1
  have eA : qA n 0 false (em - (P : Int) + 1) = n * wD P em := by
    unfold qA nuN
    rw [if_neg (by simp)]
    unfold wD; rw [show (0 : Int) - (em - (P : Int) + 1) = -(em - (P : Int) + 1) by omega]
  have eB : qB 0 false (em - (P : Int) + 1) = 1 := by
    unfold qB nuD
    rw [if_neg (by simp), p2_neg (by omega)]
  have ep : paR W P em m s n 0 false = ((rnOut W P m s (n * wD P em) 1).1, ((rnOut W P m s (n * wD P em) 1).2, 0)) := by
    unfold paR
    rw [if_neg (by omega), if_neg (by simp), if_neg hn0, eA, eB]
  have := rnOut_rep (W := W) (P := P) (k := K) (B := 1) (by omega) (by decide) hi m s
  rw [Nat.mul_one, hK] at this
  rw [ep, this]
omit h in
theorem paZ (m : Int) : paR W P em m false 0 0 false = ((0 : Int), ((0 : Int), (0 : Int))) := by
  unfold paR
  rw [if_neg (by omega), if_neg (by simp), if_pos rfl]
  rfl
end
/-- The signed word of a whole number. -/
theorem word_of {s : Bool} {U : Nat} (hU : ¬ (if s then kBel 1 else kMost 1) < U) : ∃ x : Nat, (if s then negU U else (U : Int)) = (x : Int) ∧ x < 18446744073709551616 ∧ IntKind.i64.wrap (x : Int) = sg s U ∧ (U = 0 → x = 0) ∧ (U ≠ 0 → inNeg 1 x = s ∧ inMag 1 x = U) ∧ (s = true → U ≤ 9223372036854775808) ∧ (s = false → U ≤ 9223372036854775807) := by
  cases s
  · have hb : U ≤ 9223372036854775807 := by
      have : kMost 1 = 9223372036854775807 := rfl
      simp at hU; omega
    have hn : inNeg 1 U = false := by unfold inNeg; rw [decide_eq_false (show ¬ 9223372036854775808 ≤ U by omega), Bool.and_false]
    refine ⟨U, rfl, by omega, ?_, fun e => e, fun _ => ⟨hn, ?_⟩, fun e => by simp at e, fun _ => hb⟩
    · rw [wrapI (by omega) (by omega)]; rfl
    · unfold inMag; rw [hn]; rfl
  · have hb : U ≤ 9223372036854775808 := by
      have : kBel 1 = 9223372036854775808 := rfl
      simp at hU; omega
    obtain ⟨x, x1, x2, x3⟩ := negU_nat U
    have hw : IntKind.i64.wrap (x : Int) = -(U : Int) := by rw [wrap_i64]; omega
    refine ⟨x, x1, x2, by rw [hw]; rfl, fun e => by omega, fun g => ?_, fun _ => hb, fun e => by simp at e⟩
    have hn : inNeg 1 x = true := by unfold inNeg; rw [decide_eq_true (by decide), decide_eq_true (show 9223372036854775808 ≤ x by omega)]; rfl
    refine ⟨hn, ?_⟩
    unfold inMag; rw [hn, if_pos rfl]; omega
namespace Pure
abbrev ThreeTy : Ty := .pair (.int .i64) (.pair (.int .i64) (.pair (.int .u64) (.pair (.int .u64) (.int .u64))))
theorem WholeInts (t : Int × (Int × (Int × (Int × Int)))) (w : WFt ThreeTy t) : Ev (fun k => verniertop_WholeInts k t.1 t.2.1 t.2.2.1 t.2.2.2.1 t.2.2.2.2) true := by
  obtain ⟨w1, w2, w3, w4, w5⟩ := w
  obtain ⟨f, m, a, b, c⟩ := t
  have ha : 0 ≤ a ∧ a < 18446744073709551616 := wf_u64 w3
  have hb : 0 ≤ b ∧ b < 18446744073709551616 := wf_u64 w4
  have hc : 0 ≤ c ∧ c < 18446744073709551616 := wf_u64 w5
  show Ev (fun k => verniertop_WholeInts k f m a b c) true
  obtain ⟨F, M, W, P, em, ex, A, B', C', h, hM, hA, -, -, ft⟩ := fittedT (f := f) (m := m) ha hb hc
  clear ha hb hc w1 w2 w3 w4 w5
  have h8 := h.p8; have h3 := h.wp; have h53 := h.p53; have m0 := h.m0; have m1 := h.m1
  have hip := infP_le h
  have hpp := Nat.two_pow_pos (P - 1)
  have mm0 := hM.m0; have mm5 := hM.m5
  refine Ev.congr (fun k => verniertop_WholeInts_eq k _ _ _ _ _) (Ev.bind ft (Ev.bind ints_awake (Ev.neg (nF rfl) (Ev.neg (nF rfl) ?_))))
  have ti := ToInt_ev h hM (κ := 1) (by decide) (by decide) hA
  have ii := Integral_ev h hM hA true
  obtain ⟨pf, pn⟩ := partsT h hA
  by_cases hi : pk W A < infP W P
  · obtain ⟨la, ea, pa, ra⟩ := pf hi
    rw [toR_fin h 1 hA hi] at ti
    rw [inR_fin h M hA hi] at ii
    have a11 : (andK IntKind.i64 1 1 != 0) = true := by decide +kernel
    by_cases big : (if ps W A = true then kBel 1 else kMost 1) < wU P em M (ps W A) (pk W A)
    · rw [if_pos big] at ti
      exact Ev.bind ti (Ev.bind ii (Ev.neg (nF rfl) (Ev.neg (nF rfl) (Ev.bind pa (Ev.neg (nF rfl) (Ev.pos a11 (Ev.pos (bT rfl) (Ev.some _))))))))
    · rw [if_neg big] at ti
      obtain ⟨kv, kl⟩ := wK_ok h (m := M) (ps W A) hi
      obtain ⟨t, t1, t2, t3, t4⟩ := wD_pow h
      obtain ⟨z1, z2, z3⟩ := pk_at (W := W) (K := wK P em M (ps W A) (pk W A)) (by omega) (by omega) (ps W A)
      obtain ⟨wf', -⟩ := partsT h z3
      rw [z1, z2, kv] at wf'
      obtain ⟨lw, ew, pw, rw'⟩ := wf' kl
      obtain ⟨x, x1, x2, x3, x4, x5, x6, x7⟩ := word_of big
      rw [x1] at ti
      have fi := FromInt_ev h hM (κ := 1) (by decide) (by decide) x2
      have hpt := Nat.two_pow_pos t
      obtain ⟨q1, q2⟩ := cut_delta M (ps W A) (plV P (pk W A)) hpt
      have hcut : cutN M (ps W A) (plV P (pk W A)) (2 ^ t) = wU P em M (ps W A) (pk W A) := by unfold wU; rw [t1]
      rw [hcut] at q2
      have hw : wL P em (pk W A) = decide (plV P (pk W A) % 2 ^ t ≠ 0) := by
        unfold wL
        rw [t1]
        by_cases g : plV P (pk W A) % 2 ^ t = 0
        · rw [decide_eq_false (show ¬ plV P (pk W A) % 2 ^ t ≠ 0 by omega), decide_eq_false (by rw [lftN_zero.2 g]; simp)]
        · rw [decide_eq_true (show plV P (pk W A) % 2 ^ t ≠ 0 from g), decide_eq_true (show lftN (plV P (pk W A)) (2 ^ t) ≠ 0 from fun e => g (lftN_zero.1 e))]
      -- sizes
      obtain ⟨p, hp⟩ : ∃ p : Nat, p = 2112 := ⟨_, rfl⟩
      have sV := plV_short h hi (p := p) (by omega)
      have sY := plV_short h kl (p := p) (by omega)
      have st : 2 ^ t < 2 ^ p := Nat.pow_lt_pow_right (by decide) (by omega)
      -- back
      have back : ∃ (y : Nat), y < 2 ^ W ∧ Ev (fun k => whole_FromInt k F M 1 (x : Int)) ((y : Int), ((0 : Int), (0 : Int))) ∧ andNotK IntKind.u64 ((wK P em M (ps W A) (pk W A) + sgB (ps W A) W : Nat) : Int) ((2 ^ (W - 1) : Nat) : Int) = andNotK IntKind.u64 (y : Int) ((2 ^ (W - 1) : Nat) : Int) := by
        by_cases u0 : wU P em M (ps W A) (pk W A) = 0
        · have hx0 := x4 u0
          have hn : inNeg 1 0 = false := by decide
          have hg : inMag 1 0 = 0 := by decide
          rw [hx0, hn, hg, if_neg (by simp), paZ M] at fi
          refine ⟨0, Nat.two_pow_pos W, by rw [hx0]; exact fi, ?_⟩
          have k0 : wK P em M (ps W A) (pk W A) = 0 := (plV_zero (P := P) (by omega)).1 (by rw [kv, u0, Nat.zero_mul])
          rw [k0, Nat.zero_add]
          unfold sgB
          cases ps W A
          · rfl
          · exact abs_zeros h
        · obtain ⟨y1, y2⟩ := x5 u0
          rw [y1, y2, if_neg big, paX h hM u0 kv kl] at fi
          exact ⟨_, z3, fi, rfl⟩
      obtain ⟨y, yl, fi', ab⟩ := back
      have absW := absT h z3
      have absY := absT h yl
      clear fi x5
      rw [kv, t1] at sY
      rw [t1] at rw'
      generalize wU P em M (ps W A) (pk W A) = U at *
      generalize ((wK P em M (ps W A) (pk W A) + sgB (ps W A) W : Nat) : Int) = R at *
      generalize plV P (pk W A) = V at *
      generalize ps W A = s at *
      rw [hw] at ti ii
      have a0 : ∀ g : Bool, (andK IntKind.i64 (if g = true then 16 else 0) 1 != 0) = false := by decide +kernel
      have hflag : (if true = true ∧ decide (V % 2 ^ t ≠ 0) = true then (16 : Int) else 0) = (if decide (V % 2 ^ t ≠ 0) = true then 16 else 0) := by
        cases decide (V % 2 ^ t ≠ 0) <;> rfl
      rw [hflag] at ii
      -- the difference
      have hd : ∀ Y : Nat, (s = false → sg s Y + -(sg s V) = (Y : Int) - V) ∧ (s = true → sg s Y + -(sg s V) = (V : Int) - Y) := fun Y => by
        unfold sg; cases s <;> simp <;> omega
      have hd := hd (U * 2 ^ t)
      have rest : ∀ (bv : Bool) (lv : List Int), RepT (em - (P : Int) + 1) bv lv 0 (sg s (U * 2 ^ t)) → ∀ B2 C2 : Int,
          Ev (fun k => ((verniertop_opposite k s la ea)).bind fun o7 => ((verniertop_sum k bv lv 0 o7.1 o7.2.1 o7.2.2)).bind fun o8 => ((verniertop_size k o8.1 o8.2.1 o8.2.2)).bind fun o9 => ((verniertop_power k 0)).bind fun o10 => ((verniertop_versus k o9.1 o9.2.1 o9.2.2 o10.1 o10.2.1 o10.2.2)).bind fun o11 => (if decide (o11 ≥ 0) then some false else ((verniertop_sign k o8.1 o8.2.1 o8.2.2)).bind fun o12 => (if !((o12 != 0) == ((if decide (V % 2 ^ t ≠ 0) = true then (16 : Int) else 0) == 16)) then some false else (if (if decide (V % 2 ^ t ≠ 0) = true then (16 : Int) else 0) != (if decide (V % 2 ^ t ≠ 0) = true then 16 else 0) then some false else verniertop_WholeInts.j0 k F M (x : Int) R F M (A : Int) B2 C2 s la ea bv lv 0 o8.1 o8.2.1 o8.2.2)))) true := by
        intro bv lv rv B2 C2
        obtain ⟨s1, l1, e1, d1, d2⟩ := sumT (by omega) rv ra.neg (p := p) (by omega) (by rw [tsg_abs]; exact sY) (by rw [Int.natAbs_neg, tsg_abs]; exact sV)
        have hz : sgn (0 : Int) = 0 := rfl
        -- what is asked of w at the end
        have j1 : Ev (fun k => verniertop_WholeInts.j1 k F M (x : Int) R F M (A : Int) B2 C2 bv lv 0) true := by
          obtain ⟨s2, l2, e2, f1, f2⟩ := sumT (by omega) rw' rv.neg (p := p) (by omega) (by rw [tsg_abs]; exact sY) (by rw [Int.natAbs_neg, tsg_abs]; exact sY)
          rw [Int.add_right_neg] at f2
          have g2 := signT f2
          refine Ev.congr (fun k => verniertop_WholeInts.j1_eq k _ _ _ _ _ _ _ _ _ _ _ _) (Ev.bind pw (Ev.neg (nF rfl) (Ev.bind (Ev.of fun k => oppT k _ _ _) (Ev.bind f1 (Ev.bind g2 (Ev.neg (nF rfl) (Ev.bind fi' (Ev.bind (Ev.of absW) (Ev.bind (Ev.of absY) (Ev.pos (bT rfl) (Ev.pos (bT rfl) (Ev.pos (bT rfl) (Ev.eq (Ev.some _) (bT ab))))))))))))))
        generalize sg s (U * 2 ^ t) + -(sg s V) = δ at *
        have bd : δ < ((2 ^ t : Nat) : Int) ∧ -((2 ^ t : Nat) : Int) < δ ∧ (δ = 0 ↔ V % 2 ^ t = 0) ∧ (M = 3 → 0 ≤ δ) ∧ (M = 4 → δ ≤ 0) ∧ (M = 2 → δ ≠ 0 → decide (0 < δ) = s) := by
          clear d1 d2 j1 ti ii pa pw fi' absW absY ab rv
          generalize U * 2 ^ t = Y at *
          generalize V % 2 ^ t = r at *
          generalize 2 ^ t = D at *
          cases s
          · simp at hd
            rcases q2 with ⟨b1, b3⟩ | ⟨b1, b2, b3⟩
            · refine ⟨by omega, by omega, by omega, fun e => ?_, fun e => by omega, fun e g => decide_eq_false (by omega)⟩
              subst e
              rcases b3 with b3 | b3
              · omega
              · simp [ups] at b3
            · refine ⟨by omega, by omega, by omega, fun e => by omega, fun e => ?_, fun e => ?_⟩
              · subst e; simp [ups] at b3
              · subst e; simp [ups] at b3
          · simp at hd
            rcases q2 with ⟨b1, b3⟩ | ⟨b1, b2, b3⟩
            · refine ⟨by omega, by omega, by omega, fun e => by omega, fun e => ?_, fun e g => decide_eq_true (by omega)⟩
              subst e
              rcases b3 with b3 | b3
              · omega
              · simp [ups] at b3
            · refine ⟨by omega, by omega, by omega, fun e => ?_, fun e => by omega, fun e => ?_⟩
              · subst e; simp [ups] at b3
              · subst e; simp [ups] at b3
        obtain ⟨bd1, bd2, bd3, bd4, bd5, bd6⟩ := bd
        have sd := signT d2
        have vs := versusT (B := em - (P : Int) + 1) (by omega) d2.abs (RepT.pow (e := 0) (t := t) (by omega) (by omega)) (p := p) (by omega) (by omega) (by omega)
        have lt1 : ¬ (decide (sgn (((δ.natAbs : Nat) : Int) - ((2 ^ t : Nat) : Int)) ≥ 0) = true) := dF (by have := (sgn_lt (x := ((δ.natAbs : Nat) : Int) - ((2 ^ t : Nat) : Int))).2 (by omega); omega)
        have fl1 : ¬ ((!((sgn δ != 0) == ((if decide (V % 2 ^ t ≠ 0) = true then (16 : Int) else 0) == 16))) = true) := by
          by_cases g : V % 2 ^ t = 0
          · rw [decide_eq_false (show ¬ V % 2 ^ t ≠ 0 by omega), sgn_zero.2 (bd3.2 g)]; decide
          · have : sgn δ ≠ 0 := fun e => g (bd3.1 (sgn_zero.1 e))
            rw [decide_eq_true (show V % 2 ^ t ≠ 0 from g), show (sgn δ != 0) = true from bne_iff_ne.2 this]; decide
        refine Ev.bind (Ev.of fun k => oppT k _ _ _) (Ev.bind d1 (Ev.bind (Ev.congr (fun k => verniertop_size_eq k _ _ _) (Ev.some _)) (Ev.bind (powT 0) (Ev.bind vs (Ev.neg lt1 (Ev.bind sd (Ev.neg fl1 (Ev.neg (nF rfl) ?_))))))))
        refine Ev.congr (fun k => verniertop_WholeInts.j0_eq k _ _ _ _ _ _ _ _ _ _ _ _ _ _ _ _ _ _) (Ev.bind sd ?_)
        by_cases c3 : M = 3
        · refine Ev.pos (bT c3) (Ev.neg (dF ?_) (Ev.neg (bF (by omega)) (Ev.neg (bF (by omega)) j1)))
          have := sgn_lt (x := δ)
          have := bd4 c3
          omega
        · refine Ev.neg (bF c3) ?_
          by_cases c4 : M = 4
          · refine Ev.pos (bT c4) (Ev.neg (dF ?_) (Ev.neg (bF (by omega)) j1))
            have := sgn_gt (x := δ)
            have := bd5 c4
            omega
          · refine Ev.neg (bF c4) ?_
            by_cases c2 : M = 2
            · refine Ev.pos (bT c2) ?_
              by_cases g : δ = 0
              · exact Ev.neg (nF (sgn_zero.2 g)) j1
              · refine Ev.pos (nT fun e => g (sgn_zero.1 e)) (Ev.neg ?_ j1)
                rw [sgn_pos, show decide (δ > 0) = s from bd6 c2 g]; simp
            · exact Ev.neg (bF c2) j1
      -- the word that ToInt answers
      have nx := tnat_ev x2
      refine Ev.bind ti (Ev.bind ii (Ev.neg (nF rfl) (Ev.neg (nF rfl) (Ev.bind pa (Ev.neg (nF rfl) (Ev.neg (by rw [a0]; simp) (Ev.bind nx ?_)))))))
      by_cases neg : IntKind.i64.wrap (x : Int) < 0
      · have hs : s = true ∧ U ≠ 0 := by
          rw [x3] at neg; unfold sg at neg
          cases s
          · simp at neg; omega
          · simp at neg; exact ⟨rfl, by omega⟩
        obtain ⟨hs, hu⟩ := hs
        have eU : IntKind.u64.wrap (0 - (x : Int)) = (U : Int) := by
          have b6 := x6 hs
          rw [hs] at x3
          have x3' : IntKind.i64.wrap (x : Int) = -(U : Int) := x3
          rw [wrap_i64] at x3'
          rw [wrap_u64]; omega
        have nU := tnat_ev (x := U) (by have := x6 hs; omega)
        have rv := RepT.nat (B := em - (P : Int) + 1) (t := t) (by omega) (by omega) s U
        have r := rest s (d32 U) rv (B' : Int) (C' : Int)
        have es : decide (IntKind.i64.wrap (x : Int) < 0) = s := by rw [decide_eq_true neg, hs]
        refine Ev.pos (dT neg) (Ev.bind (by rw [eU]; exact nU) ?_)
        dsimp only
        rw [es]
        exact r
      · have hx : x = U ∧ (s = true → U = 0) := by
          rw [x3] at neg
          unfold sg at neg x3
          cases s
          · simp at x3 ⊢
            have := x7 rfl
            rw [wrap_i64] at x3; omega
          · simp at neg
            exact ⟨by rw [neg]; exact x4 neg, fun _ => neg⟩
        have rv : RepT (em - (P : Int) + 1) false (d32 x) 0 (sg s (U * 2 ^ t)) := by
          have := RepT.nat (B := em - (P : Int) + 1) (t := t) (by omega) (by omega) false U
          rw [hx.1]
          cases s
          · exact this
          · rw [hx.2 rfl] at this ⊢
            rw [Nat.zero_mul] at this ⊢
            rw [tsg_zero] at this ⊢
            exact this
        have r := rest false (d32 x) rv (B' : Int) (C' : Int)
        have es : decide (IntKind.i64.wrap (x : Int) < 0) = false := decide_eq_false neg
        refine Ev.neg (dF neg) ?_
        dsimp only
        rw [es]
        exact r
  · obtain ⟨c, c0, pa⟩ := pn (by omega)
    have i1 : 0 < infP W P := Nat.mul_pos (by have := (eTop_le h).2; omega) (Nat.two_pow_pos _)
    obtain ⟨d, hd, hdc⟩ := cls_all (W := W) (P := P) (p := pk W A) (neg := ps W A) i1
    rw [hd] at ti ii
    have t1 : ∃ y : Int, toR 1 d (ps W A) (wU P em M (ps W A) (pk W A)) (wL P em (pk W A)) = (y, ((1 : Int), (0 : Int))) := by
      unfold toR
      by_cases g : d = 0 ∨ d = 1 ∨ d = 9
      · rw [if_pos g]; exact ⟨_, rfl⟩
      · rw [if_neg g, if_pos (by omega)]; exact ⟨_, rfl⟩
    have t2 : (inR W P em M d (A : Int) ((infP W P + 2 ^ (P - 2) : Nat) : Int) (ps W A) true (pk W A)).2.2 = 0 := by
      unfold inR; split
      · rfl
      · split
        · rfl
        · split <;> rfl
    obtain ⟨y, hy⟩ := t1
    rw [hy] at ti
    exact Ev.bind ti (Ev.bind ii (Ev.neg (nF rfl) (Ev.neg (nF t2) (Ev.bind pa (Ev.pos (nT c0) (Ev.neg (bF c0) (Ev.eq (Ev.some _) rfl)))))))
end Pure
end Go.Proofs.YtldjheckpophaaaDoor.X
