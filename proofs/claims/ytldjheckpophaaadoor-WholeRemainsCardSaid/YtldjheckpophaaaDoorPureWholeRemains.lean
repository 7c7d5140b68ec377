/- Plain law: WholeRemains answers true. Conditions: what the reading says of the arguments. -/
import Derived.Test.YtldjheckpophaaaDoorTpM
import Derived.Test.YtldjheckpophaaaDoorRemD
namespace Go.Proofs.YtldjheckpophaaaDoor.X
open Go Go.Rex
set_option linter.unusedVariables false

theorem remains_awake : Ev (fun k => rem_Remainder k 2 1084227584 1077936128) ((3212836864 : Int), ((2 : Int), ((0 : Int), (0 : Int)))) := by
  have e1 : pk 32 1084227584 = 1084227584 := by decide +kernel
  have e2 : ps 32 1084227584 = false := by decide +kernel
  have e3 : pk 32 1077936128 = 1077936128 := by decide +kernel
  have v5 : plV 24 1084227584 = 5 * 2 ^ 149 := by decide +kernel
  have v3 : plV 24 1077936128 = 3 * 2 ^ 149 := by decide +kernel
  have v1 : plV 24 1065353216 = 1 * 2 ^ 149 := by decide +kernel
  have hp := Nat.two_pow_pos 149
  have hi : infP 32 24 = 2139095040 := by decide +kernel
  have l1 : leftR true 5 3 = 1 := by decide
  have o1 : oftenR true 5 3 = 2 := by decide
  have u1 : upR true 5 3 = true := by decide
  have r1 := rem_nums fm32 (a := 1084227584) (b := 1077936128) (by decide) (by decide) true (by rw [e1, hi]; decide) (by rw [e3, hi]; decide) (K := 1065353216) (by rw [e1, e3, v5, v3, v1, leftR_scale true 5 hp, l1]) (by rw [hi]; decide)
  have s1 : signR true (ps 32 1084227584) (plV 24 (pk 32 1084227584)) (plV 24 (pk 32 1077936128)) = true := by
    unfold signR
    rw [e1, e2, e3, v5, v3, leftR_scale true 5 hp, upR_scale true 5 hp, l1, u1, if_neg (by omega), if_pos rfl]; rfl
  rw [s1, e1, e3, v5, v3, oftenR_scale true 5 hp, o1] at r1
  have b1 : (((1065353216 + sgB true 32 : Nat) : Int), (((2 % 8 : Nat) : Int), ((0 : Int), (0 : Int)))) = ((3212836864 : Int), ((2 : Int), ((0 : Int), (0 : Int)))) := by decide +kernel
  rw [b1] at r1
  exact Remainder_ev r1
section
variable {F : Int} {W P : Nat} {em ex : Int} (h : Fm F W P em ex)
include h
theorem plV_shortR {K p : Nat} (hK : K < infP W P) (hp : 2112 ≤ p) : plV P K < 2 ^ p := by
  have h8 := h.p8
  have hip := infP_le h
  have hpp := Nat.two_pow_pos (P - 1)
  by_cases c : K = 0
  · rw [c, (plV_zero (P := P) (by omega)).2 rfl]; exact Nat.two_pow_pos p
  · obtain ⟨f1, f2, f3, f4⟩ := plV_facts h c (by omega)
    exact Nat.lt_of_lt_of_le (blen_lt _) (pow_mono2 (by omega))
end
namespace Pure
abbrev ThreeTyR : Ty := .pair (.int .i64) (.pair (.int .i64) (.pair (.int .u64) (.pair (.int .u64) (.int .u64))))
theorem WholeRemains (t : Int × (Int × (Int × (Int × Int)))) (w : WFt ThreeTyR t) : Ev (fun k => verniertop_WholeRemains k t.1 t.2.1 t.2.2.1 t.2.2.2.1 t.2.2.2.2) true := by
  obtain ⟨w1, w2, w3, w4, w5⟩ := w
  obtain ⟨f, m, a, b, c⟩ := t
  have ha : 0 ≤ a ∧ a < 18446744073709551616 := wf_u64 w3
  have hb : 0 ≤ b ∧ b < 18446744073709551616 := wf_u64 w4
  have hc : 0 ≤ c ∧ c < 18446744073709551616 := wf_u64 w5
  show Ev (fun k => verniertop_WholeRemains k f m a b c) true
  obtain ⟨F, M, W, P, em, ex, A, B, C', h, hM, hA, hB, -, ft⟩ := fittedT (f := f) (m := m) ha hb hc
  clear ha hb hc w1 w2 w3 w4 w5
  have h8 := h.p8; have h3 := h.wp; have h53 := h.p53; have m0 := h.m0; have m1 := h.m1
  have hip := infP_le h
  have hpp := Nat.two_pow_pos (P - 1)
  refine Ev.congr (fun k => verniertop_WholeRemains_eq k _ _ _ _ _) (Ev.bind ft (Ev.bind remains_awake (Ev.neg (nF rfl) (Ev.neg (nF rfl) ?_))))
  obtain ⟨af, an⟩ := partsB h hA
  obtain ⟨bf, bn⟩ := partsB h hB
  by_cases g : pk W A < infP W P ∧ (pk W B ≠ 0 ∧ pk W B < infP W P)
  · obtain ⟨g1, g2⟩ := g
    obtain ⟨K1, k1, k2, r1⟩ := rem_fin h hA hB true g1 g2
    obtain ⟨K2, k3, k4, r2⟩ := rem_fin h hA hB false g1 g2
    rw [sign_false] at r2
    obtain ⟨la, ea, pa, ra, ba⟩ := af g1
    obtain ⟨lb, eb, pb, rb, bb⟩ := bf g2.2
    obtain ⟨y1, y2, y3⟩ := pk_at (W := W) (K := K1) (by omega) (by omega) (signR true (ps W A) (plV P (pk W A)) (plV P (pk W B)))
    obtain ⟨z1, z2, z3⟩ := pk_at (W := W) (K := K2) (by omega) (by omega) (ps W A)
    obtain ⟨rf, -⟩ := partsB h y3
    obtain ⟨sf, -⟩ := partsB h z3
    rw [y1, y2, k1] at rf
    rw [z1, z2, k3] at sf
    obtain ⟨lr, er, pr, rr, br⟩ := rf k2
    obtain ⟨ls, es, pss, rs, bs⟩ := sf k4
    have hV : plV P (pk W B) ≠ 0 := fun e => g2.1 ((plV_zero (P := P) (by omega)).1 e)
    obtain ⟨p, hp⟩ : ∃ p : Nat, p = 2112 := ⟨_, rfl⟩
    have sA := plV_shortR h g1 (p := p) (by omega)
    have sB := plV_shortR h g2.2 (p := p) (by omega)
    have pp : 2 ^ (p + 1) = 2 * 2 ^ p := by rw [Nat.pow_succ, Nat.mul_comm]
    have s1z : leftR true (plV P (pk W A)) (plV P (pk W B)) = 0 → signR true (ps W A) (plV P (pk W A)) (plV P (pk W B)) = ps W A := fun e => sign_zero e
    have d1 := rem_diff true (ps W A) (plV P (pk W A)) (B := plV P (pk W B)) (by omega)
    have d2 := rem_diff false (ps W A) (plV P (pk W A)) (B := plV P (pk W B)) (by omega)
    rw [sign_false] at d2
    have hf := left_half (A := plV P (pk W A)) (B := plV P (pk W B)) (by omega)
    have hl := (again_up false (A := plV P (pk W A)) (B := plV P (pk W B)) (by omega)).2
    have lbn := rb.some' (by unfold sg; split <;> omega)
    have R1 := Remainder_ev r1
    have R2 := Mod_ev r2
    clear r1 r2 k1 k3 y1 y2 y3 z1 z2 z3 an bn af bf
    generalize signR true (ps W A) (plV P (pk W A)) (plV P (pk W B)) = s1 at *
    generalize leftR true (plV P (pk W A)) (plV P (pk W B)) = L1 at *
    generalize leftR false (plV P (pk W A)) (plV P (pk W B)) = L2 at *
    generalize oftenR true (plV P (pk W A)) (plV P (pk W B)) = N1 at *
    generalize oftenR false (plV P (pk W A)) (plV P (pk W B)) = N2 at *
    generalize ((K1 + sgB s1 W : Nat) : Int) = X1 at *
    generalize ((K2 + sgB (ps W A) W : Nat) : Int) = X2 at *
    generalize plV P (pk W A) = V at *
    generalize plV P (pk W B) = Wb at *
    generalize ps W A = s at *
    generalize ps W B = sb at *
    -- the long tail, told once
    have n1 : N1 * Wb < 2 ^ (p + 1) := by
      have := congrArg Int.natAbs d1
      rw [tsg_abs] at this
      have a1 := tsg_abs s V
      have a2 := tsg_abs s1 L1
      omega
    have n2 : N2 * Wb < 2 ^ (p + 1) := by
      have := congrArg Int.natAbs d2
      rw [tsg_abs] at this
      have a1 := tsg_abs s V
      have a2 := tsg_abs s L2
      omega
    obtain ⟨t1, u1, e1, v1, x1⟩ := sumT (by omega) ra rr.neg (p := p) (by omega) (by rw [tsg_abs]; exact sA) (by rw [Int.natAbs_neg, tsg_abs]; omega)
    obtain ⟨t2, u2, e2, v2, x2⟩ := sumT (by omega) ra rs.neg (p := p) (by omega) (by rw [tsg_abs]; exact sA) (by rw [Int.natAbs_neg, tsg_abs]; omega)
    rw [d1] at x1
    rw [d2] at x2
    have q1 := multT (by omega) x1 rb (p := p + 1) (N := N1) (by unfold sg; split <;> omega) (by rw [tsg_abs, tsg_abs]) (by omega) (by omega) (by rw [tsg_abs]; exact n1) (by rw [tsg_abs]; omega) (x0 := ((N1 % 8 : Nat) : Int)) rfl
    have q2 := multT (by omega) x2 rb (p := p + 1) (N := N2) (by unfold sg; split <;> omega) (by rw [tsg_abs, tsg_abs]) (by omega) (by omega) (by rw [tsg_abs]; exact n2) (by rw [tsg_abs]; omega) (x0 := ((N2 % 8 : Nat) : Int)) rfl
    have aa : RepT (em - (P : Int) + 1) false lr er ((L1 : Nat) : Int) := by have := rr.abs; rwa [tsg_abs] at this
    have ab : RepT (em - (P : Int) + 1) false lb eb ((Wb : Nat) : Int) := by have := rb.abs; rwa [tsg_abs] at this
    have rsa : RepT (em - (P : Int) + 1) false ls es ((L2 : Nat) : Int) := by have := rs.abs; rwa [tsg_abs] at this
    have tw := aa.up 1 (by omega)
    have c1 := versusT (by omega) tw ab (p := p + 1) (by omega) (by omega) (by omega)
    have c2 := versusT (by omega) rsa ab (p := p + 1) (by omega) (by omega) (by omega)
    have er0 : em - (P : Int) + 1 ≤ er := by obtain ⟨_, _, g, _⟩ := aa; exact g
    have ew : IntKind.i64.wrap (er + 1) = er + ((1 : Nat) : Int) := by rw [wrapI (by omega) (by omega)]; rfl
    have f1 : ¬ (decide (sgn (((L1 * 2 ^ 1 : Nat) : Int) - (Wb : Int)) > 0) = true) := dF (by have := (sgn_gt (x := ((L1 * 2 ^ 1 : Nat) : Int) - (Wb : Int))); omega)
    have f2 : ¬ (decide (sgn (((L2 : Nat) : Int) - (Wb : Int)) ≥ 0) = true) := dF (by have := (sgn_lt (x := ((L2 : Nat) : Int) - (Wb : Int))).2 (by omega); omega)
    have sz : ∀ (s : Bool) (l : List Int) (e : Int), Ev (fun k => verniertop_size k s l e) (false, (l, e)) := fun s l e => Ev.congr (fun k => verniertop_size_eq k _ _ _) (Ev.some _)
    have op : ∀ (s : Bool) (l : List Int) (e : Int), Ev (fun k => verniertop_opposite k s l e) (!s, (l, e)) := fun s l e => Ev.of fun k => oppT k s l e
    have l1z : lr.length = 0 → s1 = s := fun g => s1z (by
      refine Decidable.byContradiction fun e => ?_
      have := aa.some' (by omega)
      omega)
    rw [← ew] at c1
    have tail : Ev (fun k => ((verniertop_size k s1 lr er)).bind fun o8 => ((verniertop_size k sb lb eb)).bind fun o9 => ((verniertop_versus k o8.1 o8.2.1 (IntKind.i64.wrap (o8.2.2 + 1)) o9.1 o9.2.1 o9.2.2)).bind fun o10 => (if decide (o10 > 0) then some false else ((verniertop_size k s ls es)).bind fun o11 => ((verniertop_size k sb lb eb)).bind fun o12 => ((verniertop_versus k o11.1 o11.2.1 o11.2.2 o12.1 o12.2.1 o12.2.2)).bind fun o13 => (if decide (o13 ≥ 0) then some false else ((verniertop_opposite k s1 lr er)).bind fun o14 => ((verniertop_sum k s la ea o14.1 o14.2.1 o14.2.2)).bind fun o15 => ((verniertop_multiple k o15.1 o15.2.1 o15.2.2 sb lb eb ((N1 % 8 : Nat) : Int))).bind fun o16 => (if o16 then ((verniertop_opposite k s ls es)).bind fun o17 => ((verniertop_sum k s la ea o17.1 o17.2.1 o17.2.2)).bind fun o18 => ((verniertop_multiple k o18.1 o18.2.1 o18.2.2 sb lb eb ((N2 % 8 : Nat) : Int))).bind fun o19 => some o19 else some false)))) true :=
      Ev.bind (sz s1 lr er) (Ev.bind (sz sb lb eb) (Ev.bind c1 (Ev.neg f1 (Ev.bind (sz s ls es) (Ev.bind (sz sb lb eb) (Ev.bind c2 (Ev.neg f2 (Ev.bind (op s1 lr er) (Ev.bind v1 (Ev.bind q1 (Ev.pos rfl (Ev.bind (op s ls es) (Ev.bind v2 (Ev.bind q2 (Ev.some _)))))))))))))))
    clear c1 c2 q1 q2 v1 v2
    have ns : ¬ ((!(s == s)) = true) := by simp
    have last : Ev (fun k => (if (ls.length : Int) == 0 then (if !(s == s) then some false else ((verniertop_size k s1 lr er)).bind fun o8 => ((verniertop_size k sb lb eb)).bind fun o9 => ((verniertop_versus k o8.1 o8.2.1 (IntKind.i64.wrap (o8.2.2 + 1)) o9.1 o9.2.1 o9.2.2)).bind fun o10 => (if decide (o10 > 0) then some false else ((verniertop_size k s ls es)).bind fun o11 => ((verniertop_size k sb lb eb)).bind fun o12 => ((verniertop_versus k o11.1 o11.2.1 o11.2.2 o12.1 o12.2.1 o12.2.2)).bind fun o13 => (if decide (o13 ≥ 0) then some false else ((verniertop_opposite k s1 lr er)).bind fun o14 => ((verniertop_sum k s la ea o14.1 o14.2.1 o14.2.2)).bind fun o15 => ((verniertop_multiple k o15.1 o15.2.1 o15.2.2 sb lb eb ((N1 % 8 : Nat) : Int))).bind fun o16 => (if o16 then ((verniertop_opposite k s ls es)).bind fun o17 => ((verniertop_sum k s la ea o17.1 o17.2.1 o17.2.2)).bind fun o18 => ((verniertop_multiple k o18.1 o18.2.1 o18.2.2 sb lb eb ((N2 % 8 : Nat) : Int))).bind fun o19 => some o19 else some false)))) else ((verniertop_size k s1 lr er)).bind fun o8 => ((verniertop_size k sb lb eb)).bind fun o9 => ((verniertop_versus k o8.1 o8.2.1 (IntKind.i64.wrap (o8.2.2 + 1)) o9.1 o9.2.1 o9.2.2)).bind fun o10 => (if decide (o10 > 0) then some false else ((verniertop_size k s ls es)).bind fun o11 => ((verniertop_size k sb lb eb)).bind fun o12 => ((verniertop_versus k o11.1 o11.2.1 o11.2.2 o12.1 o12.2.1 o12.2.2)).bind fun o13 => (if decide (o13 ≥ 0) then some false else ((verniertop_opposite k s1 lr er)).bind fun o14 => ((verniertop_sum k s la ea o14.1 o14.2.1 o14.2.2)).bind fun o15 => ((verniertop_multiple k o15.1 o15.2.1 o15.2.2 sb lb eb ((N1 % 8 : Nat) : Int))).bind fun o16 => (if o16 then ((verniertop_opposite k s ls es)).bind fun o17 => ((verniertop_sum k s la ea o17.1 o17.2.1 o17.2.2)).bind fun o18 => ((verniertop_multiple k o18.1 o18.2.1 o18.2.2 sb lb eb ((N2 % 8 : Nat) : Int))).bind fun o19 => some o19 else some false))))) true := by
      by_cases g : ls.length = 0
      · exact Ev.pos (bT (by omega)) (Ev.neg ns tail)
      · exact Ev.neg (bF (by omega)) tail
    have mid : Ev (fun k => (if (lr.length : Int) == 0 then (if !(s1 == s) then some false else (if (ls.length : Int) == 0 then (if !(s == s) then some false else ((verniertop_size k s1 lr er)).bind fun o8 => ((verniertop_size k sb lb eb)).bind fun o9 => ((verniertop_versus k o8.1 o8.2.1 (IntKind.i64.wrap (o8.2.2 + 1)) o9.1 o9.2.1 o9.2.2)).bind fun o10 => (if decide (o10 > 0) then some false else ((verniertop_size k s ls es)).bind fun o11 => ((verniertop_size k sb lb eb)).bind fun o12 => ((verniertop_versus k o11.1 o11.2.1 o11.2.2 o12.1 o12.2.1 o12.2.2)).bind fun o13 => (if decide (o13 ≥ 0) then some false else ((verniertop_opposite k s1 lr er)).bind fun o14 => ((verniertop_sum k s la ea o14.1 o14.2.1 o14.2.2)).bind fun o15 => ((verniertop_multiple k o15.1 o15.2.1 o15.2.2 sb lb eb ((N1 % 8 : Nat) : Int))).bind fun o16 => (if o16 then ((verniertop_opposite k s ls es)).bind fun o17 => ((verniertop_sum k s la ea o17.1 o17.2.1 o17.2.2)).bind fun o18 => ((verniertop_multiple k o18.1 o18.2.1 o18.2.2 sb lb eb ((N2 % 8 : Nat) : Int))).bind fun o19 => some o19 else some false)))) else ((verniertop_size k s1 lr er)).bind fun o8 => ((verniertop_size k sb lb eb)).bind fun o9 => ((verniertop_versus k o8.1 o8.2.1 (IntKind.i64.wrap (o8.2.2 + 1)) o9.1 o9.2.1 o9.2.2)).bind fun o10 => (if decide (o10 > 0) then some false else ((verniertop_size k s ls es)).bind fun o11 => ((verniertop_size k sb lb eb)).bind fun o12 => ((verniertop_versus k o11.1 o11.2.1 o11.2.2 o12.1 o12.2.1 o12.2.2)).bind fun o13 => (if decide (o13 ≥ 0) then some false else ((verniertop_opposite k s1 lr er)).bind fun o14 => ((verniertop_sum k s la ea o14.1 o14.2.1 o14.2.2)).bind fun o15 => ((verniertop_multiple k o15.1 o15.2.1 o15.2.2 sb lb eb ((N1 % 8 : Nat) : Int))).bind fun o16 => (if o16 then ((verniertop_opposite k s ls es)).bind fun o17 => ((verniertop_sum k s la ea o17.1 o17.2.1 o17.2.2)).bind fun o18 => ((verniertop_multiple k o18.1 o18.2.1 o18.2.2 sb lb eb ((N2 % 8 : Nat) : Int))).bind fun o19 => some o19 else some false))))) else (if (ls.length : Int) == 0 then (if !(s == s) then some false else ((verniertop_size k s1 lr er)).bind fun o8 => ((verniertop_size k sb lb eb)).bind fun o9 => ((verniertop_versus k o8.1 o8.2.1 (IntKind.i64.wrap (o8.2.2 + 1)) o9.1 o9.2.1 o9.2.2)).bind fun o10 => (if decide (o10 > 0) then some false else ((verniertop_size k s ls es)).bind fun o11 => ((verniertop_size k sb lb eb)).bind fun o12 => ((verniertop_versus k o11.1 o11.2.1 o11.2.2 o12.1 o12.2.1 o12.2.2)).bind fun o13 => (if decide (o13 ≥ 0) then some false else ((verniertop_opposite k s1 lr er)).bind fun o14 => ((verniertop_sum k s la ea o14.1 o14.2.1 o14.2.2)).bind fun o15 => ((verniertop_multiple k o15.1 o15.2.1 o15.2.2 sb lb eb ((N1 % 8 : Nat) : Int))).bind fun o16 => (if o16 then ((verniertop_opposite k s ls es)).bind fun o17 => ((verniertop_sum k s la ea o17.1 o17.2.1 o17.2.2)).bind fun o18 => ((verniertop_multiple k o18.1 o18.2.1 o18.2.2 sb lb eb ((N2 % 8 : Nat) : Int))).bind fun o19 => some o19 else some false)))) else ((verniertop_size k s1 lr er)).bind fun o8 => ((verniertop_size k sb lb eb)).bind fun o9 => ((verniertop_versus k o8.1 o8.2.1 (IntKind.i64.wrap (o8.2.2 + 1)) o9.1 o9.2.1 o9.2.2)).bind fun o10 => (if decide (o10 > 0) then some false else ((verniertop_size k s ls es)).bind fun o11 => ((verniertop_size k sb lb eb)).bind fun o12 => ((verniertop_versus k o11.1 o11.2.1 o11.2.2 o12.1 o12.2.1 o12.2.2)).bind fun o13 => (if decide (o13 ≥ 0) then some false else ((verniertop_opposite k s1 lr er)).bind fun o14 => ((verniertop_sum k s la ea o14.1 o14.2.1 o14.2.2)).bind fun o15 => ((verniertop_multiple k o15.1 o15.2.1 o15.2.2 sb lb eb ((N1 % 8 : Nat) : Int))).bind fun o16 => (if o16 then ((verniertop_opposite k s ls es)).bind fun o17 => ((verniertop_sum k s la ea o17.1 o17.2.1 o17.2.2)).bind fun o18 => ((verniertop_multiple k o18.1 o18.2.1 o18.2.2 sb lb eb ((N2 % 8 : Nat) : Int))).bind fun o19 => some o19 else some false)))))) true := by
      by_cases g : lr.length = 0
      · exact Ev.pos (bT (by omega)) (Ev.neg (by rw [l1z g]; simp) last)
      · exact Ev.neg (bF (by omega)) last
    have fin : Ev (fun k => (if decide ((ls.length : Int) > 0) then (if !(s == s) then some false else (if (lr.length : Int) == 0 then (if !(s1 == s) then some false else (if (ls.length : Int) == 0 then (if !(s == s) then some false else ((verniertop_size k s1 lr er)).bind fun o8 => ((verniertop_size k sb lb eb)).bind fun o9 => ((verniertop_versus k o8.1 o8.2.1 (IntKind.i64.wrap (o8.2.2 + 1)) o9.1 o9.2.1 o9.2.2)).bind fun o10 => (if decide (o10 > 0) then some false else ((verniertop_size k s ls es)).bind fun o11 => ((verniertop_size k sb lb eb)).bind fun o12 => ((verniertop_versus k o11.1 o11.2.1 o11.2.2 o12.1 o12.2.1 o12.2.2)).bind fun o13 => (if decide (o13 ≥ 0) then some false else ((verniertop_opposite k s1 lr er)).bind fun o14 => ((verniertop_sum k s la ea o14.1 o14.2.1 o14.2.2)).bind fun o15 => ((verniertop_multiple k o15.1 o15.2.1 o15.2.2 sb lb eb ((N1 % 8 : Nat) : Int))).bind fun o16 => (if o16 then ((verniertop_opposite k s ls es)).bind fun o17 => ((verniertop_sum k s la ea o17.1 o17.2.1 o17.2.2)).bind fun o18 => ((verniertop_multiple k o18.1 o18.2.1 o18.2.2 sb lb eb ((N2 % 8 : Nat) : Int))).bind fun o19 => some o19 else some false)))) else ((verniertop_size k s1 lr er)).bind fun o8 => ((verniertop_size k sb lb eb)).bind fun o9 => ((verniertop_versus k o8.1 o8.2.1 (IntKind.i64.wrap (o8.2.2 + 1)) o9.1 o9.2.1 o9.2.2)).bind fun o10 => (if decide (o10 > 0) then some false else ((verniertop_size k s ls es)).bind fun o11 => ((verniertop_size k sb lb eb)).bind fun o12 => ((verniertop_versus k o11.1 o11.2.1 o11.2.2 o12.1 o12.2.1 o12.2.2)).bind fun o13 => (if decide (o13 ≥ 0) then some false else ((verniertop_opposite k s1 lr er)).bind fun o14 => ((verniertop_sum k s la ea o14.1 o14.2.1 o14.2.2)).bind fun o15 => ((verniertop_multiple k o15.1 o15.2.1 o15.2.2 sb lb eb ((N1 % 8 : Nat) : Int))).bind fun o16 => (if o16 then ((verniertop_opposite k s ls es)).bind fun o17 => ((verniertop_sum k s la ea o17.1 o17.2.1 o17.2.2)).bind fun o18 => ((verniertop_multiple k o18.1 o18.2.1 o18.2.2 sb lb eb ((N2 % 8 : Nat) : Int))).bind fun o19 => some o19 else some false))))) else (if (ls.length : Int) == 0 then (if !(s == s) then some false else ((verniertop_size k s1 lr er)).bind fun o8 => ((verniertop_size k sb lb eb)).bind fun o9 => ((verniertop_versus k o8.1 o8.2.1 (IntKind.i64.wrap (o8.2.2 + 1)) o9.1 o9.2.1 o9.2.2)).bind fun o10 => (if decide (o10 > 0) then some false else ((verniertop_size k s ls es)).bind fun o11 => ((verniertop_size k sb lb eb)).bind fun o12 => ((verniertop_versus k o11.1 o11.2.1 o11.2.2 o12.1 o12.2.1 o12.2.2)).bind fun o13 => (if decide (o13 ≥ 0) then some false else ((verniertop_opposite k s1 lr er)).bind fun o14 => ((verniertop_sum k s la ea o14.1 o14.2.1 o14.2.2)).bind fun o15 => ((verniertop_multiple k o15.1 o15.2.1 o15.2.2 sb lb eb ((N1 % 8 : Nat) : Int))).bind fun o16 => (if o16 then ((verniertop_opposite k s ls es)).bind fun o17 => ((verniertop_sum k s la ea o17.1 o17.2.1 o17.2.2)).bind fun o18 => ((verniertop_multiple k o18.1 o18.2.1 o18.2.2 sb lb eb ((N2 % 8 : Nat) : Int))).bind fun o19 => some o19 else some false)))) else ((verniertop_size k s1 lr er)).bind fun o8 => ((verniertop_size k sb lb eb)).bind fun o9 => ((verniertop_versus k o8.1 o8.2.1 (IntKind.i64.wrap (o8.2.2 + 1)) o9.1 o9.2.1 o9.2.2)).bind fun o10 => (if decide (o10 > 0) then some false else ((verniertop_size k s ls es)).bind fun o11 => ((verniertop_size k sb lb eb)).bind fun o12 => ((verniertop_versus k o11.1 o11.2.1 o11.2.2 o12.1 o12.2.1 o12.2.2)).bind fun o13 => (if decide (o13 ≥ 0) then some false else ((verniertop_opposite k s1 lr er)).bind fun o14 => ((verniertop_sum k s la ea o14.1 o14.2.1 o14.2.2)).bind fun o15 => ((verniertop_multiple k o15.1 o15.2.1 o15.2.2 sb lb eb ((N1 % 8 : Nat) : Int))).bind fun o16 => (if o16 then ((verniertop_opposite k s ls es)).bind fun o17 => ((verniertop_sum k s la ea o17.1 o17.2.1 o17.2.2)).bind fun o18 => ((verniertop_multiple k o18.1 o18.2.1 o18.2.2 sb lb eb ((N2 % 8 : Nat) : Int))).bind fun o19 => some o19 else some false)))))) else (if (lr.length : Int) == 0 then (if !(s1 == s) then some false else (if (ls.length : Int) == 0 then (if !(s == s) then some false else ((verniertop_size k s1 lr er)).bind fun o8 => ((verniertop_size k sb lb eb)).bind fun o9 => ((verniertop_versus k o8.1 o8.2.1 (IntKind.i64.wrap (o8.2.2 + 1)) o9.1 o9.2.1 o9.2.2)).bind fun o10 => (if decide (o10 > 0) then some false else ((verniertop_size k s ls es)).bind fun o11 => ((verniertop_size k sb lb eb)).bind fun o12 => ((verniertop_versus k o11.1 o11.2.1 o11.2.2 o12.1 o12.2.1 o12.2.2)).bind fun o13 => (if decide (o13 ≥ 0) then some false else ((verniertop_opposite k s1 lr er)).bind fun o14 => ((verniertop_sum k s la ea o14.1 o14.2.1 o14.2.2)).bind fun o15 => ((verniertop_multiple k o15.1 o15.2.1 o15.2.2 sb lb eb ((N1 % 8 : Nat) : Int))).bind fun o16 => (if o16 then ((verniertop_opposite k s ls es)).bind fun o17 => ((verniertop_sum k s la ea o17.1 o17.2.1 o17.2.2)).bind fun o18 => ((verniertop_multiple k o18.1 o18.2.1 o18.2.2 sb lb eb ((N2 % 8 : Nat) : Int))).bind fun o19 => some o19 else some false)))) else ((verniertop_size k s1 lr er)).bind fun o8 => ((verniertop_size k sb lb eb)).bind fun o9 => ((verniertop_versus k o8.1 o8.2.1 (IntKind.i64.wrap (o8.2.2 + 1)) o9.1 o9.2.1 o9.2.2)).bind fun o10 => (if decide (o10 > 0) then some false else ((verniertop_size k s ls es)).bind fun o11 => ((verniertop_size k sb lb eb)).bind fun o12 => ((verniertop_versus k o11.1 o11.2.1 o11.2.2 o12.1 o12.2.1 o12.2.2)).bind fun o13 => (if decide (o13 ≥ 0) then some false else ((verniertop_opposite k s1 lr er)).bind fun o14 => ((verniertop_sum k s la ea o14.1 o14.2.1 o14.2.2)).bind fun o15 => ((verniertop_multiple k o15.1 o15.2.1 o15.2.2 sb lb eb ((N1 % 8 : Nat) : Int))).bind fun o16 => (if o16 then ((verniertop_opposite k s ls es)).bind fun o17 => ((verniertop_sum k s la ea o17.1 o17.2.1 o17.2.2)).bind fun o18 => ((verniertop_multiple k o18.1 o18.2.1 o18.2.2 sb lb eb ((N2 % 8 : Nat) : Int))).bind fun o19 => some o19 else some false))))) else (if (ls.length : Int) == 0 then (if !(s == s) then some false else ((verniertop_size k s1 lr er)).bind fun o8 => ((verniertop_size k sb lb eb)).bind fun o9 => ((verniertop_versus k o8.1 o8.2.1 (IntKind.i64.wrap (o8.2.2 + 1)) o9.1 o9.2.1 o9.2.2)).bind fun o10 => (if decide (o10 > 0) then some false else ((verniertop_size k s ls es)).bind fun o11 => ((verniertop_size k sb lb eb)).bind fun o12 => ((verniertop_versus k o11.1 o11.2.1 o11.2.2 o12.1 o12.2.1 o12.2.2)).bind fun o13 => (if decide (o13 ≥ 0) then some false else ((verniertop_opposite k s1 lr er)).bind fun o14 => ((verniertop_sum k s la ea o14.1 o14.2.1 o14.2.2)).bind fun o15 => ((verniertop_multiple k o15.1 o15.2.1 o15.2.2 sb lb eb ((N1 % 8 : Nat) : Int))).bind fun o16 => (if o16 then ((verniertop_opposite k s ls es)).bind fun o17 => ((verniertop_sum k s la ea o17.1 o17.2.1 o17.2.2)).bind fun o18 => ((verniertop_multiple k o18.1 o18.2.1 o18.2.2 sb lb eb ((N2 % 8 : Nat) : Int))).bind fun o19 => some o19 else some false)))) else ((verniertop_size k s1 lr er)).bind fun o8 => ((verniertop_size k sb lb eb)).bind fun o9 => ((verniertop_versus k o8.1 o8.2.1 (IntKind.i64.wrap (o8.2.2 + 1)) o9.1 o9.2.1 o9.2.2)).bind fun o10 => (if decide (o10 > 0) then some false else ((verniertop_size k s ls es)).bind fun o11 => ((verniertop_size k sb lb eb)).bind fun o12 => ((verniertop_versus k o11.1 o11.2.1 o11.2.2 o12.1 o12.2.1 o12.2.2)).bind fun o13 => (if decide (o13 ≥ 0) then some false else ((verniertop_opposite k s1 lr er)).bind fun o14 => ((verniertop_sum k s la ea o14.1 o14.2.1 o14.2.2)).bind fun o15 => ((verniertop_multiple k o15.1 o15.2.1 o15.2.2 sb lb eb ((N1 % 8 : Nat) : Int))).bind fun o16 => (if o16 then ((verniertop_opposite k s ls es)).bind fun o17 => ((verniertop_sum k s la ea o17.1 o17.2.1 o17.2.2)).bind fun o18 => ((verniertop_multiple k o18.1 o18.2.1 o18.2.2 sb lb eb ((N2 % 8 : Nat) : Int))).bind fun o19 => some o19 else some false))))))) true := by
      by_cases g : 0 < ls.length
      · exact Ev.pos (dT (by omega)) (Ev.neg ns mid)
      · exact Ev.neg (dF (by omega)) mid
    refine Ev.bind R1 (Ev.bind R2 (Ev.neg (nF rfl) (Ev.neg (nF rfl) (Ev.neg (nF rfl) (Ev.bind pa (Ev.bind pb (Ev.neg (nF rfl) (Ev.neg (nF rfl) (Ev.neg (bF ?_) (Ev.bind pr (Ev.bind pss (Ev.neg (nF rfl) (Ev.neg (nF rfl) (Ev.neg (nF rfl) (Ev.neg (dF ?_) (Ev.neg (dF ?_) (Ev.neg (dF ?_) (Ev.neg (dF ?_) fin))))))))))))))))))
    · show ¬ ((lb.length : Int) = 0); omega
    · show ¬ (((N1 % 8 : Nat) : Int) < 0); omega
    · show ¬ (((N1 % 8 : Nat) : Int) > 7); omega
    · show ¬ (((N2 % 8 : Nat) : Int) < 0); omega
    · show ¬ (((N2 % 8 : Nat) : Int) > 7); omega
  · have flg := spZ_flags (clsOf W P (pk W A) (ps W A)) (clsOf W P (pk W B) (ps W B)) (A : Int) ((infP W P + 2 ^ (P - 2) : Nat) : Int) (r := remF W P true (ps W A) (pk W A) (pk W B)) (r' := remF W P false (ps W A) (pk W A) (pk W B)) rfl rfl
    have R1 := Remainder_ev (rem_at h hA hB true)
    have R2 := Mod_ev (rem_at h hA hB false)
    generalize spZ (clsOf W P (pk W A) (ps W A)) (clsOf W P (pk W B) (ps W B)) (A : Int) ((infP W P + 2 ^ (P - 2) : Nat) : Int) (remF W P true (ps W A) (pk W A) (pk W B)) = y1 at *
    generalize spZ (clsOf W P (pk W A) (ps W A)) (clsOf W P (pk W B) (ps W B)) (A : Int) ((infP W P + 2 ^ (P - 2) : Nat) : Int) (remF W P false (ps W A) (pk W A) (pk W B)) = y2 at *
    obtain ⟨fl1, fl2, fl3⟩ := flg
    refine Ev.bind R1 (Ev.bind R2 (Ev.neg (nF fl2) (Ev.neg (nF fl3) (Ev.neg (nF fl1) ?_))))
    by_cases ga : pk W A < infP W P
    · obtain ⟨la, ea, pa, ra, ba⟩ := af ga
      by_cases gb : pk W B < infP W P
      · obtain ⟨lb, eb, pb, rb, bb⟩ := bf gb
        have z : pk W B = 0 := by omega
        have hv : plV P (pk W B) = 0 := (plV_zero (P := P) (by omega)).2 z
        rw [hv, tsg_zero] at rb
        have := RepT.empty rb
        subst this
        exact Ev.bind pa (Ev.bind pb (Ev.neg (nF rfl) (Ev.neg (nF rfl) (Ev.pos (bT rfl) (Ev.some _)))))
      · obtain ⟨c, c0, pb⟩ := bn (by omega)
        exact Ev.bind pa (Ev.bind pb (Ev.neg (nF rfl) (Ev.pos (nT c0) (Ev.some _))))
    · obtain ⟨c, c0, pa⟩ := an (by omega)
      by_cases gb : pk W B < infP W P
      · obtain ⟨lb, eb, pb, rb, bb⟩ := bf gb
        exact Ev.bind pa (Ev.bind pb (Ev.pos (nT c0) (Ev.some _)))
      · obtain ⟨c', c0', pb⟩ := bn (by omega)
        exact Ev.bind pa (Ev.bind pb (Ev.pos (nT c0) (Ev.some _)))
end Pure
end Go.Proofs.YtldjheckpophaaaDoor.X
