/- Plain law: WholeErrorFree answers true. Conditions: what the reading says of the two patterns. -/
import Derived.Test.YtmoeaeflljpboaaEfI
import Derived.Test.YtmoeaeflljpboaaTpN
import Derived.Test.YtmoeaeflljpboaaXB
import Derived.Test.YtmoeaeflljpboaaR2
namespace Go.Proofs.Ytmoeaeflljpboaa.X
open Go Go.Rex
set_option linter.unusedVariables false

/-- The least place of a Double. -/
def B0 : Int := -1022 - ((53 : Nat) : Int) + 1
theorem B0_eq : B0 = -(De : Int) := by have := De_eq; unfold B0; omega
theorem parts64 {a : Nat} (ha : a < 2 ^ 64) (hk : pk 64 a < infP 64 53) : ∃ (l : List Int) (e : Int), Ev (fun k => verniertop_parts k 3 (a : Int)) (ps 64 a, ((0 : Int), (ps 64 a, (l, e)))) ∧ RepT B0 (ps 64 a) l e (zv (ps 64 a) (pk 64 a)) ∧ e ≤ B0 + 3000 := (partsB fm64 ha).1 hk
theorem value64 {a : Nat} (ha : a < 2 ^ 64) (hk : pk 64 a < infP 64 53) : ∃ (l : List Int) (e : Int), Ev (fun k => verniertop_value k 3 (a : Int)) (ps 64 a, (l, e)) ∧ RepT B0 (ps 64 a) l e (zv (ps 64 a) (pk 64 a)) ∧ e ≤ B0 + 3000 := by
  obtain ⟨l, e, h1, h2, h3⟩ := parts64 ha hk
  exact ⟨l, e, Ev.congr (fun k => verniertop_value_eq k 3 (a : Int)) (Ev.bind h1 (Ev.some _)), h2, h3⟩
theorem zv_size {s : Bool} {K n : Nat} (hn : n = 2098) (hk : K < infP 64 53) : (zv s K).natAbs ≤ 2 ^ n := by
  rw [natAbs_zv, ← plV_pow (n := n) (by omega)]
  refine (plV_le (by decide)).2 ?_
  have : infP 64 53 = 2047 * 2 ^ 52 := by decide
  omega
theorem together_at {a b : Nat} (ha : a < 2 ^ 64) (hb : b < 2 ^ 64) (ka : pk 64 a < infP 64 53) (kb : pk 64 b < infP 64 53) {d : Nat} (hd : d ≤ De) {s : Bool} {l : List Int} {e v : Int} (hx : RepT (B0 - (d : Int)) s l e v) (hv : v = (zv (ps 64 a) (pk 64 a) + zv (ps 64 b) (pk 64 b)) * ((2 ^ d : Nat) : Int)) :
    Ev (fun k => verniertop_together k 3 (a : Int) (b : Int) s l e) true := by
  have hB := B0_eq
  have hD := De_eq
  obtain ⟨n, hn⟩ : ∃ n, n = 2098 := ⟨_, rfl⟩
  obtain ⟨l1, e1, p1, q1, r1⟩ := parts64 ha ka
  obtain ⟨l2, e2, p2, q2, r2⟩ := parts64 hb kb
  have z1 := zv_size (s := ps 64 a) hn ka
  have z2 := zv_size (s := ps 64 b) hn kb
  have hlt : ∀ m, n < m → 2 ^ n < 2 ^ m := fun m hm => Nat.pow_lt_pow_right (by decide) hm
  have h1 := hlt (n + 1) (by omega)
  obtain ⟨s3, l3, e3, p3, c3, q3⟩ := sumB (B := B0) (by omega) q1 q2 (p := n + 1) (by omega) (by omega) (by omega)
  have q4 := q3.base d (by omega)
  rw [← hv] at q4
  have hvb : v.natAbs < 2 ^ (n + d + 2) := by
    rw [hv, Int.natAbs_mul, Int.natAbs_natCast]
    have h5 : (zv (ps 64 a) (pk 64 a) + zv (ps 64 b) (pk 64 b)).natAbs ≤ 2 ^ (n + 1) := by rw [Nat.pow_succ]; omega
    have h6 := Nat.mul_le_mul_right (2 ^ d) h5
    rw [← Nat.pow_add] at h6
    exact Nat.lt_of_le_of_lt h6 (Nat.pow_lt_pow_right (by decide) (by omega))
  have q5 := versusT (B := B0 - (d : Int)) (by omega) q4 hx (p := n + d + 2) (by omega) hvb hvb
  rw [Int.sub_self] at q5
  exact Ev.congr (fun k => verniertop_together_eq k 3 (a : Int) (b : Int) s l e) (Ev.bind p1 (Ev.bind p2 (Ev.pos rfl (Ev.pos rfl (Ev.bind p3 (Ev.bind q5 (Ev.some _)))))))
theorem first_at (m : Nat) : eft_TwoSum (m + 60) 2 1065353216 864026624 = some (1065353216, (864026624, 0)) := by kernel_rfl
theorem bits_at (k : Nat) {x : Int} (h : 0 ≤ x) : math_Float64bits k x = some x := by unfold math_Float64bits fbitsF; rw [if_pos h]
/-- The sum and its rest are told right. -/
theorem sum_together {a b : Nat} (ha : a < 2 ^ 64) (hb : b < 2 ^ 64) (fa : fin64 (a : Int) = true) (fb : fin64 (b : Int) = true) (hf : (tsL (a : Int) (b : Int)).all fin64 = true) {la lb : List Int} {ea eb : Int}
    (qa : RepT B0 (ps 64 a) la ea (zv (ps 64 a) (pk 64 a))) (ra : ea ≤ B0 + 3000) (qb : RepT B0 (ps 64 b) lb eb (zv (ps 64 b) (pk 64 b))) (rb : eb ≤ B0 + 3000) :
    ∃ (s : Bool) (l : List Int) (e : Int),
      Ev (fun k => verniertop_sum k (ps 64 a) la ea (ps 64 b) lb eb) (s, (l, e)) ∧ Ev (fun k => verniertop_together k 3 (tsS (a : Int) (b : Int)) (tsR (a : Int) (b : Int)) s l e) true ∧ 0 ≤ tsS (a : Int) (b : Int) := by
  have hB := B0_eq
  have hD := De_eq
  have xa := fl_fin ha fa
  have xb := fl_fin hb fb
  obtain ⟨n, R, n', R', h1, h2, h3⟩ := ts_of xa xb hf
  obtain ⟨N, hN⟩ : ∃ n, n = 2098 := ⟨_, rfl⟩
  have z1 := zv_size (s := ps 64 a) hN xa.lt
  have z2 := zv_size (s := ps 64 b) hN xb.lt
  have hlt : 2 ^ N < 2 ^ (N + 1) := Nat.pow_lt_pow_right (by decide) (by omega)
  obtain ⟨s3, l3, e3, p3, c3, q3⟩ := sumB (B := B0) (by omega) qa qb (p := N + 1) (by omega) (by omega) (by omega)
  have q4 := q3.base 0 (by omega)
  obtain ⟨i1, i2, i3, i4⟩ := h1.pat d64
  obtain ⟨j1, j2, j3, j4⟩ := h2.pat d64
  have e1 : ((tsS (a : Int) (b : Int)).toNat : Int) = tsS (a : Int) (b : Int) := by omega
  have e2 : ((tsR (a : Int) (b : Int)).toNat : Int) = tsR (a : Int) (b : Int) := by omega
  have g := together_at i3 j3 (by rw [i1]; exact h1.lt) (by rw [j1]; exact h2.lt) (d := 0) (by omega) q4 (by rw [i1, i2, j1, j2, h3])
  rw [e1, e2] at g
  exact ⟨s3, l3, e3, p3, g, i4⟩
/-- The product and its rest are told right. -/
theorem prod_together {a b : Nat} (ha : a < 2 ^ 64) (hb : b < 2 ^ 64) (fa : fin64 (a : Int) = true) (fb : fin64 (b : Int) = true) (hf : (hvs (a : Int)).all fin64 = true ∧ (hvs (b : Int)).all fin64 = true ∧ (tpL (a : Int) (b : Int)).all fin64 = true ∧ lng a b) {la lb : List Int} {ea eb : Int}
    (qa : RepT B0 (ps 64 a) la ea (zv (ps 64 a) (pk 64 a))) (ra : ea ≤ B0 + 3000) (qb : RepT B0 (ps 64 b) lb eb (zv (ps 64 b) (pk 64 b))) (rb : eb ≤ B0 + 3000) :
    ∃ (s : Bool) (l : List Int) (e : Int), 
      Ev (fun k => verniertop_product k (ps 64 a) la ea (ps 64 b) lb eb) (s, (l, e)) ∧ Ev (fun k => verniertop_together k 3 (tpP (a : Int) (b : Int)) (tpR (a : Int) (b : Int)) s l e) true ∧ 0 ≤ tpP (a : Int) (b : Int) := by
  have hB := B0_eq
  have hD := De_eq
  have xa := fl_fin ha fa
  have xb := fl_fin hb fb
  obtain ⟨n, R, n', R', h1, h2, h3⟩ := tp_of ha hb fa fb hf.1 hf.2.1 hf.2.2.1 hf.2.2.2
  obtain ⟨N, hN⟩ : ∃ n, n = 2098 := ⟨_, rfl⟩
  have z1 := zv_size (s := ps 64 a) hN xa.lt
  have z2 := zv_size (s := ps 64 b) hN xb.lt
  have hlt : 2 ^ N < 2 ^ (N + 1) := Nat.pow_lt_pow_right (by decide) (by omega)
  obtain ⟨l3, p3, q3⟩ := prodT qa qb (by omega) (by omega) (by omega) (p := N + 1) (by omega) (by omega) (by omega)
  rw [show B0 + B0 = B0 - (De : Int) by omega] at q3
  obtain ⟨i1, i2, i3, i4⟩ := h1.pat d64
  obtain ⟨j1, j2, j3, j4⟩ := h2.pat d64
  have e1 : ((tpP (a : Int) (b : Int)).toNat : Int) = tpP (a : Int) (b : Int) := by omega
  have e2 : ((tpR (a : Int) (b : Int)).toNat : Int) = tpR (a : Int) (b : Int) := by omega
  have g := together_at i3 j3 (by rw [i1]; exact h1.lt) (by rw [j1]; exact h2.lt) (d := De) (Nat.le_refl _) q3 (by rw [i1, i2, j1, j2, h3])
  rw [e1, e2] at g
  exact ⟨_, l3, _, p3, g, i4⟩
theorem half_together {a : Nat} (ha : a < 2 ^ 64) (fa : fin64 (a : Int) = true) (hf : (hvs (a : Int)).all fin64 = true) {la : List Int} {ea : Int}
    (qa : RepT B0 (ps 64 a) la ea (zv (ps 64 a) (pk 64 a))) (ra : ea ≤ B0 + 3000) :
    Ev (fun k => verniertop_together k 3 (hvH (a : Int)) (hvL (a : Int)) (ps 64 a) la ea) true := by
  have hB := B0_eq
  have hD := De_eq
  have xa := fl_fin ha fa
  obtain ⟨n, R, n', R', h1, h2, h3, -⟩ := hv_of xa hf
  obtain ⟨i1, i2, i3, i4⟩ := h1.pat d64
  obtain ⟨j1, j2, j3, j4⟩ := h2.pat d64
  have e1 : ((hvH (a : Int)).toNat : Int) = hvH (a : Int) := by omega
  have e2 : ((hvL (a : Int)).toNat : Int) = hvL (a : Int) := by omega
  have g := together_at i3 j3 (by rw [i1]; exact h1.lt) (by rw [j1]; exact h2.lt) (d := 0) (by omega) (qa.base 0 (by omega)) (by rw [i1, i2, j1, j2, h3])
  rw [e1, e2] at g
  exact g
/-- The law's end: patterns brought into a range. -/
theorem tail_ev {a b : Nat} (ha : a < 2 ^ 64) (hb : b < 2 ^ 64) : Ev (fun k => ((verniertop_tame k (a : Int) 400)).bind fun o15 => ((verniertop_tame k (b : Int) 400)).bind fun o16 => ((eft_TwoSum k 3 o15 o16)).bind fun o17 => ((eft_TwoProd k 3 o15 o16)).bind fun o18 => ((eft_Split k 3 o15)).bind fun o19 => (if o17.2.2 != 0 then some false else (if o18.2.2 != 0 then some false else (if o19.2.2 != 0 then some false else ((verniertop_value k 3 o15)).bind fun o20 => ((verniertop_value k 3 o16)).bind fun o21 => ((verniertop_sum k o20.1 o20.2.1 o20.2.2 o21.1 o21.2.1 o21.2.2)).bind fun o22 => ((verniertop_together k 3 o17.1 o17.2.1 o22.1 o22.2.1 o22.2.2)).bind fun o23 => (if o23 then ((verniertop_product k o20.1 o20.2.1 o20.2.2 o21.1 o21.2.1 o21.2.2)).bind fun o24 => ((verniertop_together k 3 o18.1 o18.2.1 o24.1 o24.2.1 o24.2.2)).bind fun o25 => (if o25 then ((verniertop_together k 3 o19.1 o19.2.1 o20.1 o20.2.1 o20.2.2)).bind fun o26 => some o26 else some false) else some false))))) true := by
  obtain ⟨c, hc, c1, c2, c3⟩ := tame_ev ha
  obtain ⟨d, hd, d1, d2, d3⟩ := tame_ev hb
  have hinf : infP 64 53 = 2047 * 2 ^ 52 := by decide
  have xc := fl_of d64 hc (by omega)
  have xd := fl_of d64 hd (by omega)
  obtain ⟨N, hN⟩ : ∃ n, n = 1474 := ⟨_, rfl⟩
  have up : ∀ {K : Nat} {s : Bool}, K < 1423 * 2 ^ 52 → (zv s K).natAbs ≤ 2 ^ N := by
    intro K s h
    rw [natAbs_zv, ← plV_pow (n := N) (by omega)]
    exact (plV_le (by decide)).2 (by omega)
  have dn : ∀ {K : Nat}, 623 * 2 ^ 52 ≤ K → 2 ^ (N - 800) ≤ plV 53 K := by
    intro K h
    rw [← plV_pow (n := N - 800) (by omega), show N - 800 - 51 = 623 by omega]
    exact (plV_le (by decide)).2 h
  have fc := fin_of xc
  have fd := fin_of xd
  have hts := ts_small xc xd (n := N) (by omega) (by omega) (up c2) (up d2)
  have htp := tp_small hN xc xd (up c2) (up d2) (dn c1) (dn d1)
  obtain ⟨s1, r1, e1, g1, k1, z1⟩ := TwoSum_ev hc hd
  obtain ⟨s2, r2, e2, g2, k2, z2⟩ := TwoProd_ev hc hd
  obtain rfl := z1 fc fd hts
  obtain rfl := z2 fc fd htp
  obtain ⟨-, -, -, rfl, rfl⟩ := k1 rfl
  obtain ⟨-, -, -, rfl, rfl⟩ := k2 rfl
  have g3 := Split_ev hc fc htp.1
  obtain ⟨la, ea, va, qa, ra⟩ := value64 hc xc.lt
  obtain ⟨lb, eb, vb, qb, rb⟩ := value64 hd xd.lt
  obtain ⟨s, l, e, vs, vt, -⟩ := sum_together hc hd fc fd hts qa ra qb rb
  obtain ⟨s', l', e', ws, wt, -⟩ := prod_together hc hd fc fd htp qa ra qb rb
  have hh := half_together hc fc htp.1 qa ra
  exact Ev.bind (Ev.of c3) (Ev.bind (Ev.of d3) (Ev.bind g1 (Ev.bind g2 (Ev.bind g3 (Ev.neg (nF rfl) (Ev.neg (nF rfl) (Ev.neg (nF rfl) (Ev.bind va (Ev.bind vb (Ev.bind vs (Ev.bind vt (Ev.pos rfl (Ev.bind ws (Ev.bind wt (Ev.pos rfl (Ev.bind hh (Ev.some _)))))))))))))))))
/-- The law's middle: the product of the patterns as they are. -/
theorem mid_ev {a b : Nat} (ha : a < 2 ^ 64) (hb : b < 2 ^ 64) : Ev (fun k => ((eft_TwoProd k 3 (a : Int) (b : Int))).bind fun o9 => (if o9.2.2 == 0 then ((math_Float64bits k (fArith .mul .f64 (a : Int) (b : Int)))).bind fun o10 => (if o9.1 != o10 then some false else ((verniertop_value k 3 (a : Int))).bind fun o11 => ((verniertop_value k 3 (b : Int))).bind fun o12 => ((verniertop_product k o11.1 o11.2.1 o11.2.2 o12.1 o12.2.1 o12.2.2)).bind fun o13 => ((verniertop_together k 3 o9.1 o9.2.1 o13.1 o13.2.1 o13.2.2)).bind fun o14 => (if !o14 then some false else ((verniertop_tame k (a : Int) 400)).bind fun o15 => ((verniertop_tame k (b : Int) 400)).bind fun o16 => ((eft_TwoSum k 3 o15 o16)).bind fun o17 => ((eft_TwoProd k 3 o15 o16)).bind fun o18 => ((eft_Split k 3 o15)).bind fun o19 => (if o17.2.2 != 0 then some false else (if o18.2.2 != 0 then some false else (if o19.2.2 != 0 then some false else ((verniertop_value k 3 o15)).bind fun o20 => ((verniertop_value k 3 o16)).bind fun o21 => ((verniertop_sum k o20.1 o20.2.1 o20.2.2 o21.1 o21.2.1 o21.2.2)).bind fun o22 => ((verniertop_together k 3 o17.1 o17.2.1 o22.1 o22.2.1 o22.2.2)).bind fun o23 => (if o23 then ((verniertop_product k o20.1 o20.2.1 o20.2.2 o21.1 o21.2.1 o21.2.2)).bind fun o24 => ((verniertop_together k 3 o18.1 o18.2.1 o24.1 o24.2.1 o24.2.2)).bind fun o25 => (if o25 then ((verniertop_together k 3 o19.1 o19.2.1 o20.1 o20.2.1 o20.2.2)).bind fun o26 => some o26 else some false) else some false)))))) else ((verniertop_tame k (a : Int) 400)).bind fun o27 => ((verniertop_tame k (b : Int) 400)).bind fun o28 => ((eft_TwoSum k 3 o27 o28)).bind fun o29 => ((eft_TwoProd k 3 o27 o28)).bind fun o30 => ((eft_Split k 3 o27)).bind fun o31 => (if o29.2.2 != 0 then some false else (if o30.2.2 != 0 then some false else (if o31.2.2 != 0 then some false else ((verniertop_value k 3 o27)).bind fun o32 => ((verniertop_value k 3 o28)).bind fun o33 => ((verniertop_sum k o32.1 o32.2.1 o32.2.2 o33.1 o33.2.1 o33.2.2)).bind fun o34 => ((verniertop_together k 3 o29.1 o29.2.1 o34.1 o34.2.1 o34.2.2)).bind fun o35 => (if o35 then ((verniertop_product k o32.1 o32.2.1 o32.2.2 o33.1 o33.2.1 o33.2.2)).bind fun o36 => ((verniertop_together k 3 o30.1 o30.2.1 o36.1 o36.2.1 o36.2.2)).bind fun o37 => (if o37 then ((verniertop_together k 3 o31.1 o31.2.1 o32.1 o32.2.1 o32.2.2)).bind fun o38 => some o38 else some false) else some false)))))) true := by
  obtain ⟨s2, r2, e2, g2, k2, -⟩ := TwoProd_ev ha hb
  by_cases c : e2 = 0
  · obtain ⟨fa, fb, hf, rfl, rfl⟩ := k2 c
    have xa := fl_fin ha fa
    have xb := fl_fin hb fb
    obtain ⟨la, ea, va, qa, ra⟩ := value64 ha xa.lt
    obtain ⟨lb, eb, vb, qb, rb⟩ := value64 hb xb.lt
    obtain ⟨s', l', e', ws, wt, w0⟩ := prod_together ha hb fa fb hf qa ra qb rb
    exact Ev.bind g2 (Ev.pos (bT c) (Ev.bind (Ev.of fun k => bits_at k w0) (Ev.neg (nF rfl) (Ev.bind va (Ev.bind vb (Ev.bind ws (Ev.bind wt (Ev.neg (by simp) (tail_ev ha hb)))))))))
  · exact Ev.bind g2 (Ev.neg (bF c) (tail_ev ha hb))

namespace Pure
/-- For all patterns: true. -/
theorem WholeErrorFree (a : Int) (b : Int) (wa : WFt (.int .u64) a) (wb : WFt (.int .u64) b) : Ev (fun k => verniertop_WholeErrorFree k a b) true := by
  obtain ⟨a0, a1⟩ := wf_u64 wa
  obtain ⟨b0, b1⟩ := wf_u64 wb
  obtain ⟨a, rfl⟩ := Int.eq_ofNat_of_zero_le a0
  obtain ⟨b, rfl⟩ := Int.eq_ofNat_of_zero_le b0
  have ha : a < 2 ^ 64 := by omega
  have hb : b < 2 ^ 64 := by omega
  have f1 : Ev (fun k => math_Float64frombits k (a : Int)) (a : Int) := Ev.eq (Ev.of fun k => rfl) (fOf_nat a)
  have f2 : Ev (fun k => math_Float64frombits k (b : Int)) (b : Int) := Ev.eq (Ev.of fun k => rfl) (fOf_nat b)
  have first : Ev (fun k => eft_TwoSum k 2 1065353216 864026624) (1065353216, (864026624, 0)) := ⟨60, fun k hk => by
    obtain ⟨m, rfl⟩ := Nat.exists_eq_add_of_le hk
    rw [Nat.add_comm]
    exact first_at m⟩
  obtain ⟨s1, r1, e1, g1, k1, -⟩ := TwoSum_ev ha hb
  refine Ev.congr (fun k => verniertop_WholeErrorFree_eq k (a : Int) (b : Int)) (Ev.bind first (Ev.neg (nF rfl) (Ev.neg (nF rfl) (Ev.neg (nF rfl) (Ev.bind f1 (Ev.bind f2 (Ev.bind g1 ?_)))))))
  by_cases c : e1 = 0
  · obtain ⟨fa, fb, hf, rfl, rfl⟩ := k1 c
    have xa := fl_fin ha fa
    have xb := fl_fin hb fb
    obtain ⟨la, ea, va, qa, ra⟩ := value64 ha xa.lt
    obtain ⟨lb, eb, vb, qb, rb⟩ := value64 hb xb.lt
    obtain ⟨s', l', e', ws, wt, w0⟩ := sum_together ha hb fa fb hf qa ra qb rb
    exact Ev.pos (bT c) (Ev.bind (Ev.of fun k => bits_at k w0) (Ev.neg (nF rfl) (Ev.bind va (Ev.bind vb (Ev.bind ws (Ev.bind wt (Ev.neg (by simp) (mid_ev ha hb))))))))
  · exact Ev.neg (bF c) (mid_ev ha hb)
end Pure
end Go.Proofs.Ytmoeaeflljpboaa.X
