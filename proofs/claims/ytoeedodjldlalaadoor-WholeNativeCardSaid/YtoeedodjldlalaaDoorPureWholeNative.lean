/- Plain law: WholeNative answers true. Conditions: what the reading says of the arguments. -/
import Derived.Test.YtoeedodjldlalaaDoorIeB
import Derived.Test.YtoeedodjldlalaaDoorWhC
namespace Go.Proofs.YtoeedodjldlalaaDoor.X
open Go Go.Rex
set_option linter.unusedVariables false

theorem i64 : If FloatKind.f64.format 64 53 (-1022) := ie64
theorem i32 : If FloatKind.f32.format 32 24 (-126) := ie32
theorem d64 : dOf 53 (-1022) = 1074 := by decide
theorem f64of_ev (x : Int) : Ev (fun k => math_Float64frombits k x) (fOf x) := Ev.of fun _ => rfl
theorem f64bits_ev {x : Int} (h : 0 ≤ x) : Ev (fun k => math_Float64bits k x) x := Ev.of fun _ => if_pos h
theorem f32bits_ev {x : Int} (h : 0 ≤ x) : Ev (fun k => math_Float32bits k x) x := Ev.of fun _ => if_pos h

section
variable {k : FloatKind} {W P : Nat} {em : Int} (h : If k.format W P em)
include h
theorem ofInt_at (n : Int) : fOfInt k n = ((min (rnd P 0 (decide (n < 0)) (n.natAbs * 2 ^ dOf P em) 1) (infP W P) + sgB (decide (n < 0)) W : Nat) : Int) := by
  have hn := h.neg
  unfold fOfInt FloatKind.nearest
  show ((k.format.nearest (decide (n < 0)) n.natAbs 0 : Nat) : Int) = _
  have := nearest_eq h (A := n.natAbs * 2 ^ dOf P em) (B := 1) (by decide) (decide (n < 0)) (mag := n.natAbs) (z := -(em - (P : Int) + 1)) (by
    rw [Nat.mul_one, Int.neg_neg, p2_neg (show em - (P : Int) + 1 ≤ 0 by omega), Nat.mul_one]; rfl)
  rw [show em - (P : Int) + 1 + -(em - (P : Int) + 1) = 0 by omega] at this
  rw [this]
/-- The program's rounding of an integer is the machine's. -/
theorem parts_native (N : Nat) (s : Bool) (hs : N = 0 → s = false) : (paR W P em 0 s N 0 false).1 = ((min (rnd P 0 s (N * 2 ^ dOf P em) 1) (infP W P) + sgB s W : Nat) : Int) ∧ (paR W P em 0 s N 0 false).2.2 = 0 := by
  have hn := h.neg
  unfold paR
  rw [if_neg (by decide), if_neg (by simp)]
  by_cases c : N = 0
  · rw [if_pos c, c, Nat.zero_mul, rnd_zero P 0 s (by decide), Nat.zero_min, Nat.zero_add]
    exact ⟨rfl, rfl⟩
  · rw [if_neg c]
    have hA : qA N 0 false (em - (P : Int) + 1) = N * 2 ^ dOf P em := by
      unfold qA nuN dOf p2
      rw [show (0 : Int) - (em - (P : Int) + 1) = -(em - (P : Int) + 1) by omega]; rfl
    have hB : qB 0 false (em - (P : Int) + 1) = 1 := by
      unfold qB nuD
      rw [p2_neg (by omega)]; rfl
    rw [hA, hB]
    refine ⟨?_, rfl⟩
    unfold rnOut
    by_cases g : infP W P ≤ rnd P 0 s (N * 2 ^ dOf P em) 1
    · rw [if_pos g, Nat.min_eq_right g]; rfl
    · rw [if_neg g, Nat.min_eq_left (by omega)]
end
theorem from64 {x : Nat} (hx : x < 18446744073709551616) {k : FloatKind} {f : Int} {W P : Nat} {em ex : Int} (h : If k.format W P em) (hf : Fm f W P em ex) : ∃ r g, Ev (fun k' => whole_FromInt k' f 0 1 (x : Int)) (r, (g, 0)) ∧ r = fOfInt k (if x < 9223372036854775808 then (x : Int) else (x : Int) - 18446744073709551616) := by
  have fi := FromInt_ev hf (m := 0) (κ := 1) ⟨by decide, by decide⟩ (by decide) (by decide) hx
  by_cases c : x < 9223372036854775808
  · have e1 : inNeg 1 x = false := by unfold inNeg; rw [decide_eq_false (by omega : ¬ 9223372036854775808 ≤ x), Bool.and_false]
    have e2 : inMag 1 x = x := by unfold inMag; rw [e1]; rfl
    rw [e1, e2, if_neg (show ¬ ((if false = true then kBel 1 else kMost 1) < x) by show ¬ (9223372036854775807 < x); omega)] at fi
    obtain ⟨p1, p2'⟩ := parts_native h x false fun _ => rfl
    rw [if_pos c, ofInt_at h, decide_eq_false (by omega), Int.natAbs_natCast, ← p1]
    generalize paR W P em 0 false x 0 false = q at *
    obtain ⟨a, b, c⟩ := q
    subst p2'
    exact ⟨_, _, fi, rfl⟩
  · have e1 : inNeg 1 x = true := by unfold inNeg; rw [decide_eq_true (by omega : 9223372036854775808 ≤ x)]; rfl
    have e2 : inMag 1 x = 18446744073709551616 - x := by unfold inMag; rw [e1]; rfl
    rw [e1, e2, if_neg (show ¬ ((if true = true then kBel 1 else kMost 1) < 18446744073709551616 - x) by show ¬ (9223372036854775808 < _); omega)] at fi
    obtain ⟨p1, p2'⟩ := parts_native h (18446744073709551616 - x) true fun e => by omega
    rw [if_neg c, ofInt_at h, decide_eq_true (by omega), show ((x : Int) - 18446744073709551616).natAbs = 18446744073709551616 - x by omega, ← p1]
    generalize paR W P em 0 true (18446744073709551616 - x) 0 false = q at *
    obtain ⟨a, b, c⟩ := q
    subst p2'
    exact ⟨_, _, fi, rfl⟩
theorem fromU {x : Nat} (hx : x < 18446744073709551616) {k : FloatKind} {f : Int} {W P : Nat} {em ex : Int} (h : If k.format W P em) (hf : Fm f W P em ex) : ∃ r g, Ev (fun k' => whole_FromInt k' f 0 3 (x : Int)) (r, (g, 0)) ∧ r = fOfInt k (x : Int) := by
  have fi := FromInt_ev hf (m := 0) (κ := 3) ⟨by decide, by decide⟩ (by decide) (by decide) hx
  have e1 : inNeg 3 x = false := by unfold inNeg; rw [decide_eq_false (by decide : ¬ 0 < kBel 3), Bool.false_and]
  have e2 : inMag 3 x = x := by unfold inMag; rw [e1]; rfl
  rw [e1, e2, if_neg (show ¬ ((if false = true then kBel 3 else kMost 3) < x) by show ¬ (18446744073709551615 < x); omega)] at fi
  obtain ⟨p1, p2'⟩ := parts_native h x false fun _ => rfl
  rw [ofInt_at h, decide_eq_false (by omega), Int.natAbs_natCast, ← p1]
  generalize paR W P em 0 false x 0 false = q at *
  obtain ⟨a, b, c⟩ := q
  subst p2'
  exact ⟨_, _, fi, rfl⟩
theorem fOfInt_nonneg (k : FloatKind) (n : Int) : 0 ≤ fOfInt k n := by unfold fOfInt; omega
theorem fOfInt_small (n : Int) : IntKind.u64.wrap (fOfInt .f32 n) = fOfInt .f32 n := by
  refine wrapU (fOfInt_nonneg _ _) ?_
  unfold fOfInt
  have : FloatKind.f32.nearest n < 2 ^ 32 := by
    show Ieee.single.write (.number (decide (n < 0)) n.natAbs 0) < 2 ^ Ieee.single.width
    exact Ieee.single.write_lt _
  have e : (2 : Nat) ^ 32 = 4294967296 := rfl
  omega

/-! ### To an integer -/
theorem zero_cut (s : Bool) (n drop : Nat) : Ieee.Toward.zero.cut s n drop = n / 2 ^ drop := by
  unfold Ieee.Toward.cut
  simp only [Nat.one_shiftLeft]
  show n / 2 ^ min drop (n.log2 + 2) + 0 = _
  rw [Nat.add_zero]
  rcases Nat.le_total drop (n.log2 + 2) with c | c
  · rw [Nat.min_eq_left c]
  · rw [Nat.min_eq_right c]
    have hn : n < 2 ^ (n.log2 + 1) := Nat.lt_log2_self
    have h2 : 2 ^ (n.log2 + 1) ≤ 2 ^ (n.log2 + 2) := pow_mono2 (by omega)
    have h3 : 2 ^ (n.log2 + 2) ≤ 2 ^ drop := pow_mono2 c
    rw [Nat.div_eq_of_lt (by omega), Nat.div_eq_of_lt (by omega)]
theorem toInt_at {x : Int} {s : Bool} {K : Nat} (hx : Fl 64 53 x s K) (hU : plV 53 K / 2 ^ dOf 53 (-1022) ≤ 9223372036854775807) : fIn .f64 .i64 x = true ∧ fInt .f64 .i64 x = sval s (plV 53 K / 2 ^ dOf 53 (-1022)) := by
  have hd := d64
  obtain ⟨m, q, r1, e1, _⟩ := hx.read i64
  have a1 := (hx.pat i64).2.2.2
  generalize dOf 53 (-1022) = D at *
  have hi : (FloatKind.f64.decode x.toNat).toInt .zero = some (sval s (plV 53 K / 2 ^ D)) := by
    have hd' : FloatKind.f64.decode x.toNat = .number s m ((-1022) - ((53 : Nat) : Int) + 1 + (q : Int)) := r1
    rw [hd']
    show some (Ieee.signed s (Ieee.Toward.zero.cut s (m <<< _) _) 0) = _
    rw [zero_cut, signed_eq, Nat.pow_zero, Nat.mul_one, Nat.shiftLeft_eq]
    congr 2
    rw [← e1]
    rcases Nat.le_total D q with c | c
    · rw [show ((-1022 : Int) - ((53 : Nat) : Int) + 1 + (q : Int)).toNat = q - D by omega, show (-((-1022 : Int) - ((53 : Nat) : Int) + 1 + (q : Int))).toNat = 0 by omega, Nat.pow_zero, Nat.div_one]
      have : m * 2 ^ q = m * 2 ^ (q - D) * 2 ^ D := by rw [Nat.mul_assoc, ← Nat.pow_add]; congr 2; omega
      rw [this, Nat.mul_div_cancel _ (Nat.two_pow_pos D)]
    · rw [show ((-1022 : Int) - ((53 : Nat) : Int) + 1 + (q : Int)).toNat = 0 by omega, show (-((-1022 : Int) - ((53 : Nat) : Int) + 1 + (q : Int))).toNat = D - q by omega, Nat.pow_zero, Nat.mul_one]
      have : 2 ^ D = 2 ^ (D - q) * 2 ^ q := by rw [← Nat.pow_add]; congr 1; omega
      rw [this, Nat.mul_div_mul_right _ _ (Nat.two_pow_pos q)]
  have hv : floatToIntVal .f64 x.toNat .i64 = some (sval s (plV 53 K / 2 ^ D)) := by
    unfold floatToIntVal
    rw [hi]
    simp only
    rw [if_pos]
    generalize plV 53 K / 2 ^ D = U at *
    simp [IntKind.min, IntKind.max, IntKind.signed, IntKind.bits]
    unfold sval
    cases s
    · rw [if_neg (by simp)]; omega
    · rw [if_pos rfl]; omega
  constructor
  · unfold fIn; rw [hv, decide_eq_true a1]; rfl
  · unfold fInt; rw [hv]; rfl
/-- The bound, 9.2 * 10^18. -/
theorem bound_fl : Fl 64 53 4890886371069617664 false 4890886371069617664 ∧ Fl 64 53 14114258407924393472 true 4890886371069617664 ∧ plV 53 4890886371069617664 = 9200000000000000000 * 2 ^ dOf 53 (-1022) := by
  have hl : 4890886371069617664 < infP 64 53 := by decide
  refine ⟨⟨by decide, hl⟩, ⟨by decide, hl⟩, ?_⟩
  obtain ⟨D, hD⟩ : ∃ D : Nat, D = dOf 53 (-1022) := ⟨_, rfl⟩
  have hD' : D = 1074 := hD.trans d64
  rw [← hD]
  have := plV_at (P := 53) (s := 10 + D) (u := 8984375000000000) (by decide) (.inr (by decide)) (by decide)
  rw [show (10 + D) * 2 ^ (53 - 1) + 8984375000000000 = 4890886371069617664 by rw [hD'], Nat.pow_add, ← Nat.mul_assoc, show 8984375000000000 * 2 ^ 10 = 9200000000000000000 from rfl] at this
  exact this
theorem native_j1 {a : Nat} (ha : a < 18446744073709551616) : Ev (fun k => vernierlaw12_WholeNative.j1 k (a : Int)) true := by
  have ha2 : a < 2 ^ 64 := ha
  obtain ⟨b1, b2, b3⟩ := bound_fl
  refine Ev.congr (fun k => vernierlaw12_WholeNative.j1_eq k _) (Ev.bind (f64of_ev _) ?_)
  rw [fOf_nat]
  rcases Nat.lt_trichotomy (pk 64 a) (infP 64 53) with c | c | c
  · have hx := fl_of i64 ha2 c
    by_cases g : fCmp .gtr .f64 (a : Int) 14114258407924393472 = true
    · refine Ev.pos g ?_
      by_cases l : fCmp .lss .f64 (a : Int) 4890886371069617664 = true
      · refine Ev.neg (by rw [l]; decide) ?_
        rw [fGt_num i64 hx b2, decide_eq_true_eq] at g
        rw [fLt_num i64 hx b1, decide_eq_true_eq] at l
        have hV : plV 53 (pk 64 a) < 9200000000000000000 * 2 ^ dOf 53 (-1022) := by
          rw [← b3]
          unfold sval at g l
          cases hs : ps 64 a <;> rw [hs] at g l <;> simp at g l <;> omega
        have hU : plV 53 (pk 64 a) / 2 ^ dOf 53 (-1022) < 9200000000000000000 := by rw [Nat.div_lt_iff_lt_mul (Nat.two_pow_pos _)]; exact hV
        obtain ⟨t1, t2⟩ := toInt_at hx (by omega)
        have ti := ToInt_ev fm64 (m := 2) (κ := 1) ⟨by decide, by decide⟩ (by decide) (by decide) ha2
        have hW : wU 53 (-1022) 2 (ps 64 a) (pk 64 a) = plV 53 (pk 64 a) / 2 ^ dOf 53 (-1022) := by
          have : wD 53 (-1022) = 2 ^ dOf 53 (-1022) := by unfold wD p2 dOf; rfl
          unfold wU cutN chs
          rw [this, if_neg (by unfold ups; simp)]
        rw [hW] at ti
        generalize plV 53 (pk 64 a) / 2 ^ dOf 53 (-1022) = U at *
        generalize wL 53 (-1022) (pk 64 a) = lost at *
        obtain ⟨cc, hc, hcc⟩ := cls_all (W := 64) (P := 53) (p := pk 64 a) (neg := ps 64 a) (by decide)
        have n1 : ¬ (cc = 0 ∨ cc = 1 ∨ cc = 9) := by omega
        have n2 : ¬ (cc = 2) := by omega
        rw [hc] at ti
        have hr : toR 1 cc (ps 64 a) U lost = ((if ps 64 a then negU U else (U : Int)), ((if lost then 16 else 0), 0)) := by
          unfold toR
          rw [if_neg n1, if_neg n2, if_neg]
          cases ps 64 a
          · show ¬ (9223372036854775807 < U); omega
          · show ¬ (9223372036854775808 < U); omega
        rw [hr] at ti
        refine Ev.bind ti (Ev.pos (bT rfl) (Ev.pos t1 (Ev.eq (Ev.some _) ?_)))
        rw [t2]
        refine bT ?_
        unfold sval negU
        cases ps 64 a
        · rw [if_neg (show ¬ (false = true) by simp), if_neg (show ¬ (false = true) by simp), wrapI (by omega) (by omega)]
        · rw [if_pos rfl, if_pos rfl, wrap_u64, wrap_i64]; omega
      · exact Ev.pos (by simpa using l) (Ev.some _)
    · exact Ev.neg g (Ev.some _)
  · have hx := inf_of i64 ha2 c
    by_cases g : fCmp .gtr .f64 (a : Int) 14114258407924393472 = true
    · refine Ev.pos g (Ev.pos ?_ (Ev.some _))
      have o1 := (ord_inf_num i64 hx b2).1
      have o2 := (ord_inf_num i64 hx b1).1
      unfold fCmp at g ⊢
      simp only at g ⊢
      rw [o1] at g
      rw [o2]
      cases hs : ps 64 a <;> rw [hs] at g
      · rfl
      · exact absurd g (by decide)
    · exact Ev.neg g (Ev.some _)
  · refine Ev.neg ?_ (Ev.some _)
    unfold fCmp
    simp only
    rw [ord_nan i64 ha2 c]; decide

namespace Pure
/-- For all integers and patterns: true. -/
theorem WholeNative (x a : Int) (wx : WFt (.int .i64) x) (wa : WFt (.int .u64) a) : Ev (fun k => vernierlaw12_WholeNative k x a) true := by
  obtain ⟨h0, h1⟩ := wf_i64 wx
  obtain ⟨h2, h3⟩ := wf_u64 wa
  obtain ⟨a, rfl⟩ := Int.eq_ofNat_of_zero_le h2
  obtain ⟨y, hy⟩ := Int.eq_ofNat_of_zero_le (show 0 ≤ IntKind.u64.wrap x by rw [wrap_u64]; omega)
  have hyl : y < 18446744073709551616 := by rw [wrap_u64] at hy; omega
  have hxy : x = if y < 9223372036854775808 then (y : Int) else (y : Int) - 18446744073709551616 := by
    rw [wrap_u64] at hy
    split <;> omega
  obtain ⟨r1, g1, e1, q1⟩ := from64 hyl i64 fm64
  obtain ⟨r2, g2, e2, q2⟩ := from64 hyl i32 fm32
  obtain ⟨r3, g3, e3, q3⟩ := fromU hyl i64 fm64
  rw [← hxy] at q1 q2
  have hy' : (IntKind.u64.wrap x) = (y : Int) := hy
  refine Ev.congr (fun k => vernierlaw12_WholeNative_eq k _ _) (Ev.bind awake12_ev (Ev.neg (notF rfl) ?_))
  rw [hy']
  refine Ev.bind e1 (Ev.bind e2 (Ev.bind e3 (Ev.neg (nF rfl) (Ev.neg (nF rfl) (Ev.neg (nF rfl) (Ev.congr (fun k => vernierlaw12_WholeNative.j0_eq k _ _ _ _ _) ?_))))))
  rw [hy']
  refine Ev.bind (f64bits_ev (fOfInt_nonneg _ _)) (Ev.neg (nF q1) (Ev.bind (f32bits_ev (fOfInt_nonneg _ _)) (Ev.neg (nF ?_) (Ev.bind (f64bits_ev (fOfInt_nonneg _ _)) (Ev.neg (nF q3) (native_j1 (by omega)))))))
  rw [fOfInt_small]; exact q2
end Pure
end Go.Proofs.YtoeedodjldlalaaDoor.X
