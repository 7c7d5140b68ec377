/- Plain law: NarrowOrder answers true. Conditions: what the reading says of the arguments. -/
import Derived.Test.YtogofladamekbaaDoorNwB
import Derived.Test.YtogofladamekbaaDoorPlcA
namespace Go.Proofs.YtogofladamekbaaDoor.X
open Go Go.Rex
set_option linter.unusedVariables false

section
variable {f g : Int} {W P W' P' : Nat} {em ex em' ex' : Int} (h : Fm f W P em ex) (h' : Fm g W' P' em' ex')
include h h'
theorem cvK_mono (m : Int) (neg : Bool) {k l : Nat} (hkl : k ≤ l) (hl : l ≤ infP W P) : cvK W P em W' P' em' m k neg ≤ cvK W P em W' P' em' m l neg := by
  have h8 := h.p8; have h8' := h'.p8
  by_cases c1 : l = infP W P
  · have : cvK W P em W' P' em' m l neg = infP W' P' := by unfold cvK; rw [if_pos c1]
    rw [this]; exact cvK_le _ _ _ _ _ _ _ _ _
  · by_cases c2 : k = 0
    · have i1 := (inf_big h).1
      have : cvK W P em W' P' em' m k neg = 0 := by unfold cvK; rw [if_neg (by omega), if_pos c2]
      rw [this]; exact Nat.zero_le _
    · unfold cvK
      rw [if_neg (by omega), if_neg c2, if_neg c1, if_neg (by omega)]
      refine kOut_mono W' (by omega) (rB_pos (by decide) _ _) (rB_pos (by decide) _ _) m neg ?_
      unfold rA
      have := (plV_le (P := P) (by omega)).2 hkl
      exact Nat.mul_le_mul_right _ (Nat.mul_le_mul_right _ this)
omit h' in
theorem cvK_zero (m : Int) (neg : Bool) : cvK W P em W' P' em' m 0 neg = 0 := by
  have i1 := (inf_big h).1
  unfold cvK; rw [if_neg (by omega), if_pos rfl]
theorem plc_order (m : Int) {k l : Nat} (hk : k ≤ infP W P) (hl : l ≤ infP W P) (s t : Bool) (hlt : plc k s ≤ plc l t) : plc (cvK W P em W' P' em' m k s) s ≤ plc (cvK W P em W' P' em' m l t) t := by
  unfold plc at *
  cases s <;> cases t <;> simp only [if_true, if_false, Bool.false_eq_true] at *
  · have := cvK_mono h h' m false (k := k) (l := l) (by omega) hl; omega
  · have e1 : k = 0 := by omega
    have e2 : l = 0 := by omega
    subst e1; subst e2
    rw [cvK_zero h, cvK_zero h]; omega
  · omega
  · have := cvK_mono h h' m true (k := l) (l := k) (by omega) hk; omega
end
namespace Pure
/-- For all turns and patterns: true. -/
theorem NarrowOrder (t : Int × (Int × (Int × (Int × (Int × Int))))) (b : Int) (w : WFt TurnTy t) (wb : (Lit.int .u64 b).wf = true) : Ev (fun k => vernierlaw14_NarrowOrder k t.1 t.2.1 t.2.2.1 t.2.2.2.1 t.2.2.2.2.1 t.2.2.2.2.2 b) true := by
  obtain ⟨w1, w2, w3, w4, w5, w6⟩ := w
  obtain ⟨f, by_, g, m, m', a⟩ := t
  have ha : 0 ≤ a ∧ a < 18446744073709551616 := wf_u64 w6
  have hb := wf_u64 wb
  show Ev (fun k => vernierlaw14_NarrowOrder k f by_ g m m' a b) true
  obtain ⟨q, b1, b2⟩ := good_ev f by_ g m m' a
  refine Ev.congr (fun k => vernierlaw14_NarrowOrder_eq k _ _ _ _ _ _ _) (Ev.bind awake14_ev (Ev.neg (notF rfl) (Ev.bind b1 ?_)))
  cases q
  · exact Ev.pos rfl (Ev.some _)
  · obtain ⟨hf, -, hg, md, md'⟩ := b2 rfl
    obtain ⟨W, P, em, ex, h⟩ := fm_of hf.1 hf.2
    obtain ⟨W', P', em', ex', h'⟩ := fm_of hg.1 hg.2
    obtain ⟨x, rfl⟩ := Int.eq_ofNat_of_zero_le ha.1
    obtain ⟨y, rfl⟩ := Int.eq_ofNat_of_zero_le hb.1
    have l1 := Nat.mod_lt x (Nat.two_pow_pos W)
    have l2 := Nat.mod_lt y (Nat.two_pow_pos W)
    refine Ev.neg (notF rfl) (Ev.bind (cut14_ev h (x := x) (by omega)) (Ev.bind (cut14_ev h (x := y) (by omega)) ?_))
    generalize x % 2 ^ W = A at *
    generalize y % 2 ^ W = B at *
    refine Ev.bind (nan14_ev h l1) (Ev.bind (nan14_ev h l2) ?_)
    by_cases c1 : infP W P < pk W A
    · exact Ev.pos (dT c1) (Ev.some _)
    · refine Ev.neg (dF c1) ?_
      by_cases c2 : infP W P < pk W B
      · exact Ev.pos (dT c2) (Ev.some _)
      · refine Ev.neg (dF c2) (Ev.congr (fun k => vernierlaw14_NarrowOrder.j0_eq k _ _ _ _ _ _ _ _ _ _) ?_)
        refine Ev.bind (Convert_ok h h' md l1) (Ev.bind (Convert_ok h h' md l2) (Ev.neg (nF rfl) (Ev.neg (nF rfl) ?_)))
        refine Ev.congr (fun k => vernierlaw14_NarrowOrder.j1_eq k _ _ _ _ _ _) ?_
        obtain ⟨p1, p2, p3, p4, p5, p6⟩ := pat_parts h l1
        obtain ⟨r1, r2, r3, r4, r5, r6⟩ := pat_parts h l2
        obtain ⟨i1, i2, i3⟩ := inf_big h'
        have pA := place14_ev h p5 (ps W A)
        have pB := place14_ev h r5 (ps W B)
        rw [← p4] at pA
        rw [← r4] at pB
        have kA := cvK_le W P em W' P' em' m (pk W A) (ps W A)
        have kB := cvK_le W P em W' P' em' m (pk W B) (ps W B)
        have pC := place14_ev h' (K := cvK W P em W' P' em' m (pk W A) (ps W A)) (by omega) (ps W A)
        have pD := place14_ev h' (K := cvK W P em W' P' em' m (pk W B) (ps W B)) (by omega) (ps W B)
        rw [← cvR_bits W P em W' P' em' m (ps W A) c1] at pC
        rw [← cvR_bits W P em W' P' em' m (ps W B) c2] at pD
        have o1 := plc_order h h' m (k := pk W A) (l := pk W B) (by omega) (by omega) (ps W A) (ps W B)
        have o2 := plc_order h h' m (k := pk W B) (l := pk W A) (by omega) (by omega) (ps W B) (ps W A)
        refine Ev.bind pA (Ev.bind pB (Ev.bind pC (Ev.bind pD ?_)))
        generalize plc (cvK W P em W' P' em' m (pk W A) (ps W A)) (ps W A) = r at *
        generalize plc (cvK W P em W' P' em' m (pk W B) (ps W B)) (ps W B) = s at *
        generalize plc (pk W A) (ps W A) = p at *
        generalize plc (pk W B) (ps W B) = q at *
        by_cases g1 : p > q
        · refine Ev.pos (dT g1) (Ev.neg (dF (by omega)) (Ev.pos (dT (o2 (by omega))) (Ev.pos (nT (by omega)) (Ev.some _))))
        · refine Ev.neg (dF g1) (Ev.pos (dT (o1 (by omega))) ?_)
          by_cases g2 : p < q
          · exact Ev.pos (dT g2) (Ev.pos (nT (by omega)) (Ev.some _))
          · have e1 := o1 (by omega)
            have e2 := o2 (by omega)
            exact Ev.neg (dF g2) (Ev.pos (dT e2) (Ev.neg (nF (by omega)) (Ev.eq (Ev.some _) (bT (by omega)))))
end Pure
end Go.Proofs.YtogofladamekbaaDoor.X
