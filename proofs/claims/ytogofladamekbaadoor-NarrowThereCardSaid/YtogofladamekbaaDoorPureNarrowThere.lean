/- Plain law: NarrowThere answers true. Conditions: what the reading says of the arguments. -/
import Derived.Test.YtogofladamekbaaDoorNwB
namespace Go.Proofs.YtogofladamekbaaDoor.X
open Go Go.Rex
set_option linter.unusedVariables false

theorem holds_at (k : Nat) {f g : Int} {W P W' P' : Nat} {em ex em' ex' : Int} (h : Fm f W P em ex) (h' : Fm g W' P' em' ex') : ∃ b, vernierlaw14_holds k g f = some b ∧ (b = true → P ≤ P' ∧ em' ≤ em) := by
  rw [vernierlaw14_holds_eq]
  rcases fm_cases h with ⟨rfl, rfl, rfl, rfl, rfl⟩ | ⟨rfl, rfl, rfl, rfl, rfl⟩ | ⟨rfl, rfl, rfl, rfl, rfl⟩ | ⟨rfl, rfl, rfl, rfl, rfl⟩ <;> rcases fm_cases h' with ⟨rfl, rfl, rfl, rfl, rfl⟩ | ⟨rfl, rfl, rfl, rfl, rfl⟩ | ⟨rfl, rfl, rfl, rfl, rfl⟩ | ⟨rfl, rfl, rfl, rfl, rfl⟩ <;> refine ⟨_, rfl, ?_⟩ <;> decide
theorem holds_ev {f g : Int} {W P W' P' : Nat} {em ex em' ex' : Int} (h : Fm f W P em ex) (h' : Fm g W' P' em' ex') : ∃ b, Ev (fun k => vernierlaw14_holds k g f) b ∧ (b = true → P ≤ P' ∧ em' ≤ em) := by
  obtain ⟨b, h1, h2⟩ := holds_at 0 h h'
  refine ⟨b, Ev.of fun k => ?_, h2⟩
  rw [← h1, vernierlaw14_holds_eq, vernierlaw14_holds_eq]
section
variable {f g : Int} {W P W' P' : Nat} {em ex em' ex' : Int} (h : Fm f W P em ex) (h' : Fm g W' P' em' ex')
include h h'
theorem there_j1 {m' : Int} (hm' : Md m') {x4 x8 x9 x12 x5 : Int} {m : Int} {A p : Nat} {neg : Bool} (hp0 : p ≠ 0) (hp : p < infP W P) (hA : A = p + sgB neg W) :
    Ev (fun k => vernierlaw14_NarrowThere.j1 k f g (A : Int) (rnOut W' P' m neg (rA (plV P p) (em - (P : Int) + 1) (em' - (P' : Int) + 1)) (rB 1 (em - (P : Int) + 1) (em' - (P' : Int) + 1))).1 (rnOut W' P' m neg (rA (plV P p) (em - (P : Int) + 1) (em' - (P' : Int) + 1)) (rB 1 (em - (P : Int) + 1) (em' - (P' : Int) + 1))).2 x4 x8 x9 x12 m' x5) true := by
  obtain ⟨b, b1, b2⟩ := holds_ev h h'
  refine Ev.congr (fun k => vernierlaw14_NarrowThere.j1_eq k _ _ _ _ _ _ _ _ _ _ _) (Ev.bind b1 ?_)
  cases b
  · exact Ev.pos rfl (Ev.some _)
  · obtain ⟨hP, he⟩ := b2 rfl
    have h8 := h.p8; have h8' := h'.p8
    obtain ⟨s, k', s1, s2, s3, s4⟩ := fits h h' hP he hp0 hp
    have eA : rA (plV P p) (em - (P : Int) + 1) (em' - (P' : Int) + 1) = plV P' k' * 1 := by
      unfold rA; rw [s1, p2_nat, s4, Nat.mul_one]
    have eB : rB 1 (em - (P : Int) + 1) (em' - (P' : Int) + 1) = 1 := by unfold rB; rw [p2_neg (by omega)]
    have r1 := rnOut_rep (W := W') (P := P') (by omega) (B := 1) (by decide) s3 m neg
    obtain ⟨i1, i2, i3⟩ := inf_big h'
    obtain ⟨q1, q2, q3⟩ := pk_at (W := W') (K := k') (by omega) i3 neg
    have cv := Convert_ok h' h hm' q3
    have cR : cvR W' P' em' W P em m' (pk W' (k' + sgB neg W')) (ps W' (k' + sgB neg W')) = ((A : Int), 0) := by
      have eA' : rA (plV P' k') (em' - (P' : Int) + 1) (em - (P : Int) + 1) = plV P p * 2 ^ s := by
        unfold rA; rw [p2_neg (by omega), s4, Nat.mul_one]
      have eB' : rB 1 (em' - (P' : Int) + 1) (em - (P : Int) + 1) = 2 ^ s := by unfold rB; rw [s1, p2_nat, Nat.one_mul]
      unfold cvR
      rw [q1, q2, eA', eB', rnOut_rep (by omega) (Nat.two_pow_pos s) hp, if_neg (by omega), if_neg (by omega), if_neg s2, hA]
    rw [cR] at cv
    rw [eA, eB, r1]
    exact Ev.neg (notF rfl) (Ev.bind cv (Ev.pos rfl (Ev.pos rfl (Ev.pos (bT rfl) (Ev.some _)))))
end
namespace Pure
/-- For all turns: true. -/
theorem NarrowThere (t : Int × (Int × (Int × (Int × (Int × Int))))) (w : WFt TurnTy t) : Ev (fun k => vernierlaw14_NarrowThere k t.1 t.2.1 t.2.2.1 t.2.2.2.1 t.2.2.2.2.1 t.2.2.2.2.2) true := by
  obtain ⟨w1, w2, w3, w4, w5, w6⟩ := w
  obtain ⟨f, by_, g, m, m', a⟩ := t
  have ha : 0 ≤ a ∧ a < 18446744073709551616 := wf_u64 w6
  show Ev (fun k => vernierlaw14_NarrowThere k f by_ g m m' a) true
  obtain ⟨b, b1, b2⟩ := good_ev f by_ g m m' a
  refine Ev.congr (fun k => vernierlaw14_NarrowThere_eq k _ _ _ _ _ _) (Ev.bind awake14_ev (Ev.neg (notF rfl) (Ev.bind b1 ?_)))
  cases b
  · exact Ev.pos rfl (Ev.some _)
  · obtain ⟨hf, -, hg, md, md'⟩ := b2 rfl
    obtain ⟨W, P, em, ex, h⟩ := fm_of hf.1 hf.2
    obtain ⟨W', P', em', ex', h'⟩ := fm_of hg.1 hg.2
    obtain ⟨x, rfl⟩ := Int.eq_ofNat_of_zero_le ha.1
    have hlt := Nat.mod_lt x (Nat.two_pow_pos W)
    refine Ev.neg (notF rfl) (Ev.bind (cut14_ev h (x := x) (by omega)) ?_)
    generalize x % 2 ^ W = A at *
    have cv := Convert_ok h h' md hlt
    obtain ⟨p1, p2, p3, p4, p5, p6⟩ := pat_parts h hlt
    obtain ⟨u1, u2, u3⟩ := value_pk h hlt
    obtain ⟨i1, i2, i3⟩ := inf_big h
    obtain ⟨i1', i2', i3'⟩ := inf_big h'
    have ff := Ev.of fun k => fields_pk h hlt k
    refine Ev.bind cv (Ev.neg (nF rfl) (Ev.bind (nan14_ev h hlt) ?_))
    generalize hp : pk W A = p at *
    generalize ps W A = neg at *
    by_cases c1 : infP W P < p
    · have e1 : cvR W P em W' P' em' m p neg = (((infP W' P' + 2 ^ (P' - 2) : Nat) : Int), if p < infP W P + 2 ^ (P - 2) then 1 else 0) := by unfold cvR; rw [if_pos c1]
      rw [e1]
      refine Ev.pos (dT c1) (Ev.bind (Ev.of fun k => nan_at h' k) (Ev.pos (bT rfl) ?_))
      by_cases c2 : p < infP W P + 2 ^ (P - 2)
      · rw [if_pos c2, decide_eq_true (show infP W P < p ∧ p < infP W P + 2 ^ (P - 2) from ⟨c1, c2⟩)]
        exact Ev.pos rfl (Ev.eq (Ev.some _) (show (andNotK .i64 1 1 == 0) = true by decide +kernel))
      · rw [if_neg c2, decide_eq_false (show ¬ (infP W P < p ∧ p < infP W P + 2 ^ (P - 2)) from fun e => c2 e.2)]
        exact Ev.pos rfl (Ev.eq (Ev.some _) (show (andNotK .i64 0 1 == 0) = true by decide +kernel))
    · have hk := cvK_le W P em W' P' em' m p neg
      obtain ⟨q1, q2, q3⟩ := pk_at (W := W') (K := cvK W P em W' P' em' m p neg) (by omega) i3' neg
      have ff' := Ev.of fun k => fields_pk h' q3 k
      rw [q1, q2] at ff'
      have eb := cvR_bits W P em W' P' em' m neg c1
      refine Ev.neg (dF c1) (Ev.bind ff ?_)
      rw [← eb] at ff'
      refine Ev.bind ff' (Ev.neg (nF rfl) (Ev.neg (nF rfl) (Ev.neg (notF (by simp)) ?_)))
      refine Ev.congr (fun k => vernierlaw14_NarrowThere.j0_eq k _ _ _ _ _ _ _ _ _ _ _ _ _) ?_
      by_cases c2 : p = infP W P
      · have e1 : cvR W P em W' P' em' m p neg = (((infP W' P' + sgB neg W' : Nat) : Int), 0) := by unfold cvR; rw [if_neg c1, if_pos c2]
        rw [e1]
        exact Ev.bind (Ev.of (u1 (by omega))) (Ev.pos (nT (by decide)) (Ev.bind (Ev.of fun k => inf_at h' k neg) (Ev.pos (bT rfl) (Ev.some _))))
      · by_cases c3 : p = 0
        · have e1 : cvR W P em W' P' em' m p neg = (((sgB neg W' : Nat) : Int), 0) := by unfold cvR; rw [if_neg c1, if_neg c2, if_pos c3]
          rw [e1]
          exact Ev.bind (Ev.of (u2 c3)) (Ev.neg (nF rfl) (Ev.pos rfl (Ev.bind (Ev.of fun k => zero_at h' k neg) (Ev.pos (bT rfl) (Ev.some _)))))
        · have hlt2 : p < infP W P := by omega
          obtain ⟨v1, v2, v3, v4⟩ := plV_facts h c3 (by omega)
          have hd := digs_len_pos.2 (oddN_ne v1)
          have ev := Exact_ev h' md (a := digs (oddN (plV P p))) (WF.digs _) (em - (P : Int) + 1 + (tz (plV P p) : Int)) neg
          rw [exR_cross h m neg c3 hlt2] at ev
          have e1 : cvR W P em W' P' em' m p neg = rnOut W' P' m neg (rA (plV P p) (em - (P : Int) + 1) (em' - (P' : Int) + 1)) (rB 1 (em - (P : Int) + 1) (em' - (P' : Int) + 1)) := by unfold cvR; rw [if_neg c1, if_neg c2, if_neg c3]
          rw [e1]
          have hne : ((digs (oddN (plV P p))).length : Int) ≠ 0 := by omega
          refine Ev.bind (Ev.of (u3 c3 hlt2)) (Ev.neg (nF rfl) (Ev.neg (bF hne) (Ev.bind ev ?_)))
          have tj := there_j1 h h' md' (x4 := f) (x8 := by_) (x9 := g) (x12 := m) (x5 := (x : Int)) (m := m) (neg := neg) c3 hlt2 p4
          generalize rnOut W' P' m neg (rA (plV P p) (em - (P : Int) + 1) (em' - (P' : Int) + 1)) (rB 1 (em - (P : Int) + 1) (em' - (P' : Int) + 1)) = r at *
          exact Ev.neg (nF rfl) (Ev.neg (nF rfl) (Ev.neg (nF rfl) tj))
end Pure
end Go.Proofs.YtogofladamekbaaDoor.X
