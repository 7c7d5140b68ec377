/- Plain law: layer 14's conversions, by the places of patterns. Conditions: the formats are among the four, the mode is one of the six. -/
import Derived.Test.YtljoaomnajlglaaDoorRnB
namespace Go.Proofs.YtljoaomnajlglaaDoor.X
open Go Go.Rex
set_option linter.unusedVariables false

/-! ### What a conversion answers -/
/-- A NaN's, an infinity's, a zero's, a number's conversion: k is the place in the format that it comes from. -/
def cvR (W P : Nat) (em : Int) (W' P' : Nat) (em' m : Int) (k : Nat) (neg : Bool) : Int × Int :=
  if infP W P < k then (((infP W' P' + 2 ^ (P' - 2) : Nat) : Int), if k < infP W P + 2 ^ (P - 2) then 1 else 0)
  else if k = infP W P then (((infP W' P' + sgB neg W' : Nat) : Int), 0)
  else if k = 0 then (((sgB neg W' : Nat) : Int), 0)
  else rnOut W' P' m neg (rA (plV P k) (em - (P : Int) + 1) (em' - (P' : Int) + 1)) (rB 1 (em - (P : Int) + 1) (em' - (P' : Int) + 1))
theorem ref_l1 {fs ms : List Int} {a r : Int} (hr : Ev (fun k => format_Check k (fs.getD 0 0) a) r) (hf : 0 < fs.length) (hl : ms.length ≤ 10) (n : Nat) : ∀ i : Nat, i + n = ms.length → (∀ j, i ≤ j → j < ms.length → 0 ≤ ms.getD j 0 ∧ ms.getD j 0 ≤ 5) →
    Ev2 (fun k n => narrow_refuses.l1 k n fs a ms (ms.length : Int) (i : Int)) r := by
  induction n with
  | zero =>
    intro i hi hm
    exact Ev2.step (fun k n => narrow_refuses.l1_eq k n _ _ _ _ _) (Ev2.neg (dF (by omega)) (Ev2.pos ⟨by decide, by omega⟩ (Ev2.call hr (Ev2.some _))))
  | succ n ih =>
    intro i hi hm
    refine Ev2.step (fun k n => narrow_refuses.l1_eq k n _ _ _ _ _) ?_
    rw [Int.toNat_natCast, succ_i i (by omega)]
    obtain ⟨m1, m2⟩ := hm i (Nat.le_refl _) (by omega)
    exact Ev2.pos (dT (by omega)) (Ev2.pos ⟨by omega, by omega⟩ (Ev2.neg (dF (by omega)) (Ev2.neg (dF (by omega)) (ih (i + 1) (by omega) fun j h1 h2 => hm j (by omega) h2))))
theorem ref_l1_bad {fs ms : List Int} {a : Int} (hl : ms.length ≤ 10) (n : Nat) : ∀ i : Nat, i + n = ms.length → (∃ j, i ≤ j ∧ j < ms.length ∧ ¬ (0 ≤ ms.getD j 0 ∧ ms.getD j 0 ≤ 5)) →
    Ev2 (fun k n => narrow_refuses.l1 k n fs a ms (ms.length : Int) (i : Int)) 3 := by
  induction n with
  | zero => intro i hi ⟨j, h1, h2, _⟩; omega
  | succ n ih =>
    intro i hi ⟨j, h1, h2, h3⟩
    refine Ev2.step (fun k n => narrow_refuses.l1_eq k n _ _ _ _ _) ?_
    rw [Int.toNat_natCast, succ_i i (by omega)]
    refine Ev2.pos (dT (by omega)) (Ev2.pos ⟨by omega, by omega⟩ ?_)
    by_cases c1 : ms.getD i 0 < 0
    · exact Ev2.pos (dT c1) (Ev2.some _)
    · by_cases c2 : ms.getD i 0 > 5
      · exact Ev2.neg (dF c1) (Ev2.pos (dT c2) (Ev2.some _))
      · have hne : i ≠ j := fun e => h3 (by rw [← e]; omega)
        exact Ev2.neg (dF c1) (Ev2.neg (dF c2) (ih (i + 1) (by omega) ⟨j, by omega, h2, h3⟩))
theorem ref_l0 {fs ms : List Int} {a r : Int} (hl : fs.length ≤ 10) (hr : Ev2 (fun k n => narrow_refuses.l1 k n fs a ms (ms.length : Int) ((0 : Nat) : Int)) r) (n : Nat) : ∀ i : Nat, i + n = fs.length → (∀ j, i ≤ j → j < fs.length → 0 ≤ fs.getD j 0 ∧ fs.getD j 0 < 4) →
    Ev2 (fun k n => narrow_refuses.l0 k n fs ms a fs (fs.length : Int) (i : Int)) r := by
  induction n with
  | zero =>
    intro i hi hm
    exact Ev2.step (fun k n => narrow_refuses.l0_eq k n _ _ _ _ _ _) (Ev2.neg (dF (by omega)) (Ev2.inner hr))
  | succ n ih =>
    intro i hi hm
    refine Ev2.step (fun k n => narrow_refuses.l0_eq k n _ _ _ _ _ _) ?_
    rw [Int.toNat_natCast, succ_i i (by omega)]
    obtain ⟨m1, m2⟩ := hm i (Nat.le_refl _) (by omega)
    obtain ⟨W, P, em, ex, h⟩ := fm_of m1 m2
    exact Ev2.pos (dT (by omega)) (Ev2.pos ⟨by omega, by omega⟩ (Ev2.call (Ev.of fun k => params_at h k) (Ev2.neg (nF rfl) (ih (i + 1) (by omega) fun j h1 h2 => hm j (by omega) h2))))
theorem ref_l0_bad {fs ms : List Int} {a : Int} (hl : fs.length ≤ 10) (n : Nat) : ∀ i : Nat, i + n = fs.length → (∃ j, i ≤ j ∧ j < fs.length ∧ ¬ (0 ≤ fs.getD j 0 ∧ fs.getD j 0 < 4)) →
    Ev2 (fun k n => narrow_refuses.l0 k n fs ms a fs (fs.length : Int) (i : Int)) 2 := by
  induction n with
  | zero => intro i hi ⟨j, h1, h2, _⟩; omega
  | succ n ih =>
    intro i hi ⟨j, h1, h2, h3⟩
    refine Ev2.step (fun k n => narrow_refuses.l0_eq k n _ _ _ _ _ _) ?_
    rw [Int.toNat_natCast, succ_i i (by omega)]
    refine Ev2.pos (dT (by omega)) (Ev2.pos ⟨by omega, by omega⟩ ?_)
    by_cases c : 0 ≤ fs.getD i 0 ∧ fs.getD i 0 < 4
    · obtain ⟨W, P, em, ex, h⟩ := fm_of c.1 c.2
      have hne : i ≠ j := fun e => h3 (by rw [← e]; exact c)
      exact Ev2.call (Ev.of fun k => params_at h k) (Ev2.neg (nF rfl) (ih (i + 1) (by omega) ⟨j, by omega, h2, h3⟩))
    · exact Ev2.call (params_bad (by omega)) (Ev2.pos (nT (by decide)) (Ev2.some _))
section
variable {f g : Int} {W P W' P' : Nat} {em ex em' ex' : Int} (h : Fm f W P em ex) (h' : Fm g W' P' em' ex')
include h h'
omit h' in
/-- A number of one format, rounded in another one. -/
theorem exR_cross (m : Int) (neg : Bool) {p : Nat} (c3 : p ≠ 0) (hp : p < infP W P) : exR W' P' em' m neg (digs (oddN (plV P p))) (em - (P : Int) + 1 + (tz (plV P p) : Int)) = ((rnOut W' P' m neg (rA (plV P p) (em - (P : Int) + 1) (em' - (P' : Int) + 1)) (rB 1 (em - (P : Int) + 1) (em' - (P' : Int) + 1))).1, ((rnOut W' P' m neg (rA (plV P p) (em - (P : Int) + 1) (em' - (P' : Int) + 1)) (rB 1 (em - (P : Int) + 1) (em' - (P' : Int) + 1))).2, (0 : Int))) := by
  have h8 := h.p8; have h53 := h.p53; have m0 := h.m0; have m1 := h.m1
  have hip := infP_le h
  obtain ⟨v1, v2, v3, v4⟩ := plV_facts h c3 (by have := Nat.two_pow_pos (P - 1); omega)
  have hl : (digs (oddN (plV P p))).length ≤ 1 := digs_length_lt.2 (by rw [Nat.pow_one]; exact v4)
  have hb : badE (digs (oddN (plV P p))) (em - (P : Int) + 1 + (tz (plV P p) : Int)) = 0 := by
    unfold badE; rw [if_neg (by omega), if_neg (by omega)]
  have hx : rnOut W' P' m neg (rA (oddN (plV P p)) (em - (P : Int) + 1 + (tz (plV P p) : Int)) (em' - (P' : Int) + 1)) (rB 1 (em - (P : Int) + 1 + (tz (plV P p) : Int)) (em' - (P' : Int) + 1)) = rnOut W' P' m neg (rA (plV P p) (em - (P : Int) + 1) (em' - (P' : Int) + 1)) (rB 1 (em - (P : Int) + 1) (em' - (P' : Int) + 1)) :=
    rnOut_cross W' P' m neg (rB_pos (by decide) _ _) (rB_pos (by decide) _ _) (r_shift (em' - (P' : Int) + 1) (tz (plV P p)) rfl (by rw [Nat.mul_one, Nat.mul_one, oddN_mul v1]))
  unfold exR
  rw [val_digs, tz_of_odd (oddN_odd v1), hx, if_neg (by rw [hb]; decide), if_neg (oddN_ne v1), if_neg (by omega)]
theorem conv_ev {m : Int} (hm : Md m) {a : Nat} (ha : a < 2 ^ W) : Ev (fun k => narrow_convert k f g m (a : Int)) (cvR W P em W' P' em' m (pk W a) (ps W a)) := by
  have h8 := h.p8; have h53 := h.p53; have m0 := h.m0; have m1 := h.m1
  have h8' := h'.p8; have h53' := h'.p53; have m0' := h'.m0; have m1' := h'.m1
  have hip := infP_le h
  have hpp := Nat.two_pow_pos (P - 1)
  have hp2 := Nat.two_pow_pos (P - 2)
  have hbig : 31 ≤ infP W P := by
    have := (eTop_le h).2
    exact Nat.le_trans this (Nat.le_mul_of_pos_right _ hpp)
  obtain ⟨u1, u2, u3⟩ := value_pk h ha
  have cl := Ev.of fun k => class_pk h ha k
  have fl := Ev.of fun k => fields_pk h ha k
  refine Ev.congr (fun k => narrow_convert_eq k _ _ _ _) (Ev.bind cl (Ev.bind fl ?_))
  unfold cvR
  have j1 : ∀ x y : Int, Ev (fun k => narrow_convert.j1 k x y) (x, y) := fun x y => Ev.congr (fun k => narrow_convert.j1_eq k _ _) (Ev.some _)
  generalize hp : pk W a = p at *
  generalize ps W a = neg at *
  by_cases c1 : infP W P < p
  · rw [if_pos c1]
    by_cases c2 : infP W P + 2 ^ (P - 2) ≤ p
    · have e : clsOf W P p neg = 1 := by unfold clsOf; rw [if_pos c2]
      rw [if_neg (show ¬ p < infP W P + 2 ^ (P - 2) by omega)]
      show Ev (fun k => if (clsOf W P p neg == 0) = true then _ else _) _
      rw [e]
      exact Ev.neg (bF (by decide)) (Ev.congr (fun k => narrow_convert.j0_eq k _ _ _ _ _ _ _ _ _) (Ev.pos rfl (Ev.bind (Ev.of fun k => nan_at h' k) (Ev.neg (bF (by decide)) (j1 _ _)))))
    · have e : clsOf W P p neg = 0 := by unfold clsOf; rw [if_neg c2, if_pos c1]
      rw [if_pos (show p < infP W P + 2 ^ (P - 2) by omega)]
      show Ev (fun k => if (clsOf W P p neg == 0) = true then _ else _) _
      rw [e]
      exact Ev.pos rfl (Ev.congr (fun k => narrow_convert.j0_eq k _ _ _ _ _ _ _ _ _) (Ev.pos rfl (Ev.bind (Ev.of fun k => nan_at h' k) (Ev.pos rfl (j1 _ _)))))
  · rw [if_neg c1]
    by_cases c2 : p = infP W P
    · rw [if_pos c2]
      have e : clsOf W P p neg = if neg then 2 else 9 := by
        unfold clsOf; rw [if_neg (by omega), if_neg c1]; cases neg
        · rw [if_neg (by simp), if_pos c2]; rfl
        · rw [if_pos rfl, if_pos c2]; rfl
      show Ev (fun k => if (clsOf W P p neg == 0) = true then _ else _) _
      rw [e]
      cases neg
      · exact Ev.neg (bF (by decide)) (Ev.congr (fun k => narrow_convert.j0_eq k _ _ _ _ _ _ _ _ _) (Ev.neg (by decide) (Ev.pos rfl (Ev.congr (fun k => narrow_convert.j2_eq k _ _ _ _ _ _ _ _) (Ev.pos rfl (Ev.bind (Ev.of fun k => inf_at h' k false) (j1 _ _)))))))
      · exact Ev.neg (bF (by decide)) (Ev.congr (fun k => narrow_convert.j0_eq k _ _ _ _ _ _ _ _ _) (Ev.neg (by decide) (Ev.neg (bF (by decide)) (Ev.congr (fun k => narrow_convert.j2_eq k _ _ _ _ _ _ _ _) (Ev.pos rfl (Ev.bind (Ev.of fun k => inf_at h' k true) (j1 _ _)))))))
    · rw [if_neg c2]
      by_cases c3 : p = 0
      · rw [if_pos c3]
        have e : clsOf W P p neg = if neg then 5 else 6 := by
          unfold clsOf; rw [if_neg (by omega), if_neg c1]; cases neg
          · rw [if_neg (by simp), if_neg c2, if_pos c3]; rfl
          · rw [if_pos rfl, if_neg c2, if_pos c3]; rfl
        show Ev (fun k => if (clsOf W P p neg == 0) = true then _ else _) _
        rw [e]
        cases neg
        · exact Ev.neg (bF (by decide)) (Ev.congr (fun k => narrow_convert.j0_eq k _ _ _ _ _ _ _ _ _) (Ev.neg (by decide) (Ev.neg (bF (by decide)) (Ev.congr (fun k => narrow_convert.j2_eq k _ _ _ _ _ _ _ _) (Ev.neg (by decide) (Ev.pos rfl (Ev.congr (fun k => narrow_convert.j3_eq k _ _ _ _ _ _ _) (Ev.pos rfl (Ev.bind (Ev.of fun k => zero_at h' k false) (j1 _ _))))))))))
        · exact Ev.neg (bF (by decide)) (Ev.congr (fun k => narrow_convert.j0_eq k _ _ _ _ _ _ _ _ _) (Ev.neg (by decide) (Ev.neg (bF (by decide)) (Ev.congr (fun k => narrow_convert.j2_eq k _ _ _ _ _ _ _ _) (Ev.neg (by decide) (Ev.neg (bF (by decide)) (Ev.congr (fun k => narrow_convert.j3_eq k _ _ _ _ _ _ _) (Ev.pos rfl (Ev.bind (Ev.of fun k => zero_at h' k true) (j1 _ _))))))))))
      · rw [if_neg c3]
        obtain ⟨c, hc, hcc⟩ : ∃ c : Int, clsOf W P p neg = c ∧ (c = 3 ∨ c = 4 ∨ c = 7 ∨ c = 8) := by
          refine ⟨_, rfl, ?_⟩
          unfold clsOf; rw [if_neg (by omega), if_neg c1, if_neg c2, if_neg c2, if_neg c3, if_neg c3]
          cases neg
          · rw [if_neg (by simp)]; split <;> omega
          · rw [if_pos rfl]; split <;> omega
        show Ev (fun k => if (clsOf W P p neg == 0) = true then _ else _) _
        rw [hc]
        obtain ⟨v1, v2, v3, v4⟩ := plV_facts h c3 (by omega)
        have hl : (digs (oddN (plV P p))).length ≤ 1 := digs_length_lt.2 (by rw [Nat.pow_one]; exact v4)
        have ex := Exact_ev h' hm (a := digs (oddN (plV P p))) (WF.digs _) (em - (P : Int) + 1 + (tz (plV P p) : Int)) neg
        have er := exR_cross (W' := W') (P' := P') (em' := em') h m neg c3 (show p < infP W P by omega)
        rw [er] at ex
        have go : Ev (fun k => narrow_convert.j3 k f g m (a : Int) neg 0 false) (rnOut W' P' m neg (rA (plV P p) (em - (P : Int) + 1) (em' - (P' : Int) + 1)) (rB 1 (em - (P : Int) + 1) (em' - (P' : Int) + 1))) :=
          Ev.congr (fun k => narrow_convert.j3_eq k _ _ _ _ _ _ _) (Ev.neg (by decide) (Ev.bind (Ev.of (u3 c3 (by omega))) (Ev.bind ex (j1 _ _))))
        have hn : ∀ d : Int, d = 0 ∨ d = 1 ∨ d = 2 ∨ d = 5 ∨ d = 6 ∨ d = 9 → (c == d) = false := fun d hd => beq_eq_false_iff_ne.2 (by omega)
        rw [hn 0 (by omega)]
        refine Ev.neg (by decide) ?_
        show Ev (fun k => narrow_convert.j0 k f g m (a : Int) c neg 0 c (c == 1)) _
        rw [hn 1 (by omega)]
        refine Ev.congr (fun k => narrow_convert.j0_eq k _ _ _ _ _ _ _ _ _) (Ev.neg (by decide) ?_)
        rw [hn 9 (by omega), hn 2 (by omega)]
        refine Ev.neg (by decide) (Ev.congr (fun k => narrow_convert.j2_eq k _ _ _ _ _ _ _ _) (Ev.neg (by decide) ?_))
        rw [hn 6 (by omega), hn 5 (by omega)]
        exact Ev.neg (by decide) go
theorem Convert_ok {m : Int} (hm : Md m) {a : Nat} (ha : a < 2 ^ W) : Ev (fun k => narrow_Convert k f g m (a : Int)) ((cvR W P em W' P' em' m (pk W a) (ps W a)).1, ((cvR W P em W' P' em' m (pk W a) (ps W a)).2, (0 : Int))) := by
  obtain ⟨p1, p2, p3, p4, p5, p6⟩ := pat_parts h ha
  have hf0 := h.f0; have hf4 := h.f4; have hg0 := h'.f0; have hg4 := h'.f4; have hm0 := hm.m0; have hm5 := hm.m5
  have ck : Ev (fun k => format_Check k (([f, g] : List Int).getD 0 0) (a : Int)) 0 := Ev.of fun k => by
    show format_Check k f (a : Int) = some 0
    rw [check_at h k a p6, if_pos ha]
  have r1 := ref_l1 (fs := [f, g]) (ms := [m]) ck (by simp) (by simp) 1 0 rfl (fun j j1 j2 => by
    have : j = 0 := by simp at j2; omega
    subst this; exact ⟨hm0, hm5⟩)
  have r0 := ref_l0 (fs := [f, g]) (ms := [m]) (by simp) r1 2 0 rfl (fun j j1 j2 => by
    have : j = 0 ∨ j = 1 := by simp at j2; omega
    rcases this with rfl | rfl
    · exact ⟨hf0, hf4⟩
    · exact ⟨hg0, hg4⟩)
  refine Ev.congr (fun k => narrow_Convert_eq k _ _ _ _) (Ev.bind (Ev.congr (fun k => narrow_refuses_eq k _ _ _) r0.ev) (Ev.neg (nF rfl) (Ev.bind (conv_ev h h' hm ha) (Ev.some _))))
end
/-! ### The examples -/
theorem wk_a : cvR 32 24 (-126) 16 11 (-14) 5 (pk 32 1199566848) (ps 32 1199566848) = (31743, 16) := by
  have e1 : pk 32 1199566848 = 1199566848 := by decide +kernel
  have e2 : ps 32 1199566848 = false := by decide +kernel
  have hA : rA (plV 24 1199566848) (-126 - ((24 : Nat) : Int) + 1) (-14 - ((11 : Nat) : Int) + 1) = plV 24 1199566848 := by decide +kernel
  have hB : rB 1 (-126 - ((24 : Nat) : Int) + 1) (-14 - ((11 : Nat) : Int) + 1) = 2 ^ 125 := by decide +kernel
  have hb : blen (plV 24 1199566848 / 2 ^ 125) = 39 + 1 := blen_is (by decide +kernel) (by decide +kernel)
  have hs : shf 11 (plV 24 1199566848) (2 ^ 125) = 29 := by unfold shf; rw [hb]
  have hr : rnOut 16 11 5 false (plV 24 1199566848) (2 ^ 125) = (31743, 16) := by
    unfold rnOut rnd lftP tinyB
    rw [hs]
    decide +kernel
  unfold cvR
  rw [e1, e2, hA, hB, hr, if_neg (by decide +kernel), if_neg (by decide +kernel), if_neg (by decide +kernel)]
theorem wk_b : cvR 16 11 (-14) 64 53 (-1022) 3 (pk 16 15360) (ps 16 15360) = (4607182418800017408, 0) := by
  have e1 : pk 16 15360 = 15360 := by decide +kernel
  have e2 : ps 16 15360 = false := by decide +kernel
  have hA : rA (plV 11 15360) (-14 - ((11 : Nat) : Int) + 1) (-1022 - ((53 : Nat) : Int) + 1) = plV 53 4607182418800017408 * 1 := by decide +kernel
  have hB : rB 1 (-14 - ((11 : Nat) : Int) + 1) (-1022 - ((53 : Nat) : Int) + 1) = 1 := by decide +kernel
  have hr := rnOut_rep (W := 64) (P := 53) (k := 4607182418800017408) (B := 1) (by decide) (by decide) (by decide +kernel) 3 false
  unfold cvR
  rw [e1, e2, hA, hB, hr, if_neg (by decide +kernel), if_neg (by decide +kernel), if_neg (by decide +kernel)]
  rfl
theorem awake14_ev : Ev (fun k => vernierlaw14_awake k) true := by
  have p1 := Convert_ok fm32 fm16 (m := 5) ⟨by decide, by decide⟩ (a := 1199566848) (by decide)
  have p2 := Convert_ok fm16 fm64 (m := 3) ⟨by decide, by decide⟩ (a := 15360) (by decide)
  rw [wk_a] at p1
  rw [wk_b] at p2
  refine Ev.congr (fun k => vernierlaw14_awake_eq k) (Ev.bind p1 (Ev.bind p2 ?_))
  exact Ev.pos rfl (Ev.pos rfl (Ev.pos rfl (Ev.pos rfl (Ev.pos rfl (Ev.some _)))))
end Go.Proofs.YtljoaomnajlglaaDoor.X
