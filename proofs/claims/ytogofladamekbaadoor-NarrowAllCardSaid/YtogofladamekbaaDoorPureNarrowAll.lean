/- Plain law: NarrowAll answers true. Conditions: what the reading says of the script. -/
import Derived.Test.YtogofladamekbaaDoorNwB
import Derived.Test.YtogofladamekbaaDoorRfH
namespace Go.Proofs.YtogofladamekbaaDoor.X
open Go Go.Rex
set_option linter.unusedVariables false

section
variable {f g : Int} {W P W' P' : Nat} {em ex em' ex' : Int} (h : Fm f W P em ex) (h' : Fm g W' P' em' ex')
include h h'
omit h in
/-- The bits of a conversion are a pattern. -/
theorem cv_nat (m : Int) (k : Nat) (neg : Bool) : ∃ B : Nat, B < 2 ^ W' ∧ (cvR W P em W' P' em' m k neg).1 = (B : Int) := by
  obtain ⟨i1, i2, i3⟩ := inf_big h'
  by_cases c : infP W P < k
  · refine ⟨infP W' P' + 2 ^ (P' - 2), ?_, by unfold cvR; rw [if_pos c]⟩
    have hw := pow_half i3
    have hip := infP_le h'
    have h8' := h'.p8
    have hq : 2 ^ (P' - 1) = 2 * 2 ^ (P' - 2) := by rw [show P' - 1 = (P' - 2) + 1 by omega, Nat.pow_succ, Nat.mul_comm]
    omega
  · have hk := cvK_le W P em W' P' em' m k neg
    obtain ⟨q1, q2, q3⟩ := pk_at (W := W') (K := cvK W P em W' P' em' m k neg) (by omega) i3 neg
    exact ⟨_, q3, cvR_bits W P em W' P' em' m neg c⟩
theorem rconv_ok {m : Int} (hm : Md m) {a : Nat} (ha : a < 2 ^ W) : Ev (fun k => vernierref14_Convert k f g m (a : Int)) ((cvR W P em W' P' em' m (pk W a) (ps W a)).1, ((cvR W P em W' P' em' m (pk W a) (ps W a)).2, (0 : Int))) := by
  obtain ⟨p1, p2, p3, p4, p5, p6⟩ := pat_parts h ha
  have h8 := h.p8; have h53 := h.p53; have m0 := h.m0; have m1 := h.m1; have h11 := h.wp11
  have hm0 := hm.m0; have hm5 := hm.m5
  have r1 : Ev (fun k => vernierref14_row k f) true := Ev.of fun k => by rw [vernierref14_row_eq, row_at h]; rfl
  have r2 : Ev (fun k => vernierref14_row k g) true := Ev.of fun k => by rw [vernierref14_row_eq, row_at h']; rfl
  have ck : Ev (fun k => vernierref04_Check k f (a : Int)) 0 := Ev.of fun k => by rw [rcheck_at h k a p6, if_pos ha]
  refine Ev.congr (fun k => vernierref14_Convert_eq k _ _ _ _) (Ev.bind r1 (Ev.neg (notF rfl) (Ev.bind r2 (Ev.neg (notF rfl) ?_))))
  refine Ev.congr (fun k => vernierref14_Convert.j0_eq k _ _ _ _) (Ev.neg (dF (by omega)) (Ev.neg (dF (by omega)) ?_))
  refine Ev.congr (fun k => vernierref14_Convert.j1_eq k _ _ _ _) (Ev.bind ck (Ev.neg (nF rfl) (Ev.bind (Ev.of fun k => rsig_at h ha k) ?_)))
  have nn := Ev.of fun k => rnan_at h' k
  have sg := Ev.of fun k => rsg_at h ha k
  have nu := Ev.of fun k => rnum_at h ha k
  have isn := Ev.of fun k => risnan_at h ha k
  have isi := Ev.of fun k => risinf_at h ha k
  have hv := plV_pat (P := P) (by omega) (pk W a)
  obtain ⟨f1, f2, f3⟩ := field_top h ha
  have hF := Nat.mod_lt (pk W a) (Nat.two_pow_pos (P - 1))
  have hn := fN_lt h (E := pk W a / 2 ^ (P - 1)) hF
  have hE2 : 2 ^ (W - P) ≤ 2 ^ 11 := pow_mono2 (by omega)
  have hq : fQ (pk W a / 2 ^ (P - 1)) ≤ 2047 := by unfold fQ; split <;> omega
  generalize pk W a = p at *
  generalize ps W a = neg at *
  generalize fN P (p / 2 ^ (P - 1)) (p % 2 ^ (P - 1)) = n at *
  generalize fQ (p / 2 ^ (P - 1)) = q at *
  unfold cvR
  by_cases c1 : infP W P < p
  · rw [if_pos c1]
    by_cases c2 : p < infP W P + 2 ^ (P - 2)
    · rw [if_pos c2]
      exact Ev.pos (dT ⟨c1, c2⟩) (Ev.bind nn (Ev.some _))
    · rw [if_neg c2]
      exact Ev.neg (dF fun e => c2 e.2) (Ev.bind isn (Ev.pos (dT c1) (Ev.bind nn (Ev.some _))))
  · rw [if_neg c1]
    refine Ev.neg (dF fun e => c1 e.1) (Ev.bind isn (Ev.neg (dF c1) (Ev.bind isi ?_)))
    by_cases c2 : p = infP W P
    · rw [if_pos c2]
      exact Ev.pos (dT c2) (Ev.bind sg (Ev.bind (Ev.of fun k => rinf_at h' k neg) (Ev.some _)))
    · rw [if_neg c2]
      refine Ev.neg (dF c2) (Ev.bind nu (Ev.bind sg (Ev.bind (Ev.of fun k => vernierref05_Whole_eq k _ _ _) ?_)))
      have wf1 : WF ((List.replicate 1 (0 : Int)).set 0 (n : Int)) := WF.cons (by omega) (by omega) WF.nil
      have wf2 : WF ((List.replicate 1 (0 : Int)).set 0 1) := WF.cons (by decide) (by decide) WF.nil
      have v1 : val ((List.replicate 1 (0 : Int)).set 0 (n : Int)) = n := by
        show (n : Int).toNat + 18446744073709551616 * 0 = n
        rw [Int.toNat_natCast]; omega
      have v2 : val ((List.replicate 1 (0 : Int)).set 0 1) = 1 := rfl
      have rd := Round_ev h' wf1 wf2 (by simp) (by simp) (by rw [v2]; decide) (e := (q : Int) + (em - (P : Int) + 1)) (by omega) m neg
      rw [v1, v2] at rd
      have es : ((if neg = true then (1 : Int) else 0) == 1) = neg := by cases neg <;> rfl
      show Ev (fun k => (vernierref05_Round k g m ((if neg = true then (1 : Int) else 0) == 1) ((List.replicate 1 (0 : Int)).set 0 (n : Int)) ((List.replicate 1 (0 : Int)).set 0 1) ((q : Int) + (em - (P : Int) + 1))).bind fun o13 => some (o13.1, (o13.2, (0 : Int)))) _
      rw [es]
      refine Ev.bind rd (Ev.eq (Ev.some _) ?_)
      by_cases c3 : p = 0
      · have hn0 : n = 0 := by
          have hz : plV P p = 0 := (plV_zero (by omega)).2 c3
          rw [hz] at hv
          rcases Nat.mul_eq_zero.1 hv with e | e
          · exact e
          · have := Nat.two_pow_pos q; omega
        rw [if_pos hn0, if_pos c3]
      · have hn0 : n ≠ 0 := fun e => c3 ((plV_zero (P := P) (by omega)).1 (by rw [← hv, e, Nat.zero_mul]))
        have hx := rnOut_cross W' P' m neg (A := rA n ((q : Int) + (em - (P : Int) + 1)) (em' - (P' : Int) + 1)) (B := rB 1 ((q : Int) + (em - (P : Int) + 1)) (em' - (P' : Int) + 1)) (A' := rA (plV P p) (em - (P : Int) + 1) (em' - (P' : Int) + 1)) (B' := rB 1 (em - (P : Int) + 1) (em' - (P' : Int) + 1)) (rB_pos (by decide) _ _) (rB_pos (by decide) _ _) (r_shift (em' - (P' : Int) + 1) q (by omega) (by rw [Nat.mul_one, Nat.mul_one, hv]))
        rw [if_neg hn0, if_neg c3, hx]
end
/-! ### The errors -/
theorem bad_row {f : Int} (hf : ¬ (0 ≤ f ∧ f < 4)) : Ev (fun k => vernierref14_row k f) false :=
  Ev.of fun k => by
    rw [vernierref14_row_eq, vernierref04_Row_eq, if_neg (bF (by omega)), if_neg (bF (by omega)), if_neg (bF (by omega)), if_neg (bF (by omega))]; rfl
theorem good_row {f : Int} (hf : 0 ≤ f ∧ f < 4) : Ev (fun k => vernierref14_row k f) true := by
  obtain ⟨W, P, em, ex, h⟩ := fm_of hf.1 hf.2
  exact Ev.of fun k => by rw [vernierref14_row_eq, row_at h]; rfl
theorem get2 {x y : Int} {j : Nat} (Q : Int → Prop) (hj : j < ([x, y] : List Int).length) (hx : Q x) (hy : Q y) : Q (([x, y] : List Int).getD j 0) := by
  have : j = 0 ∨ j = 1 := by simp at hj; omega
  rcases this with rfl | rfl
  · exact hx
  · exact hy
theorem get3 {x y z : Int} {j : Nat} (Q : Int → Prop) (hj : j < ([x, y, z] : List Int).length) (hx : Q x) (hy : Q y) (hz : Q z) : Q (([x, y, z] : List Int).getD j 0) := by
  have : j = 0 ∨ j = 1 ∨ j = 2 := by simp at hj; omega
  rcases this with rfl | rfl | rfl
  · exact hx
  · exact hy
  · exact hz
/-- One conversion: the program and the reference. -/
theorem both1 (f g m : Int) {a : Nat} (ha : a < 18446744073709551616) : ∃ r, Ev (fun k => narrow_Convert k f g m (a : Int)) r ∧ Ev (fun k => vernierref14_Convert k f g m (a : Int)) r := by
  by_cases hf : 0 ≤ f ∧ f < 4
  · by_cases hg : 0 ≤ g ∧ g < 4
    · obtain ⟨W, P, em, ex, h⟩ := fm_of hf.1 hf.2
      obtain ⟨W', P', em', ex', h'⟩ := fm_of hg.1 hg.2
      by_cases hm : 0 ≤ m ∧ m ≤ 5
      · by_cases c : a < 2 ^ W
        · exact ⟨_, Convert_ok h h' ⟨hm.1, hm.2⟩ c, rconv_ok h h' ⟨hm.1, hm.2⟩ c⟩
        · refine ⟨(0, (0, 4)), ?_, ?_⟩
          · have ck : Ev (fun k => format_Check k (([f, g] : List Int).getD 0 0) (a : Int)) 4 := Ev.of fun k => by
              show format_Check k f (a : Int) = some 4
              rw [check_at h k a ha, if_neg c]
            have r1 := ref_l1 (fs := [f, g]) (ms := [m]) ck (by simp) (by simp) 1 0 rfl (fun j j1 j2 => by
              have : j = 0 := by simp at j2; omega
              subst this; exact hm)
            have r0 := ref_l0 (fs := [f, g]) (ms := [m]) (by simp) r1 2 0 rfl (fun j j1 j2 => get2 (fun x => 0 ≤ x ∧ x < 4) j2 hf hg)
            exact Ev.congr (fun k => narrow_Convert_eq k _ _ _ _) (Ev.bind (Ev.congr (fun k => narrow_refuses_eq k _ _ _) r0.ev) (Ev.pos (nT (by decide)) (Ev.some _)))
          · have ck : Ev (fun k => vernierref04_Check k f (a : Int)) 4 := Ev.of fun k => by rw [rcheck_at h k a ha, if_neg c]
            exact Ev.congr (fun k => vernierref14_Convert_eq k _ _ _ _) (Ev.bind (good_row hf) (Ev.neg (notF rfl) (Ev.bind (good_row hg) (Ev.neg (notF rfl) (Ev.congr (fun k => vernierref14_Convert.j0_eq k _ _ _ _) (Ev.neg (dF (by omega)) (Ev.neg (dF (by omega)) (Ev.congr (fun k => vernierref14_Convert.j1_eq k _ _ _ _) (Ev.bind ck (Ev.pos (nT (by decide)) (Ev.some _)))))))))))
      · refine ⟨(0, (0, 3)), ?_, ?_⟩
        · have r1 := ref_l1_bad (fs := [f, g]) (ms := [m]) (a := (a : Int)) (by simp) 1 0 rfl ⟨0, by omega, by simp, hm⟩
          have r0 := ref_l0 (fs := [f, g]) (ms := [m]) (by simp) r1 2 0 rfl (fun j j1 j2 => get2 (fun x => 0 ≤ x ∧ x < 4) j2 hf hg)
          exact Ev.congr (fun k => narrow_Convert_eq k _ _ _ _) (Ev.bind (Ev.congr (fun k => narrow_refuses_eq k _ _ _) r0.ev) (Ev.pos (nT (by decide)) (Ev.some _)))
        · refine Ev.congr (fun k => vernierref14_Convert_eq k _ _ _ _) (Ev.bind (good_row hf) (Ev.neg (notF rfl) (Ev.bind (good_row hg) (Ev.neg (notF rfl) (Ev.congr (fun k => vernierref14_Convert.j0_eq k _ _ _ _) ?_)))))
          by_cases c : m < 0
          · exact Ev.pos (dT c) (Ev.some _)
          · exact Ev.neg (dF c) (Ev.pos (dT (by omega)) (Ev.some _))
    · refine ⟨(0, (0, 2)), ?_, ?_⟩
      · have r0 := ref_l0_bad (fs := [f, g]) (ms := [m]) (a := (a : Int)) (by simp) 2 0 rfl ⟨1, by omega, by simp, hg⟩
        exact Ev.congr (fun k => narrow_Convert_eq k _ _ _ _) (Ev.bind (Ev.congr (fun k => narrow_refuses_eq k _ _ _) r0.ev) (Ev.pos (nT (by decide)) (Ev.some _)))
      · exact Ev.congr (fun k => vernierref14_Convert_eq k _ _ _ _) (Ev.bind (good_row hf) (Ev.neg (notF rfl) (Ev.bind (bad_row hg) (Ev.pos rfl (Ev.some _)))))
  · refine ⟨(0, (0, 2)), ?_, ?_⟩
    · have r0 := ref_l0_bad (fs := [f, g]) (ms := [m]) (a := (a : Int)) (by simp) 2 0 rfl ⟨0, by omega, by simp, hf⟩
      exact Ev.congr (fun k => narrow_Convert_eq k _ _ _ _) (Ev.bind (Ev.congr (fun k => narrow_refuses_eq k _ _ _) r0.ev) (Ev.pos (nT (by decide)) (Ev.some _)))
    · exact Ev.congr (fun k => vernierref14_Convert_eq k _ _ _ _) (Ev.bind (bad_row hf) (Ev.pos rfl (Ev.some _)))
theorem rtwice_mode {f b g m n a : Int} (hf : 0 ≤ f ∧ f < 4) (hb : 0 ≤ b ∧ b < 4) (hg : 0 ≤ g ∧ g < 4) {r : Int × (Int × Int)} (hr : Ev (fun k => vernierref14_Twice.j1 k f b g m n a (decide (¬ ((0 ≤ m ∧ m ≤ 5) ∧ (0 ≤ n ∧ n ≤ 5))))) r) : Ev (fun k => vernierref14_Twice k f b g m n a) r := by
  refine Ev.congr (fun k => vernierref14_Twice_eq k _ _ _ _ _ _) (Ev.bind (good_row hf) (Ev.neg (notF rfl) (Ev.bind (good_row hb) (Ev.neg (notF rfl) (Ev.bind (good_row hg) (Ev.neg (notF rfl) (Ev.congr (fun k => vernierref14_Twice.j0_eq k _ _ _ _ _ _) ?_)))))))
  by_cases c1 : m < 0
  · rw [decide_eq_true (show ¬ ((0 ≤ m ∧ m ≤ 5) ∧ (0 ≤ n ∧ n ≤ 5)) by omega)] at hr; exact Ev.pos (dT c1) hr
  · refine Ev.neg (dF c1) ?_
    by_cases c2 : m > 5
    · rw [decide_eq_true (show ¬ ((0 ≤ m ∧ m ≤ 5) ∧ (0 ≤ n ∧ n ≤ 5)) by omega)] at hr; exact Ev.pos (dT c2) hr
    · refine Ev.neg (dF c2) ?_
      by_cases c3 : n < 0
      · rw [decide_eq_true (show ¬ ((0 ≤ m ∧ m ≤ 5) ∧ (0 ≤ n ∧ n ≤ 5)) by omega)] at hr; exact Ev.pos (dT c3) hr
      · refine Ev.neg (dF c3) ?_
        have e : decide (¬ ((0 ≤ m ∧ m ≤ 5) ∧ (0 ≤ n ∧ n ≤ 5))) = decide (n > 5) := by
          by_cases c4 : n > 5
          · rw [decide_eq_true c4, decide_eq_true (by omega)]
          · rw [decide_eq_false c4, decide_eq_false (by omega)]
        rw [e] at hr; exact hr
/-- Two conversions. -/
theorem both2 (f b g m n : Int) {a : Nat} (ha : a < 18446744073709551616) : ∃ r, Ev (fun k => narrow_Twice k f b g m n (a : Int)) r ∧ Ev (fun k => vernierref14_Twice k f b g m n (a : Int)) r := by
  have l3 : ∀ x y z : Int, (((List.replicate 3 (0 : Int)).set 0 x).set 1 y).set 2 z = [x, y, z] := fun _ _ _ => rfl
  have err : ∀ {c : Int}, c ≠ 0 → Ev2 (fun k l => narrow_refuses.l0 k l [f, b, g] [m, n] (a : Int) [f, b, g] (([f, b, g] : List Int).length : Int) ((0 : Nat) : Int)) c → Ev (fun k => narrow_Twice k f b g m n (a : Int)) (0, (0, c)) := fun hc r0 =>
    Ev.congr (fun k => narrow_Twice_eq k _ _ _ _ _ _) (Ev.bind (Ev.congr (fun k => narrow_refuses_eq k _ _ _) r0.ev) (Ev.pos (nT hc) (Ev.some _)))
  by_cases hf : 0 ≤ f ∧ f < 4
  · by_cases hb : 0 ≤ b ∧ b < 4
    · by_cases hg : 0 ≤ g ∧ g < 4
      · obtain ⟨W, P, em, ex, h⟩ := fm_of hf.1 hf.2
        obtain ⟨V, Q, eb, xb, hB⟩ := fm_of hb.1 hb.2
        obtain ⟨W', P', em', ex', h'⟩ := fm_of hg.1 hg.2
        have fm3 : ∀ j, 0 ≤ j → j < ([f, b, g] : List Int).length → 0 ≤ ([f, b, g] : List Int).getD j 0 ∧ ([f, b, g] : List Int).getD j 0 < 4 := fun j _ j2 => get3 (fun x => 0 ≤ x ∧ x < 4) j2 hf hb hg
        by_cases hm : (0 ≤ m ∧ m ≤ 5) ∧ (0 ≤ n ∧ n ≤ 5)
        · have fine : ∀ {c : Int}, Ev (fun k => format_Check k f (a : Int)) c → Ev2 (fun k l => narrow_refuses.l0 k l [f, b, g] [m, n] (a : Int) [f, b, g] (([f, b, g] : List Int).length : Int) ((0 : Nat) : Int)) c := fun ck =>
            ref_l0 (fs := [f, b, g]) (ms := [m, n]) (by simp) (ref_l1 (fs := [f, b, g]) (ms := [m, n]) ck (by simp) (by simp) 2 0 rfl (fun j j1 j2 => get2 (fun x => 0 ≤ x ∧ x ≤ 5) j2 hm.1 hm.2)) 3 0 rfl fm3
          by_cases c : a < 2 ^ W
          · obtain ⟨B, B1, B2⟩ := cv_nat (P := P) (em := em) hB m (pk W a) (ps W a)
            have c1 := conv_ev h hB ⟨hm.1.1, hm.1.2⟩ c
            have c2 := conv_ev hB h' ⟨hm.2.1, hm.2.2⟩ B1
            have d1 := rconv_ok h hB ⟨hm.1.1, hm.1.2⟩ c
            have d2 := rconv_ok hB h' ⟨hm.2.1, hm.2.2⟩ B1
            have ck : Ev (fun k => format_Check k f (a : Int)) 0 := Ev.of fun k => by rw [check_at h k a ha, if_pos c]
            rw [← B2] at c2 d2
            refine ⟨_, Ev.congr (fun k => narrow_Twice_eq k _ _ _ _ _ _) (Ev.bind (Ev.congr (fun k => narrow_refuses_eq k _ _ _) (fine ck).ev) (Ev.neg (nF rfl) (Ev.bind c1 (Ev.bind c2 (Ev.some _))))), ?_⟩
            refine rtwice_mode hf hb hg ?_
            rw [decide_eq_false (fun e => e hm)]
            exact Ev.congr (fun k => vernierref14_Twice.j1_eq k _ _ _ _ _ _ _) (Ev.neg (by simp) (Ev.congr (fun k => vernierref14_Twice.j2_eq k _ _ _ _ _ _) (Ev.bind d1 (Ev.neg (nF rfl) (Ev.bind d2 (Ev.some _))))))
          · have ck : Ev (fun k => format_Check k f (a : Int)) 4 := Ev.of fun k => by rw [check_at h k a ha, if_neg c]
            refine ⟨_, err (by decide) (fine ck), rtwice_mode hf hb hg ?_⟩
            rw [decide_eq_false (fun e => e hm)]
            have ck' : Ev (fun k => vernierref04_Check k f (a : Int)) 4 := Ev.of fun k => by rw [rcheck_at h k a ha, if_neg c]
            have d1 : Ev (fun k => vernierref14_Convert k f b m (a : Int)) (0, (0, 4)) := Ev.congr (fun k => vernierref14_Convert_eq k _ _ _ _) (Ev.bind (good_row hf) (Ev.neg (notF rfl) (Ev.bind (good_row hb) (Ev.neg (notF rfl) (Ev.congr (fun k => vernierref14_Convert.j0_eq k _ _ _ _) (Ev.neg (dF (by omega)) (Ev.neg (dF (by omega)) (Ev.congr (fun k => vernierref14_Convert.j1_eq k _ _ _ _) (Ev.bind ck' (Ev.pos (nT (by decide)) (Ev.some _)))))))))))
            exact Ev.congr (fun k => vernierref14_Twice.j1_eq k _ _ _ _ _ _ _) (Ev.neg (by simp) (Ev.congr (fun k => vernierref14_Twice.j2_eq k _ _ _ _ _ _) (Ev.bind d1 (Ev.pos (nT (by decide)) (Ev.some _)))))
        · refine ⟨_, err (c := 3) (by decide) (ref_l0 (fs := [f, b, g]) (ms := [m, n]) (by simp) (ref_l1_bad (fs := [f, b, g]) (ms := [m, n]) (by simp) 2 0 rfl ?_) 3 0 rfl fm3), rtwice_mode hf hb hg ?_⟩
          · by_cases e : 0 ≤ m ∧ m ≤ 5
            · exact ⟨1, by omega, by simp, fun q => hm ⟨e, q⟩⟩
            · exact ⟨0, by omega, by simp, e⟩
          · rw [decide_eq_true hm]
            exact Ev.congr (fun k => vernierref14_Twice.j1_eq k _ _ _ _ _ _ _) (Ev.pos rfl (Ev.some _))
      · exact ⟨_, err (c := 2) (by decide) (ref_l0_bad (fs := [f, b, g]) (ms := [m, n]) (by simp) 3 0 rfl ⟨2, by omega, by simp, hg⟩), Ev.congr (fun k => vernierref14_Twice_eq k _ _ _ _ _ _) (Ev.bind (good_row hf) (Ev.neg (notF rfl) (Ev.bind (good_row hb) (Ev.neg (notF rfl) (Ev.bind (bad_row hg) (Ev.pos rfl (Ev.some _)))))))⟩
    · exact ⟨_, err (c := 2) (by decide) (ref_l0_bad (fs := [f, b, g]) (ms := [m, n]) (by simp) 3 0 rfl ⟨1, by omega, by simp, hb⟩), Ev.congr (fun k => vernierref14_Twice_eq k _ _ _ _ _ _) (Ev.bind (good_row hf) (Ev.neg (notF rfl) (Ev.bind (bad_row hb) (Ev.pos rfl (Ev.some _)))))⟩
  · exact ⟨_, err (c := 2) (by decide) (ref_l0_bad (fs := [f, b, g]) (ms := [m, n]) (by simp) 3 0 rfl ⟨0, by omega, by simp, hf⟩), Ev.congr (fun k => vernierref14_Twice_eq k _ _ _ _ _ _) (Ev.bind (bad_row hf) (Ev.pos rfl (Ev.some _)))⟩
namespace Pure
abbrev TurnT := Int × (Int × (Int × (Int × (Int × Int))))
theorem all14_l0 {l : List TurnT} (hl : l.length ≤ 17592186044416) (H : ∀ o ∈ l, 0 ≤ o.2.2.2.2.2 ∧ o.2.2.2.2.2 < 18446744073709551616) (n : Nat) : ∀ i : Nat, i + n = l.length → Ev2 (fun k m => vernierlaw14_NarrowAll.l0 k m l (l.length : Int) (i : Int)) true := by
  induction n with
  | zero =>
    intro i hi
    exact Ev2.step (fun k m => vernierlaw14_NarrowAll.l0_eq k m _ _ _) (Ev2.neg (dF (by omega)) (Ev2.some _))
  | succ n ih =>
    intro i hi
    refine Ev2.step (fun k m => vernierlaw14_NarrowAll.l0_eq k m _ _ _) ?_
    rw [Int.toNat_natCast]
    have hmem : l.getD i (0, (0, (0, (0, (0, 0))))) ∈ l := by rw [List.getD_eq_getElem?_getD, List.getElem?_eq_getElem (show i < l.length by omega)]; exact List.getElem_mem _
    have Ho := H _ hmem
    generalize l.getD i (0, (0, (0, (0, (0, 0))))) = o at *
    obtain ⟨f, b, g, m, m', a⟩ := o
    have Ho' : 0 ≤ a ∧ a < 18446744073709551616 := Ho
    obtain ⟨x, rfl⟩ := Int.eq_ofNat_of_zero_le Ho'.1
    obtain ⟨r, r1, r2⟩ := both1 f g m (a := x) (by omega)
    obtain ⟨s, s1, s2⟩ := both2 f b g m m' (a := x) (by omega)
    refine Ev2.pos (dT (by omega)) (Ev2.pos ⟨by omega, by omega⟩ (Ev2.call r1 (Ev2.call r2 (Ev2.neg (nF rfl) (Ev2.neg (nF rfl) (Ev2.neg (nF rfl) ?_))))))
    refine Ev2.congr (fun k m => vernierlaw14_NarrowAll.j1_eq k m _ _ _ _ _ _ _ _ _) (Ev2.call s1 (Ev2.call s2 (Ev2.neg (nF rfl) (Ev2.neg (nF rfl) (Ev2.neg (nF rfl) ?_)))))
    rw [succ_i i (by omega)]
    exact ih (i + 1) (by omega)
/-- For all scripts: true. -/
theorem NarrowAll (l : List TurnT) (w : WFt (.sl TurnTy) l) : Ev (fun k => vernierlaw14_NarrowAll k l) true := by
  obtain ⟨h1, h2⟩ := w
  have hl : l.length ≤ 17592186044416 := by simp only [minB, IntKind.bits] at h1; omega
  exact Ev.congr (fun k => vernierlaw14_NarrowAll_eq k _) (Ev.bind awake14_ev (Ev.neg (notF rfl) (all14_l0 hl (fun o ho => wf_u64 (h2 o ho).2.2.2.2.2) l.length 0 (by omega)).ev))
end Pure
end Go.Proofs.YtogofladamekbaaDoor.X
