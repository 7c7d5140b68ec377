/- Plain law: layer 8's division, by the classes of both operands. Conditions: the format is among the four, the mode is one of the six. -/
import Derived.Test.YtldjheckpophaaaDoorRnC
namespace Go.Proofs.YtldjheckpophaaaDoor.X
open Go Go.Rex
set_option linter.unusedVariables false

/-- A quotient by the classes c and d; r where both are numbers. -/
def dvR (c d N I Z : Int) (r : Int × Int × Int) : Int × Int × Int :=
  if c = 0 ∨ d = 0 then (N, 1, 0) else if c = 1 ∨ d = 1 then (N, 0, 0)
  else if ((c = 2 ∨ c = 9) ∧ (d = 2 ∨ d = 9)) ∨ ((c = 5 ∨ c = 6) ∧ (d = 5 ∨ d = 6)) then (N, 1, 0)
  else if c = 2 ∨ c = 9 then (I, 0, 0) else if d = 5 ∨ d = 6 then (I, 2, 0) else if d = 2 ∨ d = 9 then (Z, 0, 0) else if c = 5 ∨ c = 6 then (Z, 0, 0) else r
theorem cls_cases {W P p : Nat} {neg : Bool} (hp2 : 0 < 2 ^ (P - 2)) : ∃ c, clsOf W P p neg = c ∧ (c = 0 ∨ c = 1 ∨ (c = 2 ∧ neg = true) ∨ (c = 9 ∧ neg = false) ∨ (c = 5 ∧ neg = true) ∨ (c = 6 ∧ neg = false) ∨ (c = 3 ∧ neg = true ∧ p ≠ 0 ∧ p < infP W P) ∨ (c = 4 ∧ neg = true ∧ p ≠ 0 ∧ p < infP W P) ∨ (c = 7 ∧ neg = false ∧ p ≠ 0 ∧ p < infP W P) ∨ (c = 8 ∧ neg = false ∧ p ≠ 0 ∧ p < infP W P)) := by
  refine ⟨_, rfl, ?_⟩
  unfold clsOf
  by_cases c1 : infP W P + 2 ^ (P - 2) ≤ p
  · rw [if_pos c1]; omega
  · rw [if_neg c1]
    by_cases c2 : infP W P < p
    · rw [if_pos c2]; omega
    · rw [if_neg c2]
      cases neg
      · rw [if_neg (by simp)]
        by_cases c3 : p = infP W P
        · rw [if_pos c3]; simp
        · rw [if_neg c3]
          by_cases c4 : p = 0
          · rw [if_pos c4]; simp
          · rw [if_neg c4]
            have : p < infP W P := by omega
            split <;> simp [c4, this]
      · rw [if_pos rfl]
        by_cases c3 : p = infP W P
        · rw [if_pos c3]; simp
        · rw [if_neg c3]
          by_cases c4 : p = 0
          · rw [if_pos c4]; simp
          · rw [if_neg c4]
            have : p < infP W P := by omega
            split <;> simp [c4, this]
section
variable {f : Int} {W P : Nat} {em ex : Int} (h : Fm f W P em ex)
include h
theorem kind_at {a : Nat} (ha : a < 2 ^ W) (k : Nat) : div_kindOf k f (a : Int) = some ((clsOf W P (pk W a) (ps W a) == 1 || clsOf W P (pk W a) (ps W a) == 0), ((clsOf W P (pk W a) (ps W a) == 0), ((clsOf W P (pk W a) (ps W a) == 2 || clsOf W P (pk W a) (ps W a) == 9), ((clsOf W P (pk W a) (ps W a) == 5 || clsOf W P (pk W a) (ps W a) == 6), ps W a)))) := by
  rw [div_kindOf_eq, class_pk h ha, Option.bind_some, fields_pk h ha, Option.bind_some]
  obtain ⟨c, hc, hcc⟩ := cls_cases (W := W) (P := P) (p := pk W a) (neg := ps W a) (Nat.two_pow_pos _)
  rw [hc]
  rcases hcc with rfl | rfl | ⟨rfl, -⟩ | ⟨rfl, -⟩ | ⟨rfl, -⟩ | ⟨rfl, -⟩ | ⟨rfl, -⟩ | ⟨rfl, -⟩ | ⟨rfl, -⟩ | ⟨rfl, -⟩ <;> simp
theorem drefuses {m : Int} (hm : Md m) {a b : Nat} (ha : a < 2 ^ W) (hb : b < 2 ^ W) : Ev (fun k => div_refuses k f m (((List.replicate 2 (0 : Int)).set 0 (a : Int)).set 1 (b : Int))) 0 := by
  have hm0 := hm.m0; have hm5 := hm.m5
  obtain ⟨p1, p2, p3, p4, p5, p6⟩ := pat_parts h ha
  obtain ⟨q1, q2, q3, q4, q5, q6⟩ := pat_parts h hb
  have ca1 : Ev (fun k => format_Check k f (a : Int)) 0 := Ev.of fun k => by rw [check_at h k a p6, if_pos ha]
  have cb1 : Ev (fun k => format_Check k f (b : Int)) 0 := Ev.of fun k => by rw [check_at h k b q6, if_pos hb]
  refine Ev.congr (fun k => div_refuses_eq k _ _ _) (Ev.bind (Ev.of fun k => params_at h k) (Ev.neg (nF rfl) (Ev.neg (dF (by omega)) (Ev.neg (dF (by omega)) ?_))))
  have e : (((List.replicate 2 (0 : Int)).set 0 (a : Int)).set 1 (b : Int)) = [(a : Int), (b : Int)] := rfl
  rw [e]
  have s2 : Ev2 (fun k n => div_refuses.l0 k n f [(a : Int), (b : Int)] 2 2) 0 := Ev2.step (fun k n => div_refuses.l0_eq k n _ _ _ _) (Ev2.neg (by decide) (Ev2.some _))
  have s1 : Ev2 (fun k n => div_refuses.l0 k n f [(a : Int), (b : Int)] 2 1) 0 := Ev2.step (fun k n => div_refuses.l0_eq k n _ _ _ _) (Ev2.pos (by decide) (Ev2.pos ⟨by decide, by simp⟩ (Ev2.call cb1 (Ev2.neg (nF rfl) s2))))
  have s0 : Ev2 (fun k n => div_refuses.l0 k n f [(a : Int), (b : Int)] 2 0) 0 := Ev2.step (fun k n => div_refuses.l0_eq k n _ _ _ _) (Ev2.pos (by decide) (Ev2.pos ⟨by decide, by simp⟩ (Ev2.call ca1 (Ev2.neg (nF rfl) s1))))
  exact s0.ev
theorem Div_ev {m : Int} (hm : Md m) {a b : Nat} (ha : a < 2 ^ W) (hb : b < 2 ^ W) : Ev (fun k => div_Div k f m (a : Int) (b : Int)) (dvR (clsOf W P (pk W a) (ps W a)) (clsOf W P (pk W b) (ps W b)) ((infP W P + 2 ^ (P - 2) : Nat) : Int) ((infP W P + sgB (!(ps W a == ps W b)) W : Nat) : Int) ((sgB (!(ps W a == ps W b)) W : Nat) : Int) (raR W P em m (!(ps W a == ps W b)) (oddN (plV P (pk W a))) (oddN (plV P (pk W b))) ((tz (plV P (pk W a)) : Int) - (tz (plV P (pk W b)) : Int)))) := by
  have h53 := h.p53; have h8 := h.p8; have m0 := h.m0; have m1 := h.m1
  have hip := infP_le h
  have hpp := Nat.two_pow_pos (P - 1)
  have ka := Ev.of fun k => kind_at h ha k
  have kb := Ev.of fun k => kind_at h hb k
  obtain ⟨-, -, u3⟩ := value_pk h ha
  obtain ⟨-, -, v3⟩ := value_pk h hb
  obtain ⟨c, hc, hcc⟩ := cls_cases (W := W) (P := P) (p := pk W a) (neg := ps W a) (Nat.two_pow_pos _)
  obtain ⟨d, hd, hdd⟩ := cls_cases (W := W) (P := P) (p := pk W b) (neg := ps W b) (Nat.two_pow_pos _)
  rw [hc] at ka ⊢
  rw [hd] at kb ⊢
  refine Ev.congr (fun k => div_Div_eq k _ _ _ _) (Ev.bind (drefuses h hm ha hb) (Ev.neg (nF rfl) (Ev.bind ka (Ev.bind kb ?_))))
  generalize hn : (!(ps W a == ps W b)) = n at *
  have j3 : pk W a ≠ 0 ∧ pk W a < infP W P → pk W b ≠ 0 ∧ pk W b < infP W P → Ev (fun k => div_Div.j3 k f m (a : Int) (b : Int) n) (raR W P em m n (oddN (plV P (pk W a))) (oddN (plV P (pk W b))) ((tz (plV P (pk W a)) : Int) - (tz (plV P (pk W b)) : Int))) := fun g1 g2 => by
    obtain ⟨w1, w2, w3, w4⟩ := plV_facts h g1.1 (by omega)
    obtain ⟨x1, x2, x3, x4⟩ := plV_facts h g2.1 (by omega)
    have l1 : (digs (oddN (plV P (pk W a)))).length ≤ 1 := digs_length_lt.2 (by rw [Nat.pow_one]; exact w4)
    have l2 : (digs (oddN (plV P (pk W b)))).length ≤ 1 := digs_length_lt.2 (by rw [Nat.pow_one]; exact x4)
    have rt := Ratio_ev h hm (a := digs (oddN (plV P (pk W a)))) (b := digs (oddN (plV P (pk W b)))) (WF.digs _) (WF.digs _) (by unfold Lb; omega) (by unfold Lb; omega) ((tz (plV P (pk W a)) : Int) - (tz (plV P (pk W b)) : Int)) n
    rw [val_digs, val_digs] at rt
    have ee : IntKind.i64.wrap ((em - (P : Int) + 1 + (tz (plV P (pk W a)) : Int)) - (em - (P : Int) + 1 + (tz (plV P (pk W b)) : Int))) = (tz (plV P (pk W a)) : Int) - (tz (plV P (pk W b)) : Int) := by rw [wrapI (by omega) (by omega)]; omega
    refine Ev.congr (fun k => div_Div.j3_eq k _ _ _ _ _) (Ev.bind (Ev.of (u3 g1.1 g1.2)) (Ev.bind (Ev.of (v3 g2.1 g2.2)) ?_))
    show Ev (fun k => (round_Ratio k f m n (digs (oddN (plV P (pk W a)))) (digs (oddN (plV P (pk W b)))) (IntKind.i64.wrap ((em - (P : Int) + 1 + (tz (plV P (pk W a)) : Int)) - (em - (P : Int) + 1 + (tz (plV P (pk W b)) : Int))))).bind fun o12 => some (o12.1, (o12.2.1, o12.2.2))) _
    rw [ee]
    exact Ev.bind rt (Ev.some _)
  generalize raR W P em m n (oddN (plV P (pk W a))) (oddN (plV P (pk W b))) ((tz (plV P (pk W a)) : Int) - (tz (plV P (pk W b)) : Int)) = r at *
  have nn := nan_at h
  have ii := inf_at h
  have zz := zero_at h
  rcases hcc with rfl | rfl | ⟨rfl, -⟩ | ⟨rfl, -⟩ | ⟨rfl, -⟩ | ⟨rfl, -⟩ | ⟨rfl, -, g1⟩ | ⟨rfl, -, g1⟩ | ⟨rfl, -, g1⟩ | ⟨rfl, -, g1⟩ <;> rcases hdd with rfl | rfl | ⟨rfl, -⟩ | ⟨rfl, -⟩ | ⟨rfl, -⟩ | ⟨rfl, -⟩ | ⟨rfl, -, g2⟩ | ⟨rfl, -, g2⟩ | ⟨rfl, -, g2⟩ | ⟨rfl, -, g2⟩ <;>
    first
    | (refine Ev.congr (fun k => ?_) (j3 g1 g2); simp [div_Div.j0_eq, div_Div.j1_eq, div_Div.j2_eq])
    | (refine Ev.of fun k => ?_; simp [div_Div.j0_eq, div_Div.j1_eq, div_Div.j2_eq, div_nan_eq, nn, ii, zz, dvR])
end
end Go.Proofs.YtldjheckpophaaaDoor.X
