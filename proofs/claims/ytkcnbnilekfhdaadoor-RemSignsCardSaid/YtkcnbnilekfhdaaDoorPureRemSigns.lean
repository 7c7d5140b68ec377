/- Plain law: RemSigns answers true. Conditions: what the reading says of the arguments. -/
import Derived.Test.YtkcnbnilekfhdaaDoorRemC
import Derived.Test.YtkcnbnilekfhdaaDoorNegP
namespace Go.Proofs.YtkcnbnilekfhdaaDoor.X
open Go Go.Rex
set_option linter.unusedVariables false

/-- Classes of a pattern and its opposite. -/
def Opp (c c' : Int) : Prop := (c = 0 ∧ c' = 0) ∨ (c = 1 ∧ c' = 1) ∨ (c = 2 ∧ c' = 9) ∨ (c = 9 ∧ c' = 2) ∨ (c = 5 ∧ c' = 6) ∨ (c = 6 ∧ c' = 5) ∨ (c = 3 ∧ c' = 8) ∨ (c = 8 ∧ c' = 3) ∨ (c = 4 ∧ c' = 7) ∨ (c = 7 ∧ c' = 4)
theorem opp_cls (W P p : Nat) (s : Bool) : Opp (clsOf W P p s) (clsOf W P p (!s)) := by
  unfold clsOf
  by_cases c1 : infP W P + 2 ^ (P - 2) ≤ p
  · rw [if_pos c1, if_pos c1]; unfold Opp; simp
  rw [if_neg c1, if_neg c1]
  by_cases c2 : infP W P < p
  · rw [if_pos c2, if_pos c2]; unfold Opp; simp
  rw [if_neg c2, if_neg c2]
  have fin : ∀ x y : Prop, [Decidable x] → [Decidable y] → ∀ z : Prop, [Decidable z] → Opp (if x then 2 else if y then 5 else if z then 4 else 3) (if x then 9 else if y then 6 else if z then 7 else 8) ∧ Opp (if x then 9 else if y then 6 else if z then 7 else 8) (if x then 2 else if y then 5 else if z then 4 else 3) := by
    intro x y _ _ z _
    by_cases hx : x
    · rw [if_pos hx, if_pos hx]; unfold Opp; simp
    · rw [if_neg hx, if_neg hx]
      by_cases hy : y
      · rw [if_pos hy, if_pos hy]; unfold Opp; simp
      · rw [if_neg hy, if_neg hy]
        by_cases hz : z
        · rw [if_pos hz, if_pos hz]; unfold Opp; simp
        · rw [if_neg hz, if_neg hz]; unfold Opp; simp
  cases s
  · show Opp (if p = infP W P then 9 else if p = 0 then 6 else if p < 2 ^ (P - 1) then 7 else 8) (if p = infP W P then 2 else if p = 0 then 5 else if p < 2 ^ (P - 1) then 4 else 3)
    exact (fin _ _ _).2
  · show Opp (if p = infP W P then 2 else if p = 0 then 5 else if p < 2 ^ (P - 1) then 4 else 3) (if p = infP W P then 9 else if p = 0 then 6 else if p < 2 ^ (P - 1) then 7 else 8)
    exact (fin _ _ _).1
/-- The three kinds of answers. -/
theorem sp_kinds {c c' d d' : Int} (hc : Opp c c') (hd : Opp d d') (N : Int) :
    (∃ fl : Int, (fl = 0 ∨ fl = 1) ∧ ∀ x r, spZ c d x N r = (N, (0, (fl, 0))) ∧ spZ c d' x N r = (N, (0, (fl, 0))) ∧ spZ c' d x N r = (N, (0, (fl, 0)))) ∨
    ((∀ x r, spZ c d x N r = (x, (0, (0, 0))) ∧ spZ c d' x N r = (x, (0, (0, 0))) ∧ spZ c' d x N r = (x, (0, (0, 0)))) ∧ c ≠ 0 ∧ c ≠ 1) ∨
    ((∀ x r, spZ c d x N r = r ∧ spZ c d' x N r = r ∧ spZ c' d x N r = r) ∧ (c = 3 ∨ c = 4 ∨ c = 7 ∨ c = 8) ∧ (d = 3 ∨ d = 4 ∨ d = 7 ∨ d = 8)) := by
  rcases hc with ⟨rfl, rfl⟩ | ⟨rfl, rfl⟩ | ⟨rfl, rfl⟩ | ⟨rfl, rfl⟩ | ⟨rfl, rfl⟩ | ⟨rfl, rfl⟩ | ⟨rfl, rfl⟩ | ⟨rfl, rfl⟩ | ⟨rfl, rfl⟩ | ⟨rfl, rfl⟩ <;> rcases hd with ⟨rfl, rfl⟩ | ⟨rfl, rfl⟩ | ⟨rfl, rfl⟩ | ⟨rfl, rfl⟩ | ⟨rfl, rfl⟩ | ⟨rfl, rfl⟩ | ⟨rfl, rfl⟩ | ⟨rfl, rfl⟩ | ⟨rfl, rfl⟩ | ⟨rfl, rfl⟩ <;>
    first
    | exact .inl ⟨0, .inl rfl, fun _ _ => ⟨rfl, rfl, rfl⟩⟩
    | exact .inl ⟨1, .inr rfl, fun _ _ => ⟨rfl, rfl, rfl⟩⟩
    | exact .inr (.inl ⟨fun _ _ => ⟨rfl, rfl, rfl⟩, by decide, by decide⟩)
    | exact .inr (.inr ⟨fun _ _ => ⟨rfl, rfl, rfl⟩, by decide, by decide⟩)
theorem sign_turn (near s : Bool) (A B : Nat) : signR near (!s) A B = !signR near s A B := by
  unfold signR
  split
  · rfl
  · split <;> simp
section
variable {f : Int} {W P : Nat} {em ex : Int} (h : Fm f W P em ex)
include h
theorem signs_step {A B : Nat} (l1 : A < 2 ^ W) (l2 : B < 2 ^ W) {i : Int} (hi : i = 0 ∨ i = 1) (rest : Ev2 (fun k n => vernierlaw11_RemSigns.l2 k n f (A : Int) (B : Int) ((pk W A + sgB (!ps W A) W : Nat) : Int) ((pk W B + sgB (!ps W B) W : Nat) : Int) (clsOf W P (pk W A) (ps W A)) (IntKind.i64.wrap (i + 1))) true) :
    Ev2 (fun k n => vernierlaw11_RemSigns.l2 k n f (A : Int) (B : Int) ((pk W A + sgB (!ps W A) W : Nat) : Int) ((pk W B + sgB (!ps W B) W : Nat) : Int) (clsOf W P (pk W A) (ps W A)) i) true := by
  have h8 := h.p8; have h3 := h.wp
  have hip := infP_le h
  have hpp := Nat.two_pow_pos (P - 1)
  have hq1 : 2 ^ (P - 1) = 2 * 2 ^ (P - 2) := by rw [show P - 1 = (P - 2) + 1 by omega, Nat.pow_succ, Nat.mul_comm]
  have hq2 := Nat.two_pow_pos (P - 2)
  obtain ⟨p1, p2, p3, p4, p5, p6⟩ := pat_parts h l1
  obtain ⟨q1, q2, q3, q4, q5, q6⟩ := pat_parts h l2
  obtain ⟨y1, y2, y3⟩ := pk_at (W := W) (K := pk W A) p5 (by omega) (!ps W A)
  obtain ⟨z1, z2, z3⟩ := pk_at (W := W) (K := pk W B) q5 (by omega) (!ps W B)
  have a6 := asked_ev h l1 l2 (i := i)
  have a7 := asked_ev h l1 z3 (i := i)
  have a8 := asked_ev h y3 l2 (i := i)
  rw [z1, z2] at a7
  rw [y1, y2] at a8
  have lt2 : i < 2 := by omega
  -- the loop's next round
  have next : Ev2 (fun k n => vernierlaw11_RemSigns.j5 k n f (A : Int) (B : Int) ((pk W A + sgB (!ps W A) W : Nat) : Int) ((pk W B + sgB (!ps W B) W : Nat) : Int) (clsOf W P (pk W A) (ps W A)) i) true := Ev2.congr (fun k n => vernierlaw11_RemSigns.j5_eq k n _ _ _ _ _ _ _) rest
  refine Ev2.step (fun k n => vernierlaw11_RemSigns.l2_eq k n _ _ _ _ _ _ _) (Ev2.pos (dT lt2) ?_)
  rcases sp_kinds (opp_cls W P (pk W A) (ps W A)) (opp_cls W P (pk W B) (ps W B)) ((infP W P + 2 ^ (P - 2) : Nat) : Int) with ⟨fl, hfl, g⟩ | ⟨g, c0, c1⟩ | ⟨g, gc, gd⟩
  · rw [(g _ _).1] at a6
    rw [(g _ _).2.1] at a7
    rw [(g _ _).2.2] at a8
    have lN : infP W P + 2 ^ (P - 2) < 2 ^ W := by
      have := pow_half (P := W) (by omega); omega
    have cN := class_pk h lN
    have kN : pk W (infP W P + 2 ^ (P - 2)) = infP W P + 2 ^ (P - 2) := Nat.mod_eq_of_lt (by omega)
    have eN : clsOf W P (pk W (infP W P + 2 ^ (P - 2))) (ps W (infP W P + 2 ^ (P - 2))) = 1 := by
      unfold clsOf; rw [kN, if_pos (Nat.le_refl _)]
    rw [eN] at cN
    refine Ev2.call a6 (Ev2.call a7 (Ev2.neg (nF rfl) (Ev2.neg (nF rfl) (Ev2.neg (nF rfl) (Ev2.neg (nF rfl) (Ev2.neg (nF rfl) (Ev2.congr (fun k n => vernierlaw11_RemSigns.j3_eq k n _ _ _ _ _ _ _ _ _ _) (Ev2.call a8 (Ev2.neg (nF rfl) (Ev2.neg (nF rfl) (Ev2.neg (nF rfl) (Ev2.congr (fun k n => vernierlaw11_RemSigns.j4_eq k n _ _ _ _ _ _ _ _ _ _ _) (Ev2.call (Ev.of cN) (Ev2.neg (nF rfl) (Ev2.pos (bT rfl) (Ev2.call (Ev.of fun k => nan_at h k) (Ev2.neg (nF rfl) (Ev2.neg (nF rfl) (Ev2.neg (nF rfl) ?_)))))))))))))))))))
    rcases hfl with rfl | rfl
    · exact Ev2.neg (nF rfl) next
    · exact Ev2.pos (nT (show (1 : Int) ≠ 0 by decide)) (Ev2.neg (nF rfl) next)
  · have a6' := a6
    rw [(g _ _).1] at a6
    rw [(g _ _).2.1] at a7
    rw [(g _ _).2.2] at a8
    have ng : ∀ k, format_Neg k f (A : Int) = some (((pk W A + sgB (!ps W A) W : Nat) : Int), (0 : Int)) := fun k => by
      have := neg_pk h k (K := pk W A) p5 (ps W A)
      rw [← p4] at this; exact this
    refine Ev2.call a6 (Ev2.call a7 (Ev2.neg (nF rfl) (Ev2.neg (nF rfl) (Ev2.neg (nF rfl) (Ev2.neg (nF rfl) (Ev2.neg (nF rfl) (Ev2.congr (fun k n => vernierlaw11_RemSigns.j3_eq k n _ _ _ _ _ _ _ _ _ _) (Ev2.call a8 (Ev2.neg (nF rfl) (Ev2.neg (nF rfl) (Ev2.neg (nF rfl) (Ev2.congr (fun k n => vernierlaw11_RemSigns.j4_eq k n _ _ _ _ _ _ _ _ _ _ _) (Ev2.call (Ev.of fun k => class_pk h l1 k) (Ev2.neg (nF rfl) (Ev2.neg (bF c1) (Ev2.call (Ev.of ng) (Ev2.neg (nF rfl) (Ev2.neg (nF rfl) (Ev2.neg (nF rfl) (Ev2.neg (bF c0) ?_))))))))))))))))))))
    exact Ev2.congr (fun k n => vernierlaw11_RemSigns.j6_eq k n _ _ _ _ _ _ _ _) (Ev2.call a6 (Ev2.neg (nF rfl) (Ev2.neg (nF rfl) (Ev2.neg (nF rfl) (Ev2.neg (nF rfl) next)))))
  · rw [(g _ _).1] at a6
    rw [(g _ _).2.1] at a7
    rw [(g _ _).2.2] at a8
    -- both are numbers
    have num : ∀ {x : Nat} {s : Bool}, (clsOf W P x s = 3 ∨ clsOf W P x s = 4 ∨ clsOf W P x s = 7 ∨ clsOf W P x s = 8) → x ≠ 0 ∧ x < infP W P := by
      intro x s hx
      obtain ⟨c, hc, hcc⟩ := cls_cases (W := W) (P := P) (p := x) (neg := s) (Nat.two_pow_pos _)
      rw [hc] at hx
      omega
    have g1 := num gc
    have g2 := num gd
    obtain ⟨k1, k2⟩ := remK_ok h (i == 0) g1 g2
    obtain ⟨x1, x2, x3, x4⟩ := plV_facts h g2.1 (by omega)
    have again := again_up (i == 0) (A := plV P (pk W A)) (B := plV P (pk W B)) (by omega)
    rw [← k1] at again
    unfold remF at a6 a7 a8
    rw [sign_turn] at a8
    generalize remK P (i == 0) (pk W A) (pk W B) = K at *
    generalize signR (i == 0) (ps W A) (plV P (pk W A)) (plV P (pk W B)) = sg at *
    obtain ⟨u1, u2, u3⟩ := pk_at (W := W) (K := K) (by omega) (by omega) sg
    have cK := class_pk h u3
    rw [u1, u2] at cK
    have cne : clsOf W P K sg ≠ 1 := by
      unfold clsOf; rw [if_neg (by omega), if_neg (by omega)]
      cases sg
      · rw [if_neg (by simp)]; split <;> (try split) <;> (try split) <;> decide
      · rw [if_pos rfl]; split <;> (try split) <;> (try split) <;> decide
    have c0 : clsOf W P (pk W A) (ps W A) ≠ 0 := by omega
    have ng := fun k => neg_pk h k (K := K) (by omega) sg
    have a9 := asked_ev h u3 l2 (i := i)
    rw [u1, u2] at a9
    have e9 : spZ (clsOf W P K sg) (clsOf W P (pk W B) (ps W B)) ((K + sgB sg W : Nat) : Int) ((infP W P + 2 ^ (P - 2) : Nat) : Int) (remF W P (i == 0) sg K (pk W B)) = (((K + sgB sg W : Nat) : Int), ((0 : Int), ((0 : Int), (0 : Int)))) := by
      by_cases kz : K = 0
      · have ck : clsOf W P K sg = 5 ∨ clsOf W P K sg = 6 := by
          unfold clsOf; rw [if_neg (by omega), if_neg (by omega)]
          cases sg
          · rw [if_neg (by simp), if_neg (by omega), if_pos kz]; exact .inr rfl
          · rw [if_pos rfl, if_neg (by omega), if_pos kz]; exact .inl rfl
        rcases ck with e | e <;> rcases gd with e' | e' | e' | e' <;> rw [e, e'] <;> rfl
      · have hr : remF W P (i == 0) sg K (pk W B) = (((K + sgB sg W : Nat) : Int), ((0 : Int), ((0 : Int), (0 : Int)))) := by
          obtain ⟨b1, b2⟩ := again
          have hv0 : plV P K ≠ 0 := fun e => kz ((plV_zero (P := P) (by omega)).1 e)
          have hl : leftR (i == 0) (plV P K) (plV P (pk W B)) = plV P K := by
            unfold leftR; rw [if_neg (by rw [b1]; simp), Nat.mod_eq_of_lt b2]
          have ho : oftenR (i == 0) (plV P K) (plV P (pk W B)) = 0 := by
            unfold oftenR; rw [if_neg (by rw [b1]; simp), Nat.div_eq_of_lt b2]
          have hs : signR (i == 0) sg (plV P K) (plV P (pk W B)) = sg := by
            unfold signR; rw [if_neg (by rw [hl]; exact hv0), if_neg (by rw [b1]; simp)]
          unfold remF remK
          rw [hl, ho, hs, flr_at (P := P) (by omega) (rfl : plV P K = plV P K)]
          rfl
        rw [hr]
        rcases cls_num (neg := sg) kz k2 with e | e | e | e <;> rcases gd with e' | e' | e' | e' <;> rw [e, e'] <;> rfl
    rw [e9] at a9
    refine Ev2.call a6 (Ev2.call a7 (Ev2.neg (nF rfl) (Ev2.neg (nF rfl) (Ev2.neg (nF rfl) (Ev2.neg (nF rfl) (Ev2.neg (nF rfl) (Ev2.congr (fun k n => vernierlaw11_RemSigns.j3_eq k n _ _ _ _ _ _ _ _ _ _) (Ev2.call a8 (Ev2.neg (nF rfl) (Ev2.neg (nF rfl) (Ev2.neg (nF rfl) (Ev2.congr (fun k n => vernierlaw11_RemSigns.j4_eq k n _ _ _ _ _ _ _ _ _ _ _) (Ev2.call (Ev.of cK) (Ev2.neg (nF rfl) (Ev2.neg (bF cne) (Ev2.call (Ev.of ng) (Ev2.neg (nF rfl) (Ev2.neg (nF rfl) (Ev2.neg (nF rfl) (Ev2.neg (bF c0) ?_))))))))))))))))))))
    exact Ev2.congr (fun k n => vernierlaw11_RemSigns.j6_eq k n _ _ _ _ _ _ _ _) (Ev2.call a9 (Ev2.neg (nF rfl) (Ev2.neg (nF rfl) (Ev2.neg (nF rfl) (Ev2.neg (nF rfl) next)))))
end
namespace Pure
abbrev RTwoTy' : Ty := .pair (.int .i64) (.pair (.int .u64) (.int .u64))
theorem RemSigns (t : Int × (Int × Int)) (w : WFt RTwoTy' t) : Ev (fun k => vernierlaw11_RemSigns k t.1 t.2.1 t.2.2) true := by
  obtain ⟨w1, w2, w3⟩ := w
  obtain ⟨f, a, b⟩ := t
  have ha : 0 ≤ a ∧ a < 18446744073709551616 := wf_u64 w2
  have hb : 0 ≤ b ∧ b < 18446744073709551616 := wf_u64 w3
  show Ev (fun k => vernierlaw11_RemSigns k f a b) true
  refine Ev.congr (fun k => vernierlaw11_RemSigns_eq k _ _ _) (Ev.bind awake11_ev (Ev.neg (notF rfl) ?_))
  by_cases c1 : f < 0
  · exact Ev.pos (dT c1) (Ev.some _)
  refine Ev.neg (dF c1) ?_
  by_cases c2 : f > 3
  · exact Ev.pos (dT c2) (Ev.some _)
  refine Ev.neg (dF c2) (Ev.congr (fun k => vernierlaw11_RemSigns.j0_eq k _ _ _) ?_)
  obtain ⟨W, P, em, ex, h⟩ := fm_of (f := f) (by omega) (by omega)
  obtain ⟨x, rfl⟩ := Int.eq_ofNat_of_zero_le ha.1
  obtain ⟨y, rfl⟩ := Int.eq_ofNat_of_zero_le hb.1
  have l1 := Nat.mod_lt x (Nat.two_pow_pos W)
  have l2 := Nat.mod_lt y (Nat.two_pow_pos W)
  refine Ev.bind (cut11_ev h (x := x) (by omega)) (Ev.bind (cut11_ev h (x := y) (by omega)) ?_)
  generalize x % 2 ^ W = A at *
  generalize y % 2 ^ W = B at *
  obtain ⟨p1, p2, p3, p4, p5, p6⟩ := pat_parts h l1
  obtain ⟨q1, q2, q3, q4, q5, q6⟩ := pat_parts h l2
  have ng : ∀ k, format_Neg k f (A : Int) = some (((pk W A + sgB (!ps W A) W : Nat) : Int), (0 : Int)) := fun k => by
    have := neg_pk h k (K := pk W A) p5 (ps W A)
    rw [← p4] at this; exact this
  have ng2 : ∀ k, format_Neg k f (B : Int) = some (((pk W B + sgB (!ps W B) W : Nat) : Int), (0 : Int)) := fun k => by
    have := neg_pk h k (K := pk W B) q5 (ps W B)
    rw [← q4] at this; exact this
  refine Ev.bind (Ev.of ng) (Ev.bind (Ev.of ng2) (Ev.bind (Ev.of fun k => class_pk h l1 k) (Ev.neg (nF rfl) (Ev.neg (nF rfl) (Ev.neg (nF rfl) (Ev.congr (fun k => vernierlaw11_RemSigns.j1_eq k _ _ _ _ _ _) ?_))))))
  have s2 : Ev2 (fun k n => vernierlaw11_RemSigns.l2 k n f (A : Int) (B : Int) ((pk W A + sgB (!ps W A) W : Nat) : Int) ((pk W B + sgB (!ps W B) W : Nat) : Int) (clsOf W P (pk W A) (ps W A)) (IntKind.i64.wrap (1 + 1))) true := Ev2.step (fun k n => vernierlaw11_RemSigns.l2_eq k n _ _ _ _ _ _ _) (Ev2.neg (by decide) (Ev2.some _))
  have s1 := signs_step h l1 l2 (i := 1) (.inr rfl) s2
  have s0 := signs_step h l1 l2 (i := 0) (.inl rfl) s1
  exact s0.ev
end Pure
end Go.Proofs.YtkcnbnilekfhdaaDoor.X
