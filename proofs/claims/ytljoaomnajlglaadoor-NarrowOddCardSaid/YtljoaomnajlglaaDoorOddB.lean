/- Plain law: two conversions, one behind the other. Conditions: the formats are among the four, the modes among the six. -/
import Derived.Test.YtljoaomnajlglaaDoorNwB
import Derived.Test.YtljoaomnajlglaaDoorOddA
namespace Go.Proofs.YtljoaomnajlglaaDoor.X
open Go Go.Rex
set_option linter.unusedVariables false

theorem oget2 {x y : Int} {j : Nat} (Q : Int → Prop) (hj : j < ([x, y] : List Int).length) (hx : Q x) (hy : Q y) : Q (([x, y] : List Int).getD j 0) := by
  have : j = 0 ∨ j = 1 := by simp at hj; omega
  rcases this with rfl | rfl
  · exact hx
  · exact hy
theorem oget3 {x y z : Int} {j : Nat} (Q : Int → Prop) (hj : j < ([x, y, z] : List Int).length) (hx : Q x) (hy : Q y) (hz : Q z) : Q (([x, y, z] : List Int).getD j 0) := by
  have : j = 0 ∨ j = 1 ∨ j = 2 := by simp at hj; omega
  rcases this with rfl | rfl | rfl
  · exact hx
  · exact hy
  · exact hz
section
variable {f g : Int} {W P W' P' : Nat} {em ex em' ex' : Int} (h : Fm f W P em ex) (h' : Fm g W' P' em' ex')
include h h'
omit h in
theorem ocv_nat (m : Int) (k : Nat) (neg : Bool) : ∃ B : Nat, B < 2 ^ W' ∧ (cvR W P em W' P' em' m k neg).1 = (B : Int) := by
  obtain ⟨i1, i2, i3⟩ := inf_big h'
  by_cases c : infP W P < k
  · refine ⟨infP W' P' + 2 ^ (P' - 2), ?_, by unfold cvR; rw [if_pos c]⟩
    have hw := pow_half i3
    have hip := infP_le h'
    have h8' := h'.p8
    have hq : 2 ^ (P' - 1) = 2 * 2 ^ (P' - 2) := by rw [show P' - 1 = (P' - 2) + 1 by omega, Nat.pow_succ, Nat.mul_comm]
    omega
  · have hk := cvK_le W P em W' P' em' m k neg
    obtain ⟨q1, q2, q3⟩ := pk_at (W := W') (K := cvK W P em W' P' em' m k neg) (by omega) i3 neg
    exact ⟨_, q3, cvR_bits W P em W' P' em' m neg c⟩
end
section
variable {f y g : Int} {W P Wb Pb W' P' : Nat} {em ex eb xb em' ex' : Int} (h : Fm f W P em ex) (hb : Fm y Wb Pb eb xb) (h' : Fm g W' P' em' ex')
include h hb h'
theorem Twice_ok {m n : Int} (hm : Md m) (hn : Md n) {a : Nat} (ha : a < 2 ^ W) : ∃ B : Nat, (cvR W P em Wb Pb eb m (pk W a) (ps W a)).1 = (B : Int) ∧ Ev (fun k => narrow_Twice k f y g m n (a : Int)) ((cvR Wb Pb eb W' P' em' n (pk Wb B) (ps Wb B)).1, (orK .i64 (cvR W P em Wb Pb eb m (pk W a) (ps W a)).2 (cvR Wb Pb eb W' P' em' n (pk Wb B) (ps Wb B)).2, (0 : Int))) := by
  obtain ⟨p1, p2, p3, p4, p5, p6⟩ := pat_parts h ha
  obtain ⟨B, B1, B2⟩ := ocv_nat (W := W) (P := P) (em := em) hb m (pk W a) (ps W a)
  have c1 := conv_ev h hb hm ha
  have c2 := conv_ev hb h' hn B1
  have ck : Ev (fun k => format_Check k f (a : Int)) 0 := Ev.of fun k => by rw [check_at h k a p6, if_pos ha]
  rw [← B2] at c2
  have r0 := ref_l0 (fs := [f, y, g]) (ms := [m, n]) (by simp) (ref_l1 (fs := [f, y, g]) (ms := [m, n]) ck (by simp) (by simp) 2 0 rfl (fun j j1 j2 => oget2 (fun x => 0 ≤ x ∧ x ≤ 5) j2 ⟨hm.m0, hm.m5⟩ ⟨hn.m0, hn.m5⟩)) 3 0 rfl (fun j _ j2 => oget3 (fun x => 0 ≤ x ∧ x < 4) j2 ⟨h.f0, h.f4⟩ ⟨hb.f0, hb.f4⟩ ⟨h'.f0, h'.f4⟩)
  exact ⟨B, B2, Ev.congr (fun k => narrow_Twice_eq k _ _ _ _ _ _) (Ev.bind (Ev.congr (fun k => narrow_refuses_eq k _ _ _) r0.ev) (Ev.neg (nF rfl) (Ev.bind c1 (Ev.bind c2 (Ev.some _)))))⟩
omit h hb h' in
theorem cvR_nan {k : Nat} (neg : Bool) (m : Int) (c : infP W P < k) : cvR W P em W' P' em' m k neg = (((infP W' P' + 2 ^ (P' - 2) : Nat) : Int), if k < infP W P + 2 ^ (P - 2) then 1 else 0) := by unfold cvR; rw [if_pos c]
omit h hb h' in
theorem cvR_inf (neg : Bool) (m : Int) : cvR W P em W' P' em' m (infP W P) neg = (((infP W' P' + sgB neg W' : Nat) : Int), 0) := by unfold cvR; rw [if_neg (by omega), if_pos rfl]
omit h hb h' in
theorem cvR_zero (hi : infP W P ≠ 0) (neg : Bool) (m : Int) : cvR W P em W' P' em' m 0 neg = (((sgB neg W' : Nat) : Int), 0) := by unfold cvR; rw [if_neg (by omega), if_neg (by omega), if_pos rfl]
omit h hb h' in
theorem cvR_fin {k : Nat} (neg : Bool) (m : Int) (c0 : k ≠ 0) (c : k < infP W P) : cvR W P em W' P' em' m k neg = rnOut W' P' m neg (rA (plV P k) (em - (P : Int) + 1) (em' - (P' : Int) + 1)) (rB 1 (em - (P : Int) + 1) (em' - (P' : Int) + 1)) := by
  unfold cvR; rw [if_neg (by omega), if_neg (by omega), if_neg c0]
omit h' in
/-- What is not a number, infinities, zeros: by two steps as by one. -/
theorem twice_spec {m n : Int} {p : Nat} (neg : Bool) (hp : infP W P ≤ p ∨ p = 0) {B : Nat} (hB : (cvR W P em Wb Pb eb m p neg).1 = (B : Int)) :
    (cvR Wb Pb eb W' P' em' n (pk Wb B) (ps Wb B)).1 = (cvR W P em W' P' em' n p neg).1 ∧ (cvR Wb Pb eb W' P' em' n (pk Wb B) (ps Wb B)).2 = 0 ∧ (cvR W P em Wb Pb eb m p neg).2 = (cvR W P em W' P' em' n p neg).2 ∧ ((cvR W P em W' P' em' n p neg).2 = 0 ∨ (cvR W P em W' P' em' n p neg).2 = 1) := by
  obtain ⟨i1, i2, i3⟩ := inf_big hb
  obtain ⟨j1, j2, j3⟩ := inf_big h
  have hip := infP_le hb
  have h8 := hb.p8
  have hq : 2 ^ (Pb - 1) = 2 * 2 ^ (Pb - 2) := by rw [show Pb - 1 = (Pb - 2) + 1 by omega, Nat.pow_succ, Nat.mul_comm]
  have hq0 := Nat.two_pow_pos (Pb - 2)
  by_cases c1 : infP W P < p
  · rw [cvR_nan neg m c1] at hB ⊢
    rw [cvR_nan neg n c1]
    have e : B = infP Wb Pb + 2 ^ (Pb - 2) := by have := hB; dsimp only at this; omega
    obtain ⟨q1, q2, -⟩ := pk_at (W := Wb) (K := infP Wb Pb + 2 ^ (Pb - 2)) (by omega) i3 false
    rw [show infP Wb Pb + 2 ^ (Pb - 2) + sgB false Wb = infP Wb Pb + 2 ^ (Pb - 2) from rfl] at q1 q2
    rw [e, q1, q2, cvR_nan false n (by omega), if_neg (by omega)]
    exact ⟨rfl, rfl, rfl, by split <;> simp⟩
  · by_cases c2 : p = infP W P
    · subst c2
      rw [cvR_inf] at hB ⊢
      rw [cvR_inf]
      have e : B = infP Wb Pb + sgB neg Wb := by have := hB; dsimp only at this; omega
      obtain ⟨q1, q2, -⟩ := pk_at (W := Wb) (K := infP Wb Pb) (by omega) i3 neg
      rw [e, q1, q2, cvR_inf]
      exact ⟨rfl, rfl, rfl, .inl rfl⟩
    · have c3 : p = 0 := by omega
      subst c3
      rw [cvR_zero (by omega)] at hB ⊢
      rw [cvR_zero (by omega)]
      have e : B = 0 + sgB neg Wb := by have := hB; dsimp only at this; omega
      obtain ⟨q1, q2, -⟩ := pk_at (W := Wb) (K := 0) (Nat.two_pow_pos _) i3 neg
      rw [e, q1, q2, cvR_zero (by omega)]
      exact ⟨rfl, rfl, rfl, .inl rfl⟩
omit h hb h' in
theorem r_three (X : Nat) (a b c : Int) {s : Nat} (hs : c - b = (s : Int)) : rA X a c * (rB 1 a b * 2 ^ s) = rA X a b * rB 1 a c := by
  have hc := p2_cross a c b
  have e1 : p2 (b - c) = 1 := p2_neg (by omega)
  have e2 : p2 (c - b) = 2 ^ s := by rw [hs, p2_nat]
  unfold rA rB
  rw [e1, e2] at hc
  rw [Nat.one_mul, Nat.one_mul, Nat.mul_assoc, hc, Nat.mul_one, Nat.mul_assoc]
omit h hb h' in
theorem r_two (X : Nat) (b c : Int) {s : Nat} (hs : c - b = (s : Int)) : rA X b c = X ∧ rB 1 b c = 2 ^ s := by
  have e1 : p2 (b - c) = 1 := p2_neg (by omega)
  have e2 : p2 (c - b) = 2 ^ s := by rw [hs, p2_nat]
  unfold rA rB
  rw [e1, e2]
  simp
omit h in
/-- What the second step answers for the place K. -/
theorem second_at {s : Nat} (hs : em' - (P' : Int) + 1 - (eb - (Pb : Int) + 1) = (s : Int)) (n : Int) (neg : Bool) {K : Nat} (hK : K < infP Wb Pb) : (cvR Wb Pb eb W' P' em' n K neg).1 = ((kOut W' P' n neg (plV Pb K) (2 ^ s) + sgB neg W' : Nat) : Int) ∧ (K ≠ 0 → cvR Wb Pb eb W' P' em' n K neg = rnOut W' P' n neg (plV Pb K) (2 ^ s)) := by
  obtain ⟨r1, r2⟩ := r_two (plV Pb K) (eb - (Pb : Int) + 1) (em' - (P' : Int) + 1) hs
  have h8' := h'.p8
  have h8 := hb.p8
  by_cases c : K = 0
  · subst c
    refine ⟨?_, fun g => absurd rfl g⟩
    rw [cvR_zero (by omega)]
    have z : plV Pb 0 = 0 := (plV_zero (P := Pb) (by omega)).2 rfl
    have e := (rnd_exact (P := P') (k := 0) (by omega) (Nat.two_pow_pos s) n neg).1
    rw [(plV_zero (P := P') (by omega)).2 rfl, Nat.zero_mul] at e
    unfold kOut
    have := (inf_big h').1
    rw [z, e, if_neg (by omega), Nat.zero_add]
  · rw [cvR_fin neg n c hK, r1, r2]
    exact ⟨rnOut_bits _ _ _ _ _ _, fun _ => rfl⟩
/-- To a format that holds the first one, and on: as at once. -/
theorem twice_wide {m n : Int} (hP : P ≤ Pb) (he : eb ≤ em) {s : Nat} (hs : em' - (P' : Int) + 1 - (eb - (Pb : Int) + 1) = (s : Int)) {p : Nat} (neg : Bool) (p0 : p ≠ 0) (hp : p < infP W P) {B : Nat} (hB : (cvR W P em Wb Pb eb m p neg).1 = (B : Int)) :
    cvR Wb Pb eb W' P' em' n (pk Wb B) (ps Wb B) = cvR W P em W' P' em' n p neg ∧ (cvR W P em Wb Pb eb m p neg).2 = 0 := by
  obtain ⟨i1, i2, i3⟩ := inf_big hb
  have h8 := hb.p8
  obtain ⟨d, K, hd, K0, hK, hv⟩ := fits h hb hP he p0 hp
  have eA : rA (plV P p) (em - (P : Int) + 1) (eb - (Pb : Int) + 1) = plV Pb K * 1 := by
    unfold rA; rw [hd, p2_nat, hv, Nat.mul_one]
  have eB : rB 1 (em - (P : Int) + 1) (eb - (Pb : Int) + 1) = 1 := by
    unfold rB; rw [p2_neg (by omega)]
  have f1 := cvR_fin (W' := Wb) (P' := Pb) (em := em) (em' := eb) neg m p0 hp
  have f2 := cvR_fin (W' := W') (P' := P') (em := em) (em' := em') neg n p0 hp
  have t3 := r_three (plV P p) (em - (P : Int) + 1) (eb - (Pb : Int) + 1) (em' - (P' : Int) + 1) hs
  rw [eA, eB] at f1 t3
  rw [rnOut_rep (by omega) (by decide) hK] at f1
  rw [f1] at hB ⊢
  have e : B = K + sgB neg Wb := by have := hB; dsimp only at this; omega
  obtain ⟨q1, q2, -⟩ := pk_at (W := Wb) (K := K) (by omega) i3 neg
  rw [e, q1, q2, (second_at hb h' hs n neg hK).2 K0, f2]
  refine ⟨?_, rfl⟩
  refine rnOut_cross W' P' n neg (Nat.two_pow_pos s) (rB_pos (by decide) _ _) ?_
  rw [Nat.mul_one, Nat.one_mul] at t3
  exact t3.symm
omit h in
/-- In one direction twice, by a format that holds where it goes to. -/
theorem twice_dir {m : Int} (hm : m = 2 ∨ m = 3 ∨ m = 4) (hP : P' ≤ Pb) (he : eb ≤ em') {p : Nat} (neg : Bool) (p0 : p ≠ 0) (hp : p < infP W P) {B : Nat} (hB : (cvR W P em Wb Pb eb m p neg).1 = (B : Int)) :
    (cvR Wb Pb eb W' P' em' m (pk Wb B) (ps Wb B)).1 = (cvR W P em W' P' em' m p neg).1 := by
  obtain ⟨i1, i2, i3⟩ := inf_big hb
  obtain ⟨j1, j2, j3⟩ := inf_big h'
  have h8 := hb.p8; have h8' := h'.p8
  obtain ⟨s, G, hs, G0, hG, hv⟩ := fits h' hb hP he (k := infP W' P' - 1) (by omega) (by omega)
  have f1 := cvR_fin (W' := Wb) (P' := Pb) (em := em) (em' := eb) neg m p0 hp
  have f2 := cvR_fin (W' := W') (P' := P') (em := em) (em' := em') neg m p0 hp
  have t3 := r_three (plV P p) (em - (P : Int) + 1) (eb - (Pb : Int) + 1) (em' - (P' : Int) + 1) hs
  have hBp : 0 < rB 1 (em - (P : Int) + 1) (eb - (Pb : Int) + 1) := rB_pos (by decide) _ _
  have hBp' : 0 < rB 1 (em - (P : Int) + 1) (em' - (P' : Int) + 1) := rB_pos (by decide) _ _
  rw [f1, rnOut_bits] at hB
  rw [f2, rnOut_bits]
  have hs0 := Nat.two_pow_pos s
  have hk2 : ∀ A B A' B' : Nat, rnd P' m neg A B = rnd P' m neg A' B' → kOut W' P' m neg A B = kOut W' P' m neg A' B' := fun A B A' B' e => by unfold kOut; rw [e]
  rw [hk2 _ _ _ _ (rnd_cross P' m neg hBp' (Nat.mul_pos hBp hs0) t3)]
  generalize rA (plV P p) (em - (P : Int) + 1) (eb - (Pb : Int) + 1) = X at *
  generalize rB 1 (em - (P : Int) + 1) (eb - (Pb : Int) + 1) = Y at *
  have e : B = kOut Wb Pb m neg X Y + sgB neg Wb := by omega
  have hle := kOut_le Wb Pb m neg X Y
  obtain ⟨q1, q2, -⟩ := pk_at (W := Wb) (K := kOut Wb Pb m neg X Y) (by omega) i3 neg
  rw [e, q1, q2]
  have dr := dir_rnd (s := s) (P := P') (Q := Pb) (by omega) hP hBp neg hm (A := X)
  have ord : ∀ {x z : Nat}, plV Pb x ≤ plV Pb z ↔ x ≤ z := fun {x z} => plV_le (by omega)
  by_cases c : infP Wb Pb ≤ rnd Pb m neg X Y
  · by_cases ct : toInf m neg = true
    · have ek : kOut Wb Pb m neg X Y = infP Wb Pb := by unfold kOut; rw [if_pos c, if_pos ct]
      rw [ek, cvR_inf]
      have hu : ∀ o l, ups m neg o l = true := by
        intro o l
        rcases hm with rfl | rfl | rfl <;> cases neg <;> simp [toInf] at ct <;> simp [ups]
      have big : infP W' P' ≤ rnd P' m neg X (Y * 2 ^ s) := by
        refine Nat.le_of_not_lt fun g => ?_
        obtain ⟨u1, -⟩ := rnd_up (P := P') (by omega) (Nat.mul_pos hBp hs0) hu (A := X)
        have u2 : plV P' (rnd P' m neg X (Y * 2 ^ s)) ≤ plV P' (infP W' P' - 1) := (plV_le (by omega)).2 (by omega)
        have u3 : X ≤ plV Pb G * Y := by
          rw [hv]
          calc X ≤ plV P' (rnd P' m neg X (Y * 2 ^ s)) * (Y * 2 ^ s) := u1
            _ ≤ plV P' (infP W' P' - 1) * (Y * 2 ^ s) := Nat.mul_le_mul_right _ u2
            _ = plV P' (infP W' P' - 1) * 2 ^ s * Y := by grind
        have u4 := rnd_mono (P := Pb) (by omega) hBp hBp m neg (Nat.mul_le_mul_right Y u3)
        rw [(rnd_exact (P := Pb) (by omega) hBp m neg).1] at u4
        omega
      unfold kOut
      rw [if_pos big, if_pos ct]
    · have ek : kOut Wb Pb m neg X Y = infP Wb Pb - 1 := by unfold kOut; rw [if_pos c, if_neg ct]
      rw [ek, (second_at hb h' hs m neg (K := infP Wb Pb - 1) (by omega)).1]
      have top : ∀ V : Nat, plV Pb G ≤ V → infP W' P' - 1 ≤ rnd P' m neg V (2 ^ s) := fun V hV => by
        have := rnd_mono (P := P') (by omega) hs0 hs0 m neg (A := plV P' (infP W' P' - 1) * 2 ^ s) (A' := V) (Nat.mul_le_mul_right _ (by rw [← hv]; exact hV))
        rwa [(rnd_exact (P := P') (by omega) hs0 m neg).1] at this
      have t1 := top (plV Pb (infP Wb Pb - 1)) (ord.2 (by omega))
      have t2 := top (plV Pb (rnd Pb m neg X Y)) (ord.2 (by omega))
      rw [dr] at t2
      have kk : ∀ A B : Nat, infP W' P' - 1 ≤ rnd P' m neg A B → kOut W' P' m neg A B = infP W' P' - 1 := fun A B g => by
        unfold kOut
        by_cases c' : infP W' P' ≤ rnd P' m neg A B
        · rw [if_pos c', if_neg ct]
        · rw [if_neg c']; omega
      rw [kk _ _ t1, kk _ _ t2]
  · have ek : kOut Wb Pb m neg X Y = rnd Pb m neg X Y := by unfold kOut; rw [if_neg c]
    rw [ek, (second_at hb h' hs m neg (K := rnd Pb m neg X Y) (by omega)).1, hk2 _ _ _ _ dr]
end
end Go.Proofs.YtljoaomnajlglaaDoor.X
