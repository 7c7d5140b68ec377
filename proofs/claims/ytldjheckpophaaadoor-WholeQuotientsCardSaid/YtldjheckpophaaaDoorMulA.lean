/- Plain law: layer 7's product, by the classes of both operands. Conditions: the format is among the four, the mode is one of the six. -/
import Derived.Test.YtldjheckpophaaaDoorDivA
namespace Go.Proofs.YtldjheckpophaaaDoor.X
open Go Go.Rex
set_option linter.unusedVariables false

/-- A product by the classes c and d; r where both are numbers. -/
def mlR (c d N I Z : Int) (r : Int × Int × Int) : Int × Int × Int :=
  if c = 0 ∨ d = 0 then (N, 1, 0) else if c = 1 ∨ d = 1 then (N, 0, 0)
  else if ((c = 2 ∨ c = 9) ∧ (d = 5 ∨ d = 6)) ∨ ((c = 5 ∨ c = 6) ∧ (d = 2 ∨ d = 9)) then (N, 1, 0)
  else if c = 2 ∨ c = 9 ∨ d = 2 ∨ d = 9 then (I, 0, 0) else if c = 5 ∨ c = 6 ∨ d = 5 ∨ d = 6 then (Z, 0, 0) else r
section
variable {f : Int} {W P : Nat} {em ex : Int} (h : Fm f W P em ex)
include h
theorem mopen_at {a : Nat} (ha : a < 2 ^ W) (k : Nat) : mul_open k f (W : Int) (P : Int) em ex (a : Int) = some (clsOf W P (pk W a) (ps W a), (ps W a, (((fN P (pk W a / 2 ^ (P - 1)) (pk W a % 2 ^ (P - 1)) : Nat) : Int), (em - (P : Int) + 1 + (fQ (pk W a / 2 ^ (P - 1)) : Int), (0 : Int))))) := by
  have h53 := h.p53; have h8 := h.p8; have m0 := h.m0; have m1 := h.m1; have h11 := h.wp11
  obtain ⟨-, f2, -⟩ := field_top h ha
  have hwp : 2 ^ (W - P) ≤ 2 ^ 11 := pow_mono2 (by omega)
  have h211 : (2 : Nat) ^ 11 = 2048 := rfl
  have hF := Nat.mod_lt (pk W a) (Nat.two_pow_pos (P - 1))
  have h52 : 2 ^ (P - 1) ≤ 2 ^ 52 := pow_mono2 (by omega)
  have h52' : (2 : Nat) ^ 52 = 4503599627370496 := rfl
  rw [mul_open_eq, class_pk h ha, Option.bind_some, if_neg (nF rfl), fields_pk h ha, Option.bind_some]
  dsimp only
  generalize pk W a % 2 ^ (P - 1) = Fr at *
  generalize pk W a / 2 ^ (P - 1) = E at *
  by_cases c : E = 0
  · have e1 : IntKind.i64.wrap ((IntKind.i64.wrap ((IntKind.i64.wrap (0 + em)) - (P : Int))) + 1) = em - (P : Int) + 1 := by rw [wrapI (x := 0 + em) (by omega) (by omega), wrapI (x := 0 + em - (P : Int)) (by omega) (by omega), wrapI (by omega) (by omega)]; omega
    rw [if_pos (bT (by omega)), e1]
    subst c
    simp [fN, fQ]
  · have i2 : IntKind.i64.wrap ((P : Int) - 1) = ((P - 1 : Nat) : Int) := by rw [wrapI (by omega) (by omega)]; omega
    have eo : orK IntKind.u64 (Fr : Int) (shlK IntKind.u64 1 ((P - 1 : Nat) : Int)) = ((Fr + 2 ^ (P - 1) : Nat) : Int) := by
      have e := shlK_exact 1 (P - 1) (by omega) (by omega)
      rw [Nat.one_mul, show ((1 : Nat) : Int) = 1 from rfl] at e
      rw [e, orK_add' _ _ (P - 1) hF (Nat.mod_self _) (by omega)]
    have e1 : IntKind.i64.wrap ((IntKind.i64.wrap ((IntKind.i64.wrap ((IntKind.i64.wrap ((IntKind.i64.wrap (E : Int)) - 1)) + em)) - (P : Int))) + 1) = em - (P : Int) + 1 + ((E - 1 : Nat) : Int) := by
      rw [wrapI (x := (E : Int)) (by omega) (by omega), wrapI (x := (E : Int) - 1) (by omega) (by omega), wrapI (x := (E : Int) - 1 + em) (by omega) (by omega), wrapI (x := (E : Int) - 1 + em - (P : Int)) (by omega) (by omega), wrapI (by omega) (by omega)]; omega
    rw [if_neg (bF (by omega)), i2, if_pos (by omega), eo, e1]
    simp [fN, fQ, c]
theorem fN_facts {a : Nat} (ha : a < 2 ^ W) (h0 : pk W a ≠ 0) : fN P (pk W a / 2 ^ (P - 1)) (pk W a % 2 ^ (P - 1)) ≠ 0 ∧ fN P (pk W a / 2 ^ (P - 1)) (pk W a % 2 ^ (P - 1)) < 2 ^ 53 ∧ fQ (pk W a / 2 ^ (P - 1)) ≤ 2047 := by
  have h53 := h.p53; have h8 := h.p8; have h11 := h.wp11
  obtain ⟨-, f2, -⟩ := field_top h ha
  have hwp : 2 ^ (W - P) ≤ 2 ^ 11 := pow_mono2 (by omega)
  have h211 : (2 : Nat) ^ 11 = 2048 := rfl
  have hF := Nat.mod_lt (pk W a) (Nat.two_pow_pos (P - 1))
  have h52 : 2 ^ (P - 1) ≤ 2 ^ 52 := pow_mono2 (by omega)
  have h52' : (2 : Nat) ^ 52 = 4503599627370496 := rfl
  have h53' : (2 : Nat) ^ 53 = 9007199254740992 := rfl
  have hd := Nat.div_add_mod (pk W a) (2 ^ (P - 1))
  have hpp := Nat.two_pow_pos (P - 1)
  generalize pk W a % 2 ^ (P - 1) = Fr at *
  unfold fN fQ
  by_cases c : pk W a / 2 ^ (P - 1) = 0
  · rw [if_pos c, if_pos c]
    rw [c, Nat.mul_zero] at hd
    omega
  · rw [if_neg c, if_neg c]; omega
theorem Mul_ev' {m : Int} (hm : Md m) {a b : Nat} (ha : a < 2 ^ W) (hb : b < 2 ^ W) : Ev (fun k => mul_Mul k f m (a : Int) (b : Int)) (mlR (clsOf W P (pk W a) (ps W a)) (clsOf W P (pk W b) (ps W b)) ((infP W P + 2 ^ (P - 2) : Nat) : Int) ((infP W P + sgB (!(ps W a == ps W b)) W : Nat) : Int) ((sgB (!(ps W a == ps W b)) W : Nat) : Int)
    (paR W P em m (!(ps W a == ps W b)) (fN P (pk W a / 2 ^ (P - 1)) (pk W a % 2 ^ (P - 1)) * fN P (pk W b / 2 ^ (P - 1)) (pk W b % 2 ^ (P - 1))) (2 * (em - (P : Int) + 1) + (fQ (pk W a / 2 ^ (P - 1)) : Int) + (fQ (pk W b / 2 ^ (P - 1)) : Int)) false)) := by
  have h53 := h.p53; have h8 := h.p8; have m0 := h.m0; have m1 := h.m1; have hm0 := hm.m0; have hm5 := hm.m5
  have oa := mopen_at h ha
  have ob := mopen_at h hb
  have fa := fun g => fN_facts h ha g
  have fb := fun g => fN_facts h hb g
  obtain ⟨c, hc, hcc⟩ := cls_cases (W := W) (P := P) (p := pk W a) (neg := ps W a) (Nat.two_pow_pos _)
  obtain ⟨d, hd, hdd⟩ := cls_cases (W := W) (P := P) (p := pk W b) (neg := ps W b) (Nat.two_pow_pos _)
  rw [hc] at oa ⊢
  rw [hd] at ob ⊢
  refine Ev.congr (fun k => mul_Mul_eq k _ _ _ _) (Ev.bind (Ev.of fun k => params_at h k) (Ev.neg (nF rfl) (Ev.neg (dF (by omega)) (Ev.neg (dF (by omega)) (Ev.congr (fun k => mul_Mul.j0_eq k _ _ _ _ _ _ _ _) (Ev.bind (Ev.of oa) (Ev.neg (nF rfl) (Ev.bind (Ev.of ob) (Ev.neg (nF rfl) ?_)))))))))
  dsimp only
  generalize hn : (!(ps W a == ps W b)) = n at *
  generalize ps W a = sa at *
  generalize ps W b = sb at *
  generalize fN P (pk W a / 2 ^ (P - 1)) (pk W a % 2 ^ (P - 1)) = na at *
  generalize fN P (pk W b / 2 ^ (P - 1)) (pk W b % 2 ^ (P - 1)) = nb at *
  generalize fQ (pk W a / 2 ^ (P - 1)) = qa at *
  generalize fQ (pk W b / 2 ^ (P - 1)) = qb at *
  have last : pk W a ≠ 0 ∧ pk W a < infP W P → pk W b ≠ 0 ∧ pk W b < infP W P → Ev (fun k => (wide_Mul k (na : Int) (nb : Int)).bind fun o21 => (round_Parts k f m n o21.1 o21.2 (IntKind.i64.wrap (em - (P : Int) + 1 + (qa : Int) + (em - (P : Int) + 1 + (qb : Int)))) false).bind fun o22 => some (o22.1, (o22.2.1, o22.2.2))) (paR W P em m n (na * nb) (2 * (em - (P : Int) + 1) + (qa : Int) + (qb : Int)) false) := fun g1 g2 => by
    obtain ⟨x1, x2, x3⟩ := fa g1.1
    obtain ⟨y1, y2, y3⟩ := fb g2.1
    have h53' : (2 : Nat) ^ 53 = 9007199254740992 := rfl
    have hlt : na * nb < 18446744073709551616 * 18446744073709551616 := Nat.mul_lt_mul'' (by omega) (by omega)
    have hdm := Nat.mod_add_div (na * nb) 18446744073709551616
    have pp := Parts_ev h hm (hi := na * nb / 18446744073709551616) (lo := na * nb % 18446744073709551616) (Nat.div_lt_of_lt_mul hlt) (Nat.mod_lt _ (by decide)) (2 * (em - (P : Int) + 1) + (qa : Int) + (qb : Int)) n false
    rw [hdm] at pp
    refine Ev.bind (Ev.congr (fun k => wide_Mul_eq k _ _) (Ev.bind (mul64_ev (by omega) (by omega)) (Ev.some _))) ?_
    dsimp only
    rw [wrapI (by omega) (by omega), show em - (P : Int) + 1 + (qa : Int) + (em - (P : Int) + 1 + (qb : Int)) = 2 * (em - (P : Int) + 1) + (qa : Int) + (qb : Int) by omega]
    exact Ev.bind pp (Ev.some _)
  generalize paR W P em m n (na * nb) (2 * (em - (P : Int) + 1) + (qa : Int) + (qb : Int)) false = r at *
  have nn := nan_at h
  have ii := inf_at h
  have zz := zero_at h
  rcases hcc with rfl | rfl | ⟨rfl, -⟩ | ⟨rfl, -⟩ | ⟨rfl, -⟩ | ⟨rfl, -⟩ | ⟨rfl, -, g1⟩ | ⟨rfl, -, g1⟩ | ⟨rfl, -, g1⟩ | ⟨rfl, -, g1⟩ <;> rcases hdd with rfl | rfl | ⟨rfl, -⟩ | ⟨rfl, -⟩ | ⟨rfl, -⟩ | ⟨rfl, -⟩ | ⟨rfl, -, g2⟩ | ⟨rfl, -, g2⟩ | ⟨rfl, -, g2⟩ | ⟨rfl, -, g2⟩ <;>
    first
    | (refine Ev.congr (fun k => ?_) (last g1 g2); simp [mul_operand_nan_eq, mul_operand_inf_eq, mul_operand_zero_eq, mul_Mul.j1_eq, mul_Mul.j3_eq, mul_Mul.j4_eq, mul_Mul.j5_eq])
    | (refine Ev.of fun k => ?_; simp [mul_operand_nan_eq, mul_operand_inf_eq, mul_operand_zero_eq, mul_Mul.j1_eq, mul_Mul.j2_eq, mul_Mul.j3_eq, mul_Mul.j4_eq, mul_Mul.j5_eq, nn, ii, zz, mlR])
end
end Go.Proofs.YtldjheckpophaaaDoor.X
