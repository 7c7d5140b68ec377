/- Plain law: the formats' rows and their special patterns: infinities, zeros, the greatest, the NaN. Conditions: the format is one of the four. -/
import Derived.Test.YtmoeaeflljpboaaDoorFmR
namespace Go.Proofs.YtmoeaeflljpboaaDoor.X
open Go Go.Rex
set_option linter.unusedVariables false

theorem fm_cases {f : Int} {W P : Nat} {em ex : Int} (h : Fm f W P em ex) : (f = 0 ∧ W = 16 ∧ P = 11 ∧ em = -14 ∧ ex = 15) ∨ (f = 1 ∧ W = 16 ∧ P = 8 ∧ em = -126 ∧ ex = 127) ∨ (f = 2 ∧ W = 32 ∧ P = 24 ∧ em = -126 ∧ ex = 127) ∨ (f = 3 ∧ W = 64 ∧ P = 53 ∧ em = -1022 ∧ ex = 1023) := by
  have h0 := h.f0
  have h4 := h.f4
  have hr := h.row
  have : f = 0 ∨ f = 1 ∨ f = 2 ∨ f = 3 := by omega
  rcases this with rfl | rfl | rfl | rfl
  all_goals
    simp [rowsT] at hr
    omega
theorem fm_row {f : Int} (h0 : 0 ≤ f) (h4 : f < 4) : ∃ W P em ex, Fm f W P em ex := fm_of h0 h4
/-- The greatest exponent's field. -/
def eTop (W P : Nat) : Nat := 2 ^ (W - P) - 1
def infP (W P : Nat) : Nat := eTop W P * 2 ^ (P - 1)
def sgB (neg : Bool) (W : Nat) : Nat := if neg then 2 ^ (W - 1) else 0
/-- What lies beyond, without a sign. -/
def toInf (m : Int) (neg : Bool) : Bool := m == 0 || m == 1 || m == 3 && !neg || m == 4 && neg
def beyN (W P : Nat) (m : Int) (neg : Bool) : Nat := (if toInf m neg then infP W P else infP W P - 1) + sgB neg W
theorem eTop_lt (W P : Nat) : eTop W P < 2 ^ (W - P) := by have := Nat.two_pow_pos (W - P); unfold eTop; omega
theorem sgB_le (W : Nat) (neg : Bool) : sgB neg W ≤ 2 ^ (W - 1) := by
  unfold sgB
  split
  · exact Nat.le_refl _
  · exact Nat.zero_le _
section
variable {f : Int} {W P : Nat} {em ex : Int} (h : Fm f W P em ex)
include h
theorem fm_ex : ex = 1 - em ∧ ((2 ^ (W - P) : Nat) : Int) = 2 * ex + 2 ∧ eTop W P = (2 * ex + 1).toNat := by
  rcases fm_cases h with ⟨rfl, rfl, rfl, rfl, rfl⟩ | ⟨rfl, rfl, rfl, rfl, rfl⟩ | ⟨rfl, rfl, rfl, rfl, rfl⟩ | ⟨rfl, rfl, rfl, rfl, rfl⟩ <;> decide
theorem infP_le : infP W P + 2 ^ (P - 1) = 2 ^ (W - 1) := by
  have h3 := h.wp; have h8 := h.p8
  unfold infP eTop
  have : 2 ^ (W - 1) = 2 ^ (W - P) * 2 ^ (P - 1) := by rw [← Nat.pow_add]; congr 1; omega
  have h1 := Nat.two_pow_pos (W - P)
  rw [this]
  generalize 2 ^ (P - 1) = T
  obtain ⟨x, hx⟩ : ∃ x, 2 ^ (W - P) = x + 1 := ⟨2 ^ (W - P) - 1, by omega⟩
  rw [hx, Nat.add_mul, show x + 1 - 1 = x by omega]; omega
theorem wW : 2 ^ W = 2 * 2 ^ (W - 1) ∧ 2 ^ W ≤ 18446744073709551616 ∧ 2 ^ (P - 1) * 32 ≤ 2 ^ (W - 1) ∧ 128 ≤ 2 ^ (P - 1) := by
  have h1 := h.w64; have h2 := h.p8; have h3 := h.wp
  refine ⟨?_, pow_mono2 (b := 64) h1, ?_, pow_mono2 (a := 7) (by omega)⟩
  · rw [show W = (W - 1) + 1 by omega, Nat.pow_succ, Nat.mul_comm]; rfl
  · rw [show 32 = 2 ^ 5 from rfl, ← Nat.pow_add]; exact pow_mono2 (by omega)
/-- A field's bits, put together. -/
theorem join_at (k : Nat) {E F : Nat} (hE : E < 2 ^ (W - P)) (hF : F < 2 ^ (P - 1)) (x y : Int) (neg : Bool) : format_join k (W : Int) (P : Int) x y neg (E : Int) (F : Int) = some ((E * 2 ^ (P - 1) + F + sgB neg W : Nat) : Int) := by
  have h1 := h.w64; have h2 := h.p8; have h3 := h.wp; have h4 := h.p53
  obtain ⟨w1, w2, w3, w4⟩ := wW h
  have e1 : IntKind.i64.wrap ((W : Int) - 1) = ((W - 1 : Nat) : Int) := by rw [wrapI] <;> omega
  have e2 : IntKind.i64.wrap ((P : Int) - 1) = ((P - 1 : Nat) : Int) := by rw [wrapI] <;> omega
  have hpw : 2 ^ (W - 1) = 2 ^ (W - P) * 2 ^ (P - 1) := by rw [← Nat.pow_add]; congr 1; omega
  have hm : E * 2 ^ (P - 1) + 2 ^ (P - 1) ≤ 2 ^ (W - 1) := by
    have := Nat.mul_le_mul_right (2 ^ (P - 1)) (show E + 1 ≤ 2 ^ (W - P) from hE)
    rw [Nat.add_mul, Nat.one_mul] at this; omega
  have s1 := shlK_exact E (P - 1) (by omega) (by omega)
  have o1 := orK_add (E * 2 ^ (P - 1)) F (P - 1) hF (Nat.mul_mod_left _ _) (by omega)
  have s2 := shlK_exact 1 (W - 1) (by omega) (by omega)
  rw [show ((1 : Nat) : Int) = 1 from rfl, Nat.one_mul] at s2
  have o2 := orK_add' (E * 2 ^ (P - 1) + F) (2 ^ (W - 1)) (W - 1) (by omega) (Nat.mod_self _) (by omega)
  rw [format_join_eq, e1, e2, if_pos (by omega), s1, o1]
  cases neg
  · rw [if_neg (by simp), show sgB false W = 0 from rfl, Nat.add_zero]
  · rw [if_pos rfl, if_pos (by omega), s2, o2, show sgB true W = 2 ^ (W - 1) from rfl]
theorem ones_e (k : Nat) : format_ones k (IntKind.i64.wrap ((W : Int) - (P : Int))) = some ((eTop W P : Nat) : Int) := by
  have h1 := h.w64; have h2 := h.p8; have h3 := h.wp
  have e3 : IntKind.i64.wrap ((W : Int) - (P : Int)) = ((W - P : Nat) : Int) := by rw [wrapI] <;> omega
  rw [e3, ones_at k _ (by omega)]; rfl
theorem eTop_le : eTop W P ≤ 2047 ∧ 31 ≤ eTop W P := by
  have h3 := h.wp; have h4 := h.wp11
  have h1 : 2 ^ (W - P) ≤ 2 ^ 11 := pow_mono2 (by omega)
  have h2 : 2 ^ 5 ≤ 2 ^ (W - P) := pow_mono2 (by omega)
  unfold eTop; omega
theorem inf_at (k : Nat) (neg : Bool) : format_Infinity k f neg = some (((infP W P + sgB neg W : Nat) : Int), (0 : Int)) := by
  have hp := Nat.two_pow_pos (P - 1)
  have hl := (eTop_le h).1
  rw [format_Infinity_eq, format_special_none_none_eq, params_at h]
  simp -implicitDefEqProofs only [Option.bind_some]
  rw [if_neg (nF rfl), ones_e h]
  simp -implicitDefEqProofs only [Option.bind_some]
  rw [format_none_eq]
  simp -implicitDefEqProofs only [Option.bind_some]
  have e : IntKind.u64.wrap (((eTop W P : Nat) : Int) - 0) = ((eTop W P : Nat) : Int) := by rw [wrap_u64]; omega
  rw [e]
  have := join_at h k (E := eTop W P) (F := 0) (eTop_lt W P) hp em ex neg
  rw [show ((0 : Nat) : Int) = 0 from rfl, Nat.add_zero] at this
  rw [this]
  simp -implicitDefEqProofs only [Option.bind_some, infP]
theorem great_at (k : Nat) (neg : Bool) : format_Greatest k f neg = some (((infP W P - 1 + sgB neg W : Nat) : Int), (0 : Int)) := by
  have hp := Nat.two_pow_pos (P - 1)
  have hl := eTop_le h
  have h2 := h.p8; have h4 := h.p53
  rw [format_Greatest_eq, format_special_one_fraction_eq, params_at h]
  simp -implicitDefEqProofs only [Option.bind_some]
  rw [if_neg (nF rfl), ones_e h]
  simp -implicitDefEqProofs only [Option.bind_some]
  rw [format_one_eq, format_fraction_eq]
  simp -implicitDefEqProofs only [Option.bind_some]
  have e2 : IntKind.i64.wrap ((P : Int) - 1) = ((P - 1 : Nat) : Int) := by rw [wrapI] <;> omega
  rw [e2, ones_at k _ (by omega)]
  simp -implicitDefEqProofs only [Option.bind_some]
  have e : IntKind.u64.wrap (((eTop W P : Nat) : Int) - 1) = ((eTop W P - 1 : Nat) : Int) := by rw [wrap_u64]; omega
  rw [e, join_at h k (E := eTop W P - 1) (F := 2 ^ (P - 1) - 1) (by have := eTop_lt W P; omega) (by omega) em ex neg]
  have e3 : (eTop W P - 1) * 2 ^ (P - 1) + (2 ^ (P - 1) - 1) = infP W P - 1 := by
    unfold infP
    obtain ⟨x, hx⟩ : ∃ x, eTop W P = x + 1 := ⟨eTop W P - 1, by omega⟩
    rw [hx, show x + 1 - 1 = x by omega, Nat.add_mul]; omega
  rw [e3]
  simp -implicitDefEqProofs only [Option.bind_some]
theorem zero_at (k : Nat) (neg : Bool) : format_Zero k f neg = some (((sgB neg W : Nat) : Int), (0 : Int)) := by
  have hp := Nat.two_pow_pos (P - 1)
  rw [format_Zero_eq, format_special_all_none_eq, params_at h]
  simp -implicitDefEqProofs only [Option.bind_some]
  rw [if_neg (nF rfl), ones_e h]
  simp -implicitDefEqProofs only [Option.bind_some]
  rw [format_none_eq, format_all_eq, ones_e h]
  simp -implicitDefEqProofs only [Option.bind_some]
  have e : IntKind.u64.wrap (((eTop W P : Nat) : Int) - ((eTop W P : Nat) : Int)) = ((0 : Nat) : Int) := by rw [wrap_u64]; omega
  rw [e]
  have := join_at h k (E := 0) (F := 0) (Nat.two_pow_pos _) hp em ex neg
  rw [show ((0 : Nat) : Int) = 0 from rfl] at this ⊢
  rw [this]
  simp -implicitDefEqProofs only [Option.bind_some, Nat.zero_mul, Nat.zero_add]
theorem nan_at (k : Nat) : format_NaN k f = some (((infP W P + 2 ^ (P - 2) : Nat) : Int), (0 : Int)) := by
  have h2 := h.p8; have h4 := h.p53
  have hp : 2 ^ (P - 2) < 2 ^ (P - 1) := Nat.pow_lt_pow_right (by decide) (by omega)
  have hq : 2 ^ (P - 1) < 18446744073709551616 := Nat.pow_lt_pow_right (m := P - 1) (n := 64) (by decide) (by omega)
  have hl := (eTop_le h).1
  rw [format_NaN_eq, format_special_none_top_eq, params_at h]
  simp -implicitDefEqProofs only [Option.bind_some]
  rw [if_neg (nF rfl), ones_e h]
  simp -implicitDefEqProofs only [Option.bind_some]
  rw [format_none_eq, format_top_eq]
  simp -implicitDefEqProofs only [Option.bind_some]
  have e2 : IntKind.i64.wrap ((P : Int) - 2) = ((P - 2 : Nat) : Int) := by rw [wrapI] <;> omega
  have s2 := shlK_exact 1 (P - 2) (by omega) (by omega)
  rw [show ((1 : Nat) : Int) = 1 from rfl, Nat.one_mul] at s2
  have e : IntKind.u64.wrap (((eTop W P : Nat) : Int) - 0) = ((eTop W P : Nat) : Int) := by rw [wrap_u64]; omega
  rw [e2, if_pos (by omega), s2, e]
  simp -implicitDefEqProofs only [Option.bind_some]
  rw [join_at h k (E := eTop W P) (F := 2 ^ (P - 2)) (eTop_lt W P) hp em ex false, show sgB false W = 0 from rfl, Nat.add_zero]
  simp -implicitDefEqProofs only [Option.bind_some, infP]
theorem beyond_at (k : Nat) (m : Int) (neg : Bool) : round_beyond k f m neg = some ((beyN W P m neg : Nat) : Int) := by
  have j0 : ∀ b : Bool, round_beyond.j0 k f neg b = some (((if b then infP W P else infP W P - 1) + sgB neg W : Nat) : Int) := by
    intro b
    rw [round_beyond.j0_eq]
    cases b
    · rw [if_neg (by simp), great_at h, Option.bind_some, if_neg (by simp)]
    · rw [if_pos rfl, inf_at h, Option.bind_some, if_pos rfl]
  rw [round_beyond_eq]
  unfold beyN toInf
  by_cases c0 : m = 0
  · subst c0; rw [if_pos (bT rfl), j0]; simp
  · rw [if_neg (bF c0)]
    by_cases c1 : m = 1
    · subst c1; rw [if_pos (bT rfl), j0]; simp
    · rw [if_neg (bF c1)]
      by_cases c3 : m = 3
      · subst c3
        rw [if_pos (bT rfl)]
        cases neg
        · rw [if_pos (show (!false) = true from rfl), j0]; simp
        · rw [if_neg (by simp), if_neg (bF (by decide)), j0]; simp
      · rw [if_neg (bF c3)]
        by_cases c4 : m = 4
        · subst c4; rw [if_pos (bT rfl), j0]; simp
        · rw [if_neg (bF c4), j0]; simp [c0, c1, c3, c4]
end
end Go.Proofs.YtmoeaeflljpboaaDoor.X
