/- Plain law: the reference's formats: parts, kinds and numbers of patterns. Conditions: the format is one of the four. -/
import Derived.Test.YtbaaggmicpigeaaDoorRfD
import Derived.Test.YtbaaggmicpigeaaDoorRnC
namespace Go.Proofs.YtbaaggmicpigeaaDoor.X
open Go Go.Rex
set_option linter.unusedVariables false

section
variable {f : Int} {W P : Nat} {em ex : Int} (h : Fm f W P em ex)
include h
theorem rcheck_at (k a : Nat) (ha : a < 18446744073709551616) : vernierref04_Check k f (a : Int) = some (if a < 2 ^ W then 0 else 4) := by
  have h3 := h.wp; have h64 := h.w64; have h8 := h.p8
  rw [vernierref04_Check_eq, row_at h, Option.bind_some, if_neg (notF rfl)]
  show (if (decide ((W : Int) < 64)) = true then (if 0 ≤ (IntKind.u64.wrap (W : Int)) then (if ((shrK IntKind.u64 (a : Int) (IntKind.u64.wrap (W : Int))) != 0) = true then some 4 else some 0) else none) else some 0) = _
  by_cases c : (W : Int) < 64
  · rw [if_pos (dT c), wrapUn (by omega), if_pos (by omega), shrK_nat a W h64]
    by_cases c2 : a < 2 ^ W
    · rw [Nat.div_eq_of_lt c2, if_neg (show ¬ ((((0 : Nat) : Int) != 0) = true) by decide), if_pos c2]
    · have := Nat.div_pos (Nat.le_of_not_lt c2) (Nat.two_pow_pos W)
      rw [if_pos (nT (by omega)), if_neg c2]
  · have hW : W = 64 := by omega
    rw [if_neg (dF c), if_pos (by rw [hW]; omega)]
variable {a : Nat} (ha : a < 2 ^ W)
include ha
theorem rparts_at (k : Nat) : vernierref04_Parts k f (a : Int) = some ((if ps W a then 1 else 0), (((pk W a / 2 ^ (P - 1) : Nat) : Int), (((pk W a % 2 ^ (P - 1) : Nat) : Int), ((eTop W P : Nat) : Int)))) := by
  have h3 := h.wp; have h64 := h.w64; have h8 := h.p8; have h53 := h.p53; have m0 := h.m0; have m1 := h.m1
  obtain ⟨x1, x2, x3⟩ := fm_ex h
  obtain ⟨p1, p2, p3, p4, p5, p6⟩ := pat_parts h ha
  have hpp := Nat.two_pow_pos (P - 1)
  have hp52 : 2 ^ (P - 1) ≤ 2 ^ 52 := pow_mono2 (by omega)
  have e1 : IntKind.u64.wrap (IntKind.i64.wrap ((W : Int) - 1)) = ((W - 1 : Nat) : Int) := by rw [wrapI (by omega) (by omega), wrap_u64]; omega
  have e2 : IntKind.u64.wrap (IntKind.i64.wrap ((P : Int) - 1)) = ((P - 1 : Nat) : Int) := by rw [wrapI (by omega) (by omega), wrap_u64]; omega
  have et : IntKind.u64.wrap (IntKind.i64.wrap ((IntKind.i64.wrap (2 * ex)) + 1)) = ((2 ^ (W - P) - 1 : Nat) : Int) := by
    rw [wrapI (x := 2 * ex) (by omega) (by omega), wrapI (by omega) (by omega), wrap_u64]
    have := Nat.two_pow_pos (W - P); omega
  have e3 : shlK .u64 1 ((P - 1 : Nat) : Int) = ((2 ^ (P - 1) : Nat) : Int) := by
    have := shlK_exact 1 (P - 1) (by omega) (by omega)
    rwa [show ((1 : Nat) : Int) = 1 from rfl, Nat.one_mul] at this
  rw [vernierref04_Parts_eq, row_at h, Option.bind_some]
  show (if 0 ≤ (IntKind.u64.wrap (IntKind.i64.wrap ((W : Int) - 1))) then (if 0 ≤ (IntKind.u64.wrap (IntKind.i64.wrap ((P : Int) - 1))) then (if 0 ≤ (IntKind.u64.wrap (IntKind.i64.wrap ((P : Int) - 1))) then (if (shlK IntKind.u64 1 (IntKind.u64.wrap (IntKind.i64.wrap ((P : Int) - 1)))) = 0 then none else some ((andK IntKind.u64 (shrK IntKind.u64 (a : Int) (IntKind.u64.wrap (IntKind.i64.wrap ((W : Int) - 1)))) 1), ((andK IntKind.u64 (shrK IntKind.u64 (a : Int) (IntKind.u64.wrap (IntKind.i64.wrap ((P : Int) - 1)))) (IntKind.u64.wrap (IntKind.i64.wrap ((IntKind.i64.wrap (2 * ex)) + 1)))), (((a : Int).tmod (shlK IntKind.u64 1 (IntKind.u64.wrap (IntKind.i64.wrap ((P : Int) - 1))))), (IntKind.u64.wrap (IntKind.i64.wrap ((IntKind.i64.wrap (2 * ex)) + 1))))))) else none) else none) else none) = _
  have hs : a / 2 ^ (W - 1) < 2 := Nat.div_lt_of_lt_mul (by rw [Nat.mul_comm, ← pow_half (show 1 ≤ W by omega)]; exact ha)
  have hsg : (((a / 2 ^ (W - 1) : Nat) : Int)) = if ps W a then 1 else 0 := by
    rw [← p3]
    rcases (show a / 2 ^ (W - 1) = 0 ∨ a / 2 ^ (W - 1) = 1 by have := Nat.zero_le (a / 2 ^ (W - 1)); omega) with e | e <;> rw [e] <;> rfl
  have ha1 := andK_mask (a / 2 ^ (W - 1)) 1 (by omega) (by omega)
  have ha2 := andK_mask (a / 2 ^ (P - 1)) (W - P) (by omega) (Nat.lt_of_le_of_lt (Nat.div_le_self _ _) p6)
  have ha1' : andK .u64 ((a / 2 ^ (W - 1) : Nat) : Int) 1 = (if ps W a then 1 else 0) := by
    have : ((2 ^ 1 - 1 : Nat) : Int) = 1 := rfl
    rw [this] at ha1
    rw [ha1, ← hsg]; congr 1; omega
  rw [e1, e2, et, e3, if_pos (by omega), if_pos (by omega), if_pos (by omega), if_neg (by omega), shrK_nat a (W - 1) (by omega), shrK_nat a (P - 1) (by omega), ha1', ha2, tmod_nat, p1, p2]
  rfl
theorem rnum_at (k : Nat) : vernierref04_Number k f (a : Int) = some (((fN P (pk W a / 2 ^ (P - 1)) (pk W a % 2 ^ (P - 1)) : Nat) : Int), (fQ (pk W a / 2 ^ (P - 1)) : Int) + (em - (P : Int) + 1)) := by
  have h3 := h.wp; have h64 := h.w64; have h8 := h.p8; have h53 := h.p53; have m0 := h.m0; have m1 := h.m1; have h11 := h.wp11
  obtain ⟨f1, f2, f3⟩ := field_top h ha
  have hpp := Nat.two_pow_pos (P - 1)
  have hp52 : 2 ^ (P - 1) ≤ 2 ^ 52 := pow_mono2 (by omega)
  have hw11 : 2 ^ (W - P) ≤ 2 ^ 11 := pow_mono2 (by omega)
  have hlt := Nat.mod_lt (pk W a) hpp
  have e2 : IntKind.u64.wrap (IntKind.i64.wrap ((P : Int) - 1)) = ((P - 1 : Nat) : Int) := by rw [wrapI (by omega) (by omega), wrap_u64]; omega
  have e3 : shlK .u64 1 ((P - 1 : Nat) : Int) = ((2 ^ (P - 1) : Nat) : Int) := by
    have := shlK_exact 1 (P - 1) (by omega) (by omega)
    rwa [show ((1 : Nat) : Int) = 1 from rfl, Nat.one_mul] at this
  rw [vernierref04_Number_eq, row_at h, Option.bind_some, rparts_at h ha, Option.bind_some]
  generalize pk W a / 2 ^ (P - 1) = E at *
  generalize pk W a % 2 ^ (P - 1) = F at *
  show (if ((E : Int) == 0) = true then some ((F : Int), (IntKind.i64.wrap ((IntKind.i64.wrap (em - (P : Int))) + 1))) else (if 0 ≤ (IntKind.u64.wrap (IntKind.i64.wrap ((P : Int) - 1))) then some ((IntKind.u64.wrap ((shlK IntKind.u64 1 (IntKind.u64.wrap (IntKind.i64.wrap ((P : Int) - 1)))) + (F : Int))), (IntKind.i64.wrap ((IntKind.i64.wrap ((IntKind.i64.wrap ((IntKind.i64.wrap ((IntKind.i64.wrap (E : Int)) - 1)) + em)) - (P : Int))) + 1))) else none)) = _
  unfold fN fQ
  by_cases c : E = 0
  · rw [if_pos (bT (by omega)), if_pos c, if_pos c, wrapI (x := em - (P : Int)) (by omega) (by omega), wrapI (by omega) (by omega)]
    congr 2; omega
  · rw [if_neg (bF (by omega)), if_neg c, if_neg c, e2, e3, if_pos (by omega), wrapI (x := (E : Int)) (by omega) (by omega), wrapI (x := (E : Int) - 1) (by omega) (by omega), wrapI (x := (E : Int) - 1 + em) (by omega) (by omega), wrapI (x := (E : Int) - 1 + em - (P : Int)) (by omega) (by omega), wrapI (by omega) (by omega), wrap_u64]
    congr 2
    · omega
    · omega
theorem risnan_at (k : Nat) : vernierref04_IsNaN k f (a : Int) = some (decide (infP W P < pk W a)) := by
  obtain ⟨f1, f2, f3⟩ := field_top h ha
  rw [vernierref04_IsNaN_eq, rparts_at h ha, Option.bind_some]
  show (if (((pk W a / 2 ^ (P - 1) : Nat) : Int) == ((eTop W P : Nat) : Int)) = true then some (((pk W a % 2 ^ (P - 1) : Nat) : Int) != 0) else some false) = _
  by_cases c : infP W P ≤ pk W a
  · have := f3 c
    rw [f1.2 c, if_pos (bT rfl)]
    by_cases c2 : pk W a % 2 ^ (P - 1) = 0
    · rw [c2, decide_eq_false (by omega)]; rfl
    · rw [decide_eq_true (by omega), nT (by omega)]
  · rw [if_neg (bF (fun e => c (f1.1 (Int.natCast_inj.1 e)))), decide_eq_false (by omega)]
theorem risinf_at (k : Nat) : vernierref04_IsInf k f (a : Int) = some (decide (pk W a = infP W P)) := by
  obtain ⟨f1, f2, f3⟩ := field_top h ha
  rw [vernierref04_IsInf_eq, rparts_at h ha, Option.bind_some]
  show (if (((pk W a / 2 ^ (P - 1) : Nat) : Int) == ((eTop W P : Nat) : Int)) = true then some (((pk W a % 2 ^ (P - 1) : Nat) : Int) == 0) else some false) = _
  by_cases c : infP W P ≤ pk W a
  · have := f3 c
    rw [f1.2 c, if_pos (bT rfl)]
    by_cases c2 : pk W a % 2 ^ (P - 1) = 0
    · rw [c2, decide_eq_true (by omega)]; rfl
    · rw [decide_eq_false (by omega), beq_eq_false_iff_ne.2 (by omega)]
  · rw [if_neg (bF (fun e => c (f1.1 (Int.natCast_inj.1 e)))), decide_eq_false (by omega)]
theorem rsg_at (k : Nat) : vernierref04_Sign k f (a : Int) = some (if ps W a then 1 else 0) := by
  rw [vernierref04_Sign_eq, rparts_at h ha, Option.bind_some]
end
end Go.Proofs.YtbaaggmicpigeaaDoor.X
