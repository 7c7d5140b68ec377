/- Plain law: the helpers of the laws of layer 14. Conditions: the formats are among the four. -/
import Derived.Test.YtljoaomnajlglaaDoorNwA
import Derived.Test.YtljoaomnajlglaaDoorRnC
namespace Go.Proofs.YtljoaomnajlglaaDoor.X
open Go Go.Rex
set_option linter.unusedVariables false

abbrev TurnTy : Ty := .pair (.int .i64) (.pair (.int .i64) (.pair (.int .i64) (.pair (.int .i64) (.pair (.int .i64) (.int .u64)))))
theorem good_ev (a0 a1 a2 a3 a4 a5 : Int) : ∃ b, Ev (fun k => vernierlaw14_good k a0 a1 a2 a3 a4 a5) b ∧ (b = true → (0 ≤ a0 ∧ a0 < 4) ∧ (0 ≤ a1 ∧ a1 < 4) ∧ (0 ≤ a2 ∧ a2 < 4) ∧ Md a3 ∧ Md a4) := by
  by_cases c0 : a0 ≥ 0
  · by_cases c1 : a0 ≤ 3
    · by_cases c2 : a1 ≥ 0
      · by_cases c3 : a1 ≤ 3
        · by_cases c4 : a2 ≥ 0
          · by_cases c5 : a2 ≤ 3
            · by_cases c6 : a3 ≥ 0
              · by_cases c7 : a3 ≤ 5
                · by_cases c8 : a4 ≥ 0
                  · refine ⟨_, Ev.congr (fun k => vernierlaw14_good_eq k _ _ _ _ _ _) (Ev.pos (dT c0) (Ev.pos (dT c1) (Ev.pos (dT c2) (Ev.pos (dT c3) (Ev.pos (dT c4) (Ev.pos (dT c5) (Ev.pos (dT c6) (Ev.pos (dT c7) (Ev.pos (dT c8) (Ev.some _)))))))))), fun e => ?_⟩
                    have := of_decide_eq_true e
                    exact ⟨by omega, by omega, by omega, ⟨by omega, by omega⟩, ⟨by omega, by omega⟩⟩
                  · exact ⟨false, Ev.congr (fun k => vernierlaw14_good_eq k _ _ _ _ _ _) (Ev.pos (dT c0) (Ev.pos (dT c1) (Ev.pos (dT c2) (Ev.pos (dT c3) (Ev.pos (dT c4) (Ev.pos (dT c5) (Ev.pos (dT c6) (Ev.pos (dT c7) (Ev.neg (dF c8) (Ev.some _)))))))))), fun e => by cases e⟩
                · exact ⟨false, Ev.congr (fun k => vernierlaw14_good_eq k _ _ _ _ _ _) (Ev.pos (dT c0) (Ev.pos (dT c1) (Ev.pos (dT c2) (Ev.pos (dT c3) (Ev.pos (dT c4) (Ev.pos (dT c5) (Ev.pos (dT c6) (Ev.neg (dF c7) (Ev.some _))))))))), fun e => by cases e⟩
              · exact ⟨false, Ev.congr (fun k => vernierlaw14_good_eq k _ _ _ _ _ _) (Ev.pos (dT c0) (Ev.pos (dT c1) (Ev.pos (dT c2) (Ev.pos (dT c3) (Ev.pos (dT c4) (Ev.pos (dT c5) (Ev.neg (dF c6) (Ev.some _)))))))), fun e => by cases e⟩
            · exact ⟨false, Ev.congr (fun k => vernierlaw14_good_eq k _ _ _ _ _ _) (Ev.pos (dT c0) (Ev.pos (dT c1) (Ev.pos (dT c2) (Ev.pos (dT c3) (Ev.pos (dT c4) (Ev.neg (dF c5) (Ev.some _))))))), fun e => by cases e⟩
          · exact ⟨false, Ev.congr (fun k => vernierlaw14_good_eq k _ _ _ _ _ _) (Ev.pos (dT c0) (Ev.pos (dT c1) (Ev.pos (dT c2) (Ev.pos (dT c3) (Ev.neg (dF c4) (Ev.some _)))))), fun e => by cases e⟩
        · exact ⟨false, Ev.congr (fun k => vernierlaw14_good_eq k _ _ _ _ _ _) (Ev.pos (dT c0) (Ev.pos (dT c1) (Ev.pos (dT c2) (Ev.neg (dF c3) (Ev.some _))))), fun e => by cases e⟩
      · exact ⟨false, Ev.congr (fun k => vernierlaw14_good_eq k _ _ _ _ _ _) (Ev.pos (dT c0) (Ev.pos (dT c1) (Ev.neg (dF c2) (Ev.some _)))), fun e => by cases e⟩
    · exact ⟨false, Ev.congr (fun k => vernierlaw14_good_eq k _ _ _ _ _ _) (Ev.pos (dT c0) (Ev.neg (dF c1) (Ev.some _))), fun e => by cases e⟩
  · exact ⟨false, Ev.congr (fun k => vernierlaw14_good_eq k _ _ _ _ _ _) (Ev.neg (dF c0) (Ev.some _)), fun e => by cases e⟩
section
variable {f : Int} {W P : Nat} {em ex : Int} (h : Fm f W P em ex)
include h
theorem cut14_ev {x : Nat} (hx : x < 18446744073709551616) : Ev (fun k => vernierlaw14_cut k f (x : Int)) ((x % 2 ^ W : Nat) : Int) := by
  have h8 := h.p8; have h3 := h.wp; have h64 := h.w64
  refine Ev.congr (fun k => vernierlaw14_cut_eq k _ _) (Ev.bind (Ev.of fun k => params_at h k) (Ev.neg (dF ?_) (Ev.neg (dF ?_) ?_)))
  · show ¬ ((W : Int) < 1); omega
  · show ¬ ((W : Int) > 64); omega
  show Ev (fun k => (if 0 ≤ (IntKind.u64.wrap (IntKind.i64.wrap (64 - (W : Int)))) then (if 0 ≤ (IntKind.u64.wrap (IntKind.i64.wrap (64 - (W : Int)))) then some (shrK IntKind.u64 (shlK IntKind.u64 (x : Int) (IntKind.u64.wrap (IntKind.i64.wrap (64 - (W : Int))))) (IntKind.u64.wrap (IntKind.i64.wrap (64 - (W : Int))))) else none) else none)) _
  have ew : IntKind.u64.wrap (IntKind.i64.wrap (64 - (W : Int))) = ((64 - W : Nat) : Int) := by
    rw [wrapI (by omega) (by omega), wrap_u64]; omega
  rw [ew, cut_low x W h64]
  exact Ev.pos (by omega) (Ev.pos (by omega) (Ev.some _))
theorem inf_big : 31 ≤ infP W P ∧ infP W P < 2 ^ (W - 1) ∧ 1 ≤ W := by
  have := (eTop_le h).2
  have hip := infP_le h
  have hpp := Nat.two_pow_pos (P - 1)
  have h8 := h.p8; have h3 := h.wp
  exact ⟨Nat.le_trans this (Nat.le_mul_of_pos_right _ hpp), by omega, by omega⟩
end
/-- The place of a conversion of what is no NaN. -/
def cvK (W P : Nat) (em : Int) (W' P' : Nat) (em' m : Int) (k : Nat) (neg : Bool) : Nat :=
  if k = infP W P then infP W' P' else if k = 0 then 0 else kOut W' P' m neg (rA (plV P k) (em - (P : Int) + 1) (em' - (P' : Int) + 1)) (rB 1 (em - (P : Int) + 1) (em' - (P' : Int) + 1))
theorem cvR_bits (W P : Nat) (em : Int) (W' P' : Nat) (em' m : Int) {k : Nat} (neg : Bool) (hk : ¬ infP W P < k) : (cvR W P em W' P' em' m k neg).1 = ((cvK W P em W' P' em' m k neg + sgB neg W' : Nat) : Int) := by
  unfold cvR cvK
  rw [if_neg hk]
  by_cases c1 : k = infP W P
  · rw [if_pos c1, if_pos c1]
  · rw [if_neg c1, if_neg c1]
    by_cases c2 : k = 0
    · rw [if_pos c2, if_pos c2, Nat.zero_add]
    · rw [if_neg c2, if_neg c2, rnOut_bits]
theorem cvK_le (W P : Nat) (em : Int) (W' P' : Nat) (em' m : Int) (k : Nat) (neg : Bool) : cvK W P em W' P' em' m k neg ≤ infP W' P' := by
  unfold cvK
  split
  · exact Nat.le_refl _
  · split
    · exact Nat.zero_le _
    · exact kOut_le _ _ _ _ _ _
end Go.Proofs.YtljoaomnajlglaaDoor.X
