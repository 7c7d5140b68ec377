/- Plain law: verniertop's question whether a pattern is the rounding of an exact number or of a quotient, with signs. Conditions: the format is one of the four, the mode one of the six. -/
import Derived.Test.YtldjheckpophaaaDoorTpP
import Derived.Test.YtldjheckpophaaaDoorPlcA
namespace Go.Proofs.YtldjheckpophaaaDoor.X
open Go Go.Rex
set_option linter.unusedVariables false

theorem off_any {K W : Nat} (hW : 1 ≤ W) (h64 : W ≤ 64) (hK : K < 2 ^ (W - 1)) (neg : Bool) : andNotK .u64 ((K + sgB neg W : Nat) : Int) ((2 ^ (W - 1) : Nat) : Int) = (K : Int) := by
  cases neg
  · have w := pow_half hW
    have w2 : 2 ^ W ≤ 2 ^ 64 := pow_mono2 h64
    show andNotK .u64 ((K : Nat) : Int) ((2 ^ (W - 1) : Nat) : Int) = (K : Int)
    unfold andNotK
    show IntKind.u64.wrap ((BitVec.ofInt 64 ((K : Nat) : Int) &&& ~~~ BitVec.ofInt 64 ((2 ^ (W - 1) : Nat) : Int)).toNat : Int) = _
    rw [BitVec.toNat_and, BitVec.toNat_not, ofInt_nat _ (by omega), ofInt_nat _ (by omega)]
    have e : K &&& (2 ^ 64 - 1 - 2 ^ (W - 1)) = K := by
      rw [show 2 ^ 64 - 1 - 2 ^ (W - 1) = 2 ^ 64 - (2 ^ (W - 1) + 1) by omega]
      apply Nat.eq_of_testBit_eq
      intro j
      rw [Nat.testBit_and, Nat.testBit_two_pow_sub_succ (by omega), Nat.testBit_two_pow]
      by_cases hj : W - 1 = j
      · subst hj
        rw [Nat.testBit_lt_two_pow hK]; simp
      · by_cases h6 : j < 64
        · simp [hj, h6]
        · have : K < 2 ^ j := Nat.lt_of_lt_of_le (show K < 2 ^ 64 by omega) (pow_mono2 (by omega))
          rw [Nat.testBit_lt_two_pow this]; simp
    rw [e, wrapUn (by omega)]
  · exact top_off hW h64 hK
theorem turn_mode {m : Int} (neg : Bool) (A B W P : Nat) : kOut W P (if neg then mir m else m) false A B = kOut W P m neg A B ∧ (rnOut W P (if neg then mir m else m) false A B).2 = (rnOut W P m neg A B).2 := by
  cases neg
  · exact ⟨rfl, rfl⟩
  · exact ⟨kOut_mir W P m true A B, flags_mir W P m true A B⟩
theorem mir_md {m : Int} (hm : Md m) (neg : Bool) : Md (if neg then mir m else m) := by
  have := hm.m0; have := hm.m5
  cases neg
  · exact hm
  · show Md (mir m)
    unfold mir
    constructor <;> split <;> (try split) <;> omega
section
variable {f : Int} {W P : Nat} {em ex : Int} (h : Fm f W P em ex)
include h
theorem kOut_lt (m : Int) (neg : Bool) (A B : Nat) : kOut W P m neg A B < 2 ^ (W - 1) := by
  have := kOut_le W P m neg A B
  have := infP_le h
  have := Nat.two_pow_pos (P - 1)
  omega
omit h in
theorem turnT (m : Int) (neg : Bool) (k : Nat) : verniertop_turned k m neg = some (if neg then mir m else m) := by
  rw [verniertop_turned_eq]
  unfold mir
  cases neg
  · simp
  · by_cases c3 : m = 3
    · subst c3; rfl
    · by_cases c4 : m = 4
      · subst c4; rfl
      · simp [c3, c4]
theorem bareT {K : Nat} (hK : K < 2 ^ (W - 1)) (neg : Bool) (k : Nat) : verniertop_bare k f ((K + sgB neg W : Nat) : Int) = some (K : Int) := by
  have h3 := h.wp; have h8 := h.p8; have h64 := h.w64
  have i1 : IntKind.i64.wrap ((W : Int) - 1) = ((W - 1 : Nat) : Int) := by rw [wrapI (by omega) (by omega)]; omega
  have es := shlK_exact 1 (W - 1) (by omega) (by have := Nat.pow_lt_pow_right (m := W - 1) (n := 64) (a := 2) (by decide) (by omega); omega)
  rw [Nat.one_mul, show ((1 : Nat) : Int) = 1 from rfl] at es
  rw [verniertop_bare_eq, layT h]
  rw [Option.bind_some]
  dsimp only
  rw [i1, if_pos (by omega), es, off_any (by omega) h64 hK]
theorem topbit {K : Nat} (hK : K < 2 ^ (W - 1)) (neg : Bool) : (shrK IntKind.u64 ((K + sgB neg W : Nat) : Int) ((W - 1 : Nat) : Int) == 1) = neg := by
  have h3 := h.wp; have h8 := h.p8; have h64 := h.w64
  rw [shrK_nat _ (W - 1) (by omega)]
  cases neg
  · rw [show K + sgB false W = K from rfl, Nat.div_eq_of_lt hK]; rfl
  · rw [show K + sgB true W = K + 2 ^ (W - 1) from rfl, Nat.add_div_right _ (Nat.two_pow_pos _), Nat.div_eq_of_lt hK]; rfl
section
variable {L c : Int} {b1 : Bool} {l1 : List Int} {e1 : Int} {b2 : Bool} {l2 : List Int} {e2 : Int} {A B : Nat} (hat : AtT L c b1 l1 e1 b2 l2 e2 A B) (hL : L = em - (P : Int) - 1) (hB : 0 < B)
include hat hL hB
/-- In the mode as it looks without the sign. -/
theorem rounded_sign {m : Int} (hm : Md m) (neg : Bool) : Ev (fun k => verniertop_rounded k f (if neg then mir m else m) ((kOut W P m neg A (4 * B) : Nat) : Int) (rnOut W P m neg A (4 * B)).2 c b1 l1 e1 b2 l2 e2) true := by
  have g := roundedT h hat hL hB (mir_md hm neg)
  obtain ⟨k1, k2⟩ := turn_mode (m := m) neg A (4 * B) W P
  rw [k2, rnOut_bits, k1, show sgB false W = 0 from rfl, Nat.add_zero] at g
  exact g
end
theorem answersT {L B0 : Int} {d A : Nat} (hL : L = em - (P : Int) - 1) (hd : L - (d : Int) = B0) (hd2 : d ≤ 3000) (hB : -5000 ≤ B0 ∧ B0 ≤ 5000) {neg : Bool} {l : List Int} {e : Int} (hr : RepT B0 neg l e (sg neg A)) (hA : A < 2 ^ xC) {m : Int} (hm : Md m) : Ev (fun k => verniertop_answers k f m (rnOut W P m neg A (4 * 2 ^ d)).1 (rnOut W P m neg A (4 * 2 ^ d)).2 neg l e) true := by
  have h3 := h.wp; have h8 := h.p8; have h64 := h.w64
  have i1 : IntKind.i64.wrap ((W : Int) - 1) = ((W - 1 : Nat) : Int) := by rw [wrapI (by omega) (by omega)]; omega
  have hk := kOut_lt h m neg A (4 * 2 ^ d)
  have hr' := hr.abs
  rw [tsg_abs] at hr'
  have hat := at_exact hd hd2 hB hr' hA false [] 0
  have g := rounded_sign h hat hL (Nat.two_pow_pos d) hm neg
  rw [rnOut_bits]
  refine Ev.congr (fun k => verniertop_answers_eq k _ _ _ _ _ _ _) (Ev.bind (Ev.of fun k => layT h k) ?_)
  dsimp only
  rw [i1, topbit h hk]
  refine Ev.pos (by omega) (Ev.neg (by simp) (Ev.bind (Ev.of fun k => verniertop_size_eq k _ _ _) (Ev.bind (Ev.of fun k => turnT m neg k) (Ev.bind (Ev.of fun k => bareT h hk neg k) (Ev.bind g (Ev.some _))))))
end
end Go.Proofs.YtldjheckpophaaaDoor.X
