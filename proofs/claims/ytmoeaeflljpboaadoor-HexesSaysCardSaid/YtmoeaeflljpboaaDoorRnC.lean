/- Plain law: which numbers of a format are numbers of another one; the bits of a rounded number. Conditions: the formats are among the four. -/
import Derived.Test.YtmoeaeflljpboaaDoorRnB
namespace Go.Proofs.YtmoeaeflljpboaaDoor.X
open Go Go.Rex
set_option linter.unusedVariables false

/-- The place of a rounded number, without its sign. -/
def kOut (W P : Nat) (m : Int) (neg : Bool) (A B : Nat) : Nat := if infP W P ≤ rnd P m neg A B then (if toInf m neg then infP W P else infP W P - 1) else rnd P m neg A B
theorem rnOut_bits (W P : Nat) (m : Int) (neg : Bool) (A B : Nat) : (rnOut W P m neg A B).1 = ((kOut W P m neg A B + sgB neg W : Nat) : Int) := by
  unfold rnOut kOut beyN
  by_cases c : infP W P ≤ rnd P m neg A B
  · rw [if_pos c, if_pos c]
  · rw [if_neg c, if_neg c]
theorem kOut_le (W P : Nat) (m : Int) (neg : Bool) (A B : Nat) : kOut W P m neg A B ≤ infP W P := by
  unfold kOut
  split
  · split <;> omega
  · omega
theorem kOut_mono (W : Nat) {P A B A' B' : Nat} (hP : 2 ≤ P) (hB : 0 < B) (hB' : 0 < B') (m : Int) (neg : Bool) (h : A * B' ≤ A' * B) : kOut W P m neg A B ≤ kOut W P m neg A' B' := by
  have hm := rnd_mono hP hB hB' m neg h
  unfold kOut
  by_cases c : infP W P ≤ rnd P m neg A B
  · rw [if_pos c, if_pos (Nat.le_trans c hm)]; exact Nat.le_refl _
  · rw [if_neg c]
    split
    · split <;> omega
    · exact hm
/-- Place and sign of a pattern that was put together. -/
theorem pk_at {W K : Nat} (hK : K < 2 ^ (W - 1)) (hW : 1 ≤ W) (neg : Bool) : pk W (K + sgB neg W) = K ∧ ps W (K + sgB neg W) = neg ∧ K + sgB neg W < 2 ^ W := by
  have hw := pow_half hW
  unfold pk ps sgB
  cases neg
  · rw [if_neg (by simp), Nat.add_zero]
    exact ⟨Nat.mod_eq_of_lt hK, decide_eq_false (by omega), by omega⟩
  · rw [if_pos rfl, Nat.add_mod_right]
    exact ⟨Nat.mod_eq_of_lt hK, decide_eq_true (by omega), by omega⟩
section
variable {f g : Int} {W P W' P' : Nat} {em ex em' ex' : Int} (h : Fm f W P em ex) (h' : Fm g W' P' em' ex')
include h
theorem plV_inf : plV P (infP W P) = 2 ^ (P - 1) * 2 ^ (eTop W P - 1) := by
  have h8 := h.p8
  have ht := (eTop_le h).2
  have e : infP W P = (eTop W P - 1) * 2 ^ (P - 1) + 2 ^ (P - 1) := by
    unfold infP
    obtain ⟨t, ht'⟩ : ∃ t, eTop W P = t + 1 := ⟨eTop W P - 1, by omega⟩
    rw [ht', Nat.add_sub_cancel, Nat.succ_mul]
  rw [e]
  exact plV_at (by omega) (.inr (Nat.le_refl _)) (pow_mono2 (by omega))
include h'
theorem fits (hP : P ≤ P') (he : em' ≤ em) {k : Nat} (hk0 : k ≠ 0) (hk : k < infP W P) : ∃ (s k' : Nat), em - (P : Int) + 1 - (em' - (P' : Int) + 1) = (s : Int) ∧ k' ≠ 0 ∧ k' < infP W' P' ∧ plV P' k' = plV P k * 2 ^ s := by
  have h8 := h.p8; have h8' := h'.p8
  obtain ⟨x1, x2, x3⟩ := fm_ex h
  obtain ⟨y1, y2, y3⟩ := fm_ex h'
  have m0 := h.m0; have m1 := h.m1; have m0' := h'.m0; have m1' := h'.m1
  obtain ⟨s, hs⟩ : ∃ s : Nat, em - (P : Int) + 1 - (em' - (P' : Int) + 1) = (s : Int) := ⟨(em - (P : Int) + 1 - (em' - (P' : Int) + 1)).toNat, by omega⟩
  have hv0 : plV P k ≠ 0 := fun e => hk0 ((plV_zero (by omega)).1 e)
  obtain ⟨q, u, k1, k2, k3⟩ := plV_step (P := P) (by omega) k
  have hv : plV P k = u * 2 ^ q := by rw [k1]; exact plV_at (by omega) k2 (Nat.le_of_lt k3)
  have hu0 : u ≠ 0 := fun e => hv0 (by rw [hv, e, Nat.zero_mul])
  have hN : plV P k * 2 ^ s = u * 2 ^ (q + s) := by rw [hv, Nat.mul_assoc, ← Nat.pow_add]
  have hbu : blen u ≤ P := blen_le_iff.2 k3
  have hsh : shf P' (plV P k * 2 ^ s) 1 ≤ q + s := by
    unfold shf
    rw [Nat.div_one, hN, blen_pow_mul hu0]; omega
  have hl : lftP P' (plV P k * 2 ^ s) 1 = 0 := by
    unfold lftP
    rw [lftN_zero, Nat.one_mul, hN]
    obtain ⟨d, hd⟩ : ∃ d, q + s = shf P' (u * 2 ^ (q + s)) 1 + d := by
      rw [hN] at hsh
      exact ⟨q + s - shf P' (u * 2 ^ (q + s)) 1, by omega⟩
    generalize shf P' (u * 2 ^ (q + s)) 1 = z at *
    rw [hd, Nat.pow_add, ← Nat.mul_assoc, Nat.mul_comm u, Nat.mul_assoc]
    exact Nat.mul_mod_right _ _
  have hfl := (lftP_zero (P := P') (by omega) (by decide)).1 hl
  rw [Nat.mul_one] at hfl
  refine ⟨s, flr P' (plV P k * 2 ^ s) 1, hs, ?_, ?_, hfl.symm⟩
  · intro e
    rw [e, (plV_zero (P := P') (by omega)).2 rfl] at hfl
    exact absurd hfl (Nat.mul_ne_zero hv0 (by have := Nat.two_pow_pos s; omega))
  · refine Nat.lt_of_not_le fun hc => ?_
    have a1 := (plV_le (P := P') (by omega)).2 hc
    rw [← hfl, plV_inf h', ← Nat.pow_add] at a1
    have a2 := plV_lt (P := P) (by omega) hk
    rw [plV_inf h, ← Nat.pow_add] at a2
    have a3 := (Nat.mul_lt_mul_right (Nat.two_pow_pos s)).2 a2
    rw [← Nat.pow_add] at a3
    have t1 := (eTop_le h).2; have t2 := (eTop_le h').2
    have a4 := pow_mono2 (a := P - 1 + (eTop W P - 1) + s) (b := P' - 1 + (eTop W' P' - 1)) (by omega)
    omega
end
end Go.Proofs.YtmoeaeflljpboaaDoor.X
