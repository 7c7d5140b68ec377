/- Plain law: what the reference's naturals answer (size, Trim, Len, Cmp, Add, less, Sub, Bit, up, down, quotient), by the numbers that the lists are. Conditions: the words are words, the lists are not longer than memory. -/
import Derived.Test.YtmoeaeflljpboaaDoorNatLen
import Derived.Test.YtmoeaeflljpboaaDoorDyRaise
namespace Go.Proofs.YtmoeaeflljpboaaDoor.X
open Go Go.Rex
set_option linter.unusedVariables false

/-! ### Lists and their numbers -/
theorem val_inj : ∀ {a b : List Int}, WF a → WF b → a.length = b.length → val a = val b → a = b
  | [], [], _, _, _, _ => rfl
  | [], _ :: _, _, _, h, _ => by simp at h
  | _ :: _, [], _, _, h, _ => by simp at h
  | x :: r, y :: s, ha, hb, h, hv => by
    have h1 := ha.head
    have h2 := hb.head
    rw [val_cons, val_cons] at hv
    have e1 : x = y := by omega
    have e2 : val r = val s := by omega
    rw [e1, val_inj ha.tail hb.tail (by simpa using h) e2]
theorem size_le (a : List Int) (h : WF a) : (digs (val a)).length ≤ a.length := digs_length_lt.2 (val_lt h)
theorem val_take_size {a : List Int} (h : WF a) {n : Nat} (hn : (digs (val a)).length ≤ n) : val (a.take n) = val a := by
  have h1 := val_take_drop a n
  have h2 := digs_length_lt.1 hn
  have h3 := W_pow_pos n
  rcases Nat.eq_zero_or_pos (val (a.drop n)) with h4 | h4
  · rw [h4] at h1; omega
  · have := Nat.mul_le_mul_left (18446744073709551616 ^ n) h4; omega
theorem val_drop_size {a : List Int} (h : WF a) {n : Nat} (hn : (digs (val a)).length ≤ n) : val (a.drop n) = 0 := by
  have h1 := val_take_drop a n
  have h2 := val_take_size h hn
  rcases Nat.eq_zero_or_pos (val (a.drop n)) with h4 | h4
  · exact h4
  · have := Nat.mul_pos (W_pow_pos n) h4; omega
theorem take_digs {a : List Int} (h : WF a) : a.take (digs (val a)).length = digs (val a) := by
  refine val_inj (h.take _) (WF.digs _) ?_ ?_
  · rw [List.length_take, Nat.min_eq_left (size_le a h)]
  · rw [val_take_size h (Nat.le_refl _), val_digs]
theorem zero_words {a : List Int} (h : WF a) (h0 : val a = 0) (j : Nat) : a.getD j 0 = 0 := by
  induction a generalizing j with
  | nil => simp
  | cons x r ih =>
    have := h.head
    rw [val_cons] at h0
    cases j with
    | zero => simp; omega
    | succ j => simpa using ih h.tail (by omega) j
theorem getD_digs {a : List Int} (h : WF a) (j : Nat) : a.getD j 0 = (digs (val a)).getD j 0 := by
  rcases Nat.lt_or_ge j (digs (val a)).length with hj | hj
  · conv => rhs; rw [← take_digs h]
    simp [List.getD_eq_getElem?_getD, hj]
  · rw [getD_ge (digs (val a)) hj]
    have := zero_words (h.drop _) (val_drop_size h (Nat.le_refl _)) (j - (digs (val a)).length)
    rw [List.getD_eq_getElem?_getD, List.getElem?_drop, show (digs (val a)).length + (j - (digs (val a)).length) = j by omega] at this
    rw [List.getD_eq_getElem?_getD]; exact this
theorem word_nat {a : List Int} (h : WF a) (j : Nat) : ∃ x : Nat, x < 18446744073709551616 ∧ a.getD j 0 = (x : Int) := by
  have r := h.getD j
  obtain ⟨x, ex⟩ := Int.eq_ofNat_of_zero_le r.1
  exact ⟨x, by omega, ex⟩
theorem word_val {a : List Int} (h : WF a) (j : Nat) : (a.getD j 0).toNat = val a / 18446744073709551616 ^ j % 18446744073709551616 := by
  rw [← val_drop_div h j]
  rcases Nat.lt_or_ge j a.length with hj | hj
  · rw [drop_val a hj, Nat.add_mul_mod_self_left, Nat.mod_eq_of_lt (getD_toNat_lt h j)]
  · rw [getD_ge a hj, List.drop_of_length_le hj]; rfl

/-! ### size, Trim, Len -/
theorem copy_part (o : List Int) (n : Nat) (h : n ≤ o.length) : ((List.replicate n (0 : Int)).take 0) ++ ((o.take (min o.length ((List.replicate n (0 : Int)).length))) ++ ((List.replicate n (0 : Int)).drop (min o.length ((List.replicate n (0 : Int)).length)))) = o.take n := by
  rw [List.length_replicate, Nat.min_eq_right h]; simp
end Go.Proofs.YtmoeaeflljpboaaDoor.X
