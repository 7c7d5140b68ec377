/- Plain law: what Len and Shl of naturals answer, by the numbers that the lists are. Conditions: the words are words, the lists are not longer than memory. -/
import Derived.Test.YtmoeaeflljpboaaDoorNatI
namespace Go.Proofs.YtmoeaeflljpboaaDoor.X
open Go Go.Rex
set_option linter.unusedVariables false

/-! ### Len -/
theorem blen_words {v : Nat} (hv : v ≠ 0) {t : Nat} (ht : (digs v).getD ((digs v).length - 1) 0 = (t : Int)) : blen v = 64 * ((digs v).length - 1) + blen t := by
  have hlen := digs_len_pos.2 hv
  have h0 : t ≠ 0 := by
    have := Neat.digs v (by rw [Ne, digs_nil]; exact hv)
    rw [ht] at this; omega
  have htW : t < 18446744073709551616 := by have := (WF.digs v).getD ((digs v).length - 1); rw [ht] at this; omega
  have hs := val_take_last (p := digs v) (n := (digs v).length - 1) (by omega)
  rw [val_digs, ht, Int.toNat_natCast] at hs
  have hlt := take_val_lt (WF.digs v) ((digs v).length - 1)
  generalize (digs v).length - 1 = n at *
  generalize val ((digs v).take n) = low at *
  obtain ⟨b, hb⟩ : ∃ b, blen t = b + 1 := ⟨blen t - 1, by have := blen_pos h0; omega⟩
  have h1 := blen_le h0
  have h2 := blen_lt t
  rw [hb] at h1 h2 ⊢
  rw [show b + 1 - 1 = b by omega] at h1
  rw [← two_64] at *
  refine blen_eq (k := 64 * n + b) ?_ ?_
  · rw [Nat.pow_add, hs]
    have := Nat.mul_le_mul_left (2 ^ (64 * n)) h1
    omega
  · rw [Nat.add_assoc, Nat.pow_add, hs]
    have := Nat.mul_le_mul_left (2 ^ (64 * n)) (show t + 1 ≤ 2 ^ (b + 1) from h2)
    rw [Nat.mul_add, Nat.mul_one] at this
    omega
theorem Len_ev {a : List Int} (ha : WF a) (la : Lb a) : Ev (fun k => nat_Len k a) ((blen (val a) : Nat) : Int) := by
  refine Ev.congr (fun k => nat_Len_eq k a) (Ev.bind (trim_ev ha la) ?_)
  have hl := la.ofv ha
  unfold Lb at hl
  generalize val a = v at *
  by_cases hv : v = 0
  · rw [hv, digs_zero]
    exact Ev.pos (bT rfl) (Ev.some _)
  · have hlen := digs_len_pos.2 hv
    refine Ev.neg (bF (by omega)) ?_
    rw [show IntKind.i64.wrap (((digs v).length : Int) - 1) = (((digs v).length - 1 : Nat) : Int) by rw [wrapI] <;> omega, Int.toNat_natCast]
    obtain ⟨t, ht⟩ := Int.eq_ofNat_of_zero_le ((WF.digs v).getD ((digs v).length - 1)).1
    have htW : t < 18446744073709551616 := by have := (WF.digs v).getD ((digs v).length - 1); rw [ht] at this; omega
    have hb := blen_words hv ht
    have hbt : blen t ≤ 64 := blen_bound (k := 64) htW
    refine Ev.pos ⟨by omega, by omega⟩ (Ev.bind (Ev.of fun k => by rw [ht]; exact len64 k t htW) (Ev.eq (Ev.some _) ?_))
    rw [hb, wrapI (x := 64 * (((digs v).length - 1 : Nat) : Int)) (by omega) (by omega), wrapI (by omega) (by omega)]
    omega
/-! ### Shl -/
theorem shl_len_ {v n m : Nat} (h : (digs v).length ≤ m) : (digs (v * 2 ^ n)).length ≤ m + (n / 64 + 1) := by
  rw [digs_length_lt] at *
  have h1 : 2 ^ n ≤ 18446744073709551616 ^ (n / 64 + 1) := by
    rw [← two_64]
    exact Nat.pow_le_pow_right (by decide) (by omega)
  rw [Nat.pow_add]
  exact Nat.lt_of_lt_of_le (Nat.mul_lt_mul_of_pos_right h (Nat.two_pow_pos n)) (Nat.mul_le_mul_left _ h1)
theorem shl_len {v n : Nat} (h : (digs v).length ≤ 1024) (hn : n ≤ 65536) : (digs (v * 2 ^ n)).length ≤ 2050 := Nat.le_trans (shl_len_ h) (by omega)
theorem blen_half {n : Nat} (h : n ≠ 0) : blen n = blen (n / 2) + 1 := by
  by_cases h1 : n = 1
  · subst h1; decide
  · have := blen_div (n := n) (j := 1) (by omega)
    rw [Nat.pow_one] at this; exact this.symm
theorem sum_len_ {x y m : Nat} (hx : (digs x).length ≤ m) (hy : (digs y).length ≤ m) : (digs (x + y)).length ≤ m + 1 := by
  rw [digs_length_lt] at *
  rw [pow_s]
  omega
theorem blen_len {v m : Nat} (h : (digs v).length ≤ m) : blen v ≤ 64 * m := blen_bound (by rw [two_64]; exact digs_length_lt.1 h)
theorem cmpN_pos {x y : Nat} : cmpN x y > 0 ↔ y < x := by unfold cmpN; split <;> (try split) <;> omega
theorem cmpN_neg {x y : Nat} : cmpN x y < 0 ↔ x < y := by unfold cmpN; split <;> (try split) <;> omega
theorem small_len {x y m : Nat} (hx : (digs x).length ≤ m) (hy : y < 18446744073709551616) (hm : 1 ≤ m) : (digs (x + y)).length ≤ m + 1 := by
  rw [digs_length_lt] at *
  rw [pow_s]
  have := Nat.pow_le_pow_right (n := 18446744073709551616) (by decide) hm
  omega
theorem Shl_ev {a : List Int} (ha : WF a) (la : Lb a) {n : Nat} (hn : n ≤ 65536) (h1 : (digs (val a)).length ≤ 1024) (h2 : (digs (val a * 2 ^ n)).length ≤ 1024) : Ev (fun k => nat_Shl k a (n : Int)) (digs (val a * 2 ^ n), (0 : Int)) := by
  refine Ev.congr (fun k => nat_Shl_eq k a _) (Ev.neg (dF (by omega)) (Ev.neg (dF (by omega)) ?_))
  rw [set1]
  refine Ev.bind (Ev.eq (great_ev (l := [a]) (fun x hx => by simp at hx; subst hx; exact ⟨ha, la⟩) (by simp)) (r' := false) (by simp; omega)) (Ev.neg (by simp) (Ev.bind (left_ev ha la (by omega)) ?_))
  rw [set1]
  refine Ev.bind (Ev.eq (great_ev (l := [digs (val a * 2 ^ n)]) (fun x hx => by simp at hx; subst hx; exact ⟨WF.digs _, by unfold Lb; omega⟩) (by simp)) (r' := false) (by simp [val_digs]; omega)) (Ev.neg (by simp) (Ev.some _))
theorem Shl_size {a : List Int} (ha : WF a) (la : Lb a) {n : Nat} (hn : n ≤ 65536) (h : 1024 < (digs (val a)).length ∨ 1024 < (digs (val a * 2 ^ n)).length) : Ev (fun k => nat_Shl k a (n : Int)) (([] : List Int), (5 : Int)) := by
  refine Ev.congr (fun k => nat_Shl_eq k a _) (Ev.neg (dF (by omega)) (Ev.neg (dF (by omega)) ?_))
  rw [set1]
  by_cases h1 : 1024 < (digs (val a)).length
  · exact Ev.bind (Ev.eq (great_ev (l := [a]) (fun x hx => by simp at hx; subst hx; exact ⟨ha, la⟩) (by simp)) (r' := true) (by simp; omega)) (Ev.pos rfl (Ev.some _))
  · have hl := shl_len (Nat.le_of_not_lt h1) hn
    refine Ev.bind (Ev.eq (great_ev (l := [a]) (fun x hx => by simp at hx; subst hx; exact ⟨ha, la⟩) (by simp)) (r' := false) (by simp; omega)) (Ev.neg (by simp) (Ev.bind (left_ev ha la (by omega)) ?_))
    rw [set1]
    exact Ev.bind (Ev.eq (great_ev (l := [digs (val a * 2 ^ n)]) (fun x hx => by simp at hx; subst hx; exact ⟨WF.digs _, by unfold Lb; omega⟩) (by simp)) (r' := true) (by simp [val_digs]; omega)) (Ev.pos rfl (Ev.some _))
theorem Shl_range {a : List Int} {n : Int} (h : n < 0 ∨ 65536 < n) : Ev (fun k => nat_Shl k a n) (([] : List Int), (7 : Int)) := by
  refine Ev.congr (fun k => nat_Shl_eq k a _) ?_
  by_cases h0 : n < 0
  · exact Ev.pos (dT h0) (Ev.some _)
  · exact Ev.neg (dF h0) (Ev.pos (dT (by omega)) (Ev.some _))
theorem Shr_range {a : List Int} {n : Int} (h : n < 0) : Ev (fun k => nat_Shr k a n) (([] : List Int), (7 : Int)) :=
  Ev.congr (fun k => nat_Shr_eq k a _) (Ev.pos (dT h) (Ev.some _))
end Go.Proofs.YtmoeaeflljpboaaDoor.X
