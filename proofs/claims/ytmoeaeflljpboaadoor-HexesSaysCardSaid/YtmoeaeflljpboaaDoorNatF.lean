/- Plain law: what the functions of naturals answer: left, right, byWord, take, back. Conditions: the words are words, the lists are not longer than memory. -/
import Derived.Test.YtmoeaeflljpboaaDoorNatE
import Derived.Test.YtmoeaeflljpboaaDoorNatR
namespace Go.Proofs.YtmoeaeflljpboaaDoor.X
open Go Go.Rex
set_option linter.unusedVariables false

theorem val_drop_set (s : List Int) {i : Nat} (h : i < s.length) (x : Int) : val ((s.set i x).drop i) = x.toNat + 18446744073709551616 * val (s.drop (i + 1)) := by
  rw [drop_val (s.set i x) (by simpa using h), Rex.getD_set_self s h]
  congr 2
  rw [List.drop_set_of_lt (by omega)]
/-! ### left -/
theorem left_l0 {a : List Int} (ha : WF a) {w s : Nat} (hs : s < 64) (hl : w + a.length + 1 ≤ 17592186044416) (n : Nat) : ∀ (i : Nat) (p : List Int), i + n = a.length → WF p → p.length = w + a.length + 1 → (∀ j, w + i + 1 ≤ j → p.getD j 0 = 0) → (p.getD (w + i) 0).toNat < 2 ^ s → val p = 18446744073709551616 ^ w * (val (a.take i) * 2 ^ s) →
    Ev2 (fun k m => nat_left.l0 k m (w : Int) (s : Int) a (a.length : Int) (i : Int) p) (digs (18446744073709551616 ^ w * (val a * 2 ^ s))) := by
  induction n with
  | zero =>
    intro i p hi hp hpl hz hc hv
    refine Ev2.step (fun k m => nat_left.l0_eq k m _ _ _ _ _ _) (Ev2.neg (dF (by omega)) (Ev2.call (Ev.eq (trim_ev hp (by unfold Lb; omega)) ?_) (Ev2.some _)))
    rw [hv, List.take_of_length_le (by omega)]
  | succ n ih =>
    intro i p hi hp hpl hz hc hv
    refine Ev2.step (fun k m => nat_left.l0_eq k m _ _ _ _ _ _) ?_
    have ra := ha.getD i
    obtain ⟨x, ex⟩ := Int.eq_ofNat_of_zero_le ra.1
    have rp := hp.getD (w + i)
    obtain ⟨c, ec⟩ := Int.eq_ofNat_of_zero_le rp.1
    have e1 := take_succ_val' a i
    rw [ex, Int.toNat_natCast] at e1
    rw [ec, Int.toNat_natCast] at hc
    have e64 : IntKind.i64.wrap (64 - (s : Int)) = ((64 - s : Nat) : Int) := by rw [wrapI] <;> omega
    rw [add_i w i (by omega), succ_i (w + i) (by omega), succ_i i (by omega), Int.toNat_natCast, Int.toNat_natCast, Int.toNat_natCast, ex, ec, e64]
    obtain ⟨lo, hi', h1, h2, h3, h4, h5, h6⟩ := shl_word (x := x) (s := s) (by omega) hs
    rw [shlK_nat x s (by omega), h1, shrK_nat x (64 - s) (by omega), h2]
    have hsum : lo + c < 18446744073709551616 := or_room hs hc h5 h6
    have hhi : hi' < 18446744073709551616 := Nat.lt_trans h4 (Nat.pow_lt_pow_right (m := s) (n := 64) (by decide) hs)
    have hcc : c < 18446744073709551616 := by omega
    rw [orK_add' c lo s hc h6 (by omega)]
    clear h6
    refine Ev2.pos (dT (by omega)) (Ev2.pos ⟨by omega, by omega⟩ (Ev2.pos ⟨by omega, by omega⟩ (Ev2.pos (by omega) (Ev2.pos ⟨by omega, by omega⟩ (Ev2.pos (by omega) (Ev2.pos ⟨by omega, by rw [List.length_set]; omega⟩ ?_))))))
    have q1 : WF ((p.set (w + i) ((c + lo : Nat) : Int)).set (w + i + 1) (hi' : Int)) := (hp.set _ (by omega) (by omega)).set _ (by omega) (by omega)
    have q2 : ((p.set (w + i) ((c + lo : Nat) : Int)).set (w + i + 1) (hi' : Int)).length = w + a.length + 1 := by rw [List.length_set, List.length_set, hpl]
    have q3 : ∀ j, w + (i + 1) + 1 ≤ j → ((p.set (w + i) ((c + lo : Nat) : Int)).set (w + i + 1) (hi' : Int)).getD j 0 = 0 := fun j hj => by
      rw [Rex.getD_set_ne _ (by omega), Rex.getD_set_ne _ (by omega)]; exact hz j (by omega)
    have l1 : w + i < p.length := by omega
    have l2 : w + i + 1 < (p.set (w + i) ((c + lo : Nat) : Int)).length := by rw [List.length_set]; omega
    have q4 : (((p.set (w + i) ((c + lo : Nat) : Int)).set (w + i + 1) (hi' : Int)).getD (w + (i + 1)) 0).toNat < 2 ^ s := by
      rw [show w + (i + 1) = w + i + 1 by omega, Rex.getD_set_self _ l2, Int.toNat_natCast]; exact h4
    have n1 : w + i ≠ w + i + 1 := by omega
    have z1 : (p.set (w + i) ((c + lo : Nat) : Int)).getD (w + i + 1) 0 = 0 := by rw [Rex.getD_set_ne p n1]; exact hz _ (by omega)
    refine ih (i + 1) _ (by omega) q1 q2 q3 q4 ?_
    exact left_set l1 l2 ec z1 hv e1 h3
theorem left_ev {a : List Int} (ha : WF a) (la : Lb a) {n : Nat} (hl : n / 64 + (digs (val a)).length + 1 ≤ 17592186044416) : Ev (fun k => nat_left k a (n : Int)) (digs (val a * 2 ^ n)) := by
  refine Ev.congr (fun k => nat_left_eq k a _) (Ev.bind (trim_ev ha la) ?_)
  by_cases h0 : val a = 0
  · rw [h0, digs_zero]
    exact Ev.pos (bT rfl) (Ev.eq (Ev.some _) (by rw [Nat.zero_mul, digs_zero]))
  · have hlen := digs_len_pos.2 h0
    refine Ev.neg (bF (by omega)) ?_
    rw [show (64 : Int) = ((64 : Nat) : Int) from rfl, tdiv_nat, tmod_nat, wrapI (x := ((n / 64 : Nat) : Int)) (by omega) (by omega), add_i _ _ (by omega), succ_i _ (by omega), Int.toNat_natCast]
    refine Ev.pos ⟨by omega, by omega⟩ ?_
    have hrep : ∀ j, (List.replicate (n / 64 + (digs (val a)).length + 1) (0 : Int)).getD j 0 = 0 := fun j => by
      simp [List.getD_eq_getElem?_getD, List.getElem?_replicate]; split <;> rfl
    have := (left_l0 (WF.digs (val a)) (w := n / 64) (s := n % 64) (Nat.mod_lt _ (by decide)) hl (digs (val a)).length 0 (List.replicate (n / 64 + (digs (val a)).length + 1) 0) (by omega) (WF.replicate _) (by simp) (fun j _ => hrep j) (by rw [hrep]; exact Nat.two_pow_pos _) (by rw [val_replicate]; simp [val])).ev
    refine Ev.eq this ?_
    rw [val_digs]
    congr 1
    have : 2 ^ n = 18446744073709551616 ^ (n / 64) * 2 ^ (n % 64) := by
      rw [← two_64, ← Nat.pow_add]; congr 1; omega
    rw [this]; grind

/-! ### byWord -/
end Go.Proofs.YtmoeaeflljpboaaDoor.X
