/- Plain law: what the functions of naturals answer: right, Shr. Conditions: the words are words, the lists are not longer than memory. -/
import Derived.Test.YtmoeaeflljpboaaDoorNatB
namespace Go.Proofs.YtmoeaeflljpboaaDoor.X
open Go Go.Rex
set_option linter.unusedVariables false

theorem pow_split (w n : Nat) : (18446744073709551616 : Nat) ^ (w + n) = 18446744073709551616 ^ w * 18446744073709551616 ^ n := Nat.pow_add ..
theorem w_eq (s : Nat) (h : s < 64) : (2 : Nat) ^ s * 2 ^ (64 - s) = 18446744073709551616 := by rw [← Nat.pow_add, show s + (64 - s) = 64 by omega]
theorem two_64 (w : Nat) : (2 : Nat) ^ (64 * w) = 18446744073709551616 ^ w := by rw [Nat.pow_mul]

/-! ### to the left -/
/-- A word, shifted: what stays and what goes over. -/
theorem shl_word {x s : Nat} (hx : x < 18446744073709551616) (hs : s < 64) : ∃ lo hi : Nat, x * 2 ^ s % 18446744073709551616 = lo ∧ x / 2 ^ (64 - s) = hi ∧ lo + 18446744073709551616 * hi = x * 2 ^ s ∧ hi < 2 ^ s ∧ lo < 18446744073709551616 ∧ lo % 2 ^ s = 0 := by
  have hw := w_eq s hs
  have hp : 0 < 2 ^ s := Nat.two_pow_pos s
  have hq : 0 < 2 ^ (64 - s) := Nat.two_pow_pos _
  have e : x * 2 ^ s % 18446744073709551616 = x % 2 ^ (64 - s) * 2 ^ s := by rw [← hw, Nat.mul_comm (2 ^ s), Nat.mul_mod_mul_right]
  refine ⟨_, _, rfl, rfl, ?_, ?_, Nat.mod_lt _ (by decide), ?_⟩
  · rw [e]
    have := Nat.div_add_mod x (2 ^ (64 - s))
    generalize x / 2 ^ (64 - s) = q at *
    generalize x % 2 ^ (64 - s) = r at *
    rw [← this, ← hw]; grind
  · rw [Nat.div_lt_iff_lt_mul hq, hw]; exact hx
  · rw [e]; exact Nat.mul_mod_left _ _
theorem or_room {lo c s : Nat} (hs : s < 64) (hc : c < 2 ^ s) (h5 : lo < 18446744073709551616) (h6 : lo % 2 ^ s = 0) : lo + c < 18446744073709551616 := by
  have hw := w_eq s hs
  have hlo : 2 ^ s * (lo / 2 ^ s) = lo := by have := Nat.div_add_mod lo (2 ^ s); omega
  have hm : lo / 2 ^ s < 2 ^ (64 - s) := by rw [Nat.div_lt_iff_lt_mul (Nat.two_pow_pos s), Nat.mul_comm, hw]; exact h5
  have := Nat.mul_le_mul_left (2 ^ s) hm
  rw [hw, Nat.succ_eq_add_one, Nat.mul_add, hlo] at this
  omega
theorem left_comb {V0 V1 V2 P Q c lo hi x S T : Nat} (v1 : V1 + P * Q * c = V0 + P * Q * (c + lo)) (v2 : V2 = V1 + P * Q * 18446744073709551616 * hi) (hv : V0 = P * (T * S)) (h3 : lo + 18446744073709551616 * hi = x * S) : V2 = P * ((T + Q * x) * S) := by
  have k1 : P * Q * (lo + 18446744073709551616 * hi) = P * Q * (x * S) := by rw [h3]
  have k2 : P * ((T + Q * x) * S) = P * (T * S) + P * Q * (x * S) := by grind
  have k3 : P * Q * (c + lo) = P * Q * c + P * Q * lo := Nat.mul_add ..
  have k4 : P * Q * (lo + 18446744073709551616 * hi) = P * Q * lo + P * Q * 18446744073709551616 * hi := by grind
  rw [k2, v2]
  generalize P * Q * 18446744073709551616 * hi = a1 at *
  generalize P * Q * lo = a2 at *
  generalize P * Q * c = a3 at *
  generalize P * Q * (x * S) = a4 at *
  omega
theorem left_set {p : List Int} {w i c lo hi x S T T' : Nat} (l1 : w + i < p.length) (l2 : w + i + 1 < (p.set (w + i) ((c + lo : Nat) : Int)).length) (ec : p.getD (w + i) 0 = (c : Int)) (z1 : (p.set (w + i) ((c + lo : Nat) : Int)).getD (w + i + 1) 0 = 0)
    (hv : val p = 18446744073709551616 ^ w * (T * S)) (e1 : T' = T + 18446744073709551616 ^ i * x) (h3 : lo + 18446744073709551616 * hi = x * S) :
    val ((p.set (w + i) ((c + lo : Nat) : Int)).set (w + i + 1) (hi : Int)) = 18446744073709551616 ^ w * (T' * S) := by
  have v1 := set_val p l1 ((c + lo : Nat) : Int)
  have v2 := set_val (p.set (w + i) ((c + lo : Nat) : Int)) l2 (hi : Int)
  rw [z1, Int.toNat_zero, Nat.mul_zero, Nat.add_zero, Int.toNat_natCast, pow_s, pow_split] at v2
  rw [ec, Int.toNat_natCast, Int.toNat_natCast, pow_split] at v1
  rw [e1]
  exact left_comb v1 v2 hv h3
/-! ### right -/
theorem right_word {a : List Int} (ha : WF a) (i : Nat) {s : Nat} (hs : s < 64) : ∃ o : Nat, o < 18446744073709551616 ∧ (a.getD i 0).toNat / 2 ^ s + (a.getD (i + 1) 0).toNat * 2 ^ (64 - s) % 18446744073709551616 = o ∧ (i < a.length → val (a.drop i) / 2 ^ s = o + 18446744073709551616 * (val (a.drop (i + 1)) / 2 ^ s)) ∧
    (a.getD i 0).toNat / 2 ^ s < 2 ^ (64 - s) ∧ (a.getD (i + 1) 0).toNat * 2 ^ (64 - s) % 18446744073709551616 % 2 ^ (64 - s) = 0 := by
  have hw := w_eq s hs
  have hp : 0 < 2 ^ s := Nat.two_pow_pos s
  have hq : 0 < 2 ^ (64 - s) := Nat.two_pow_pos _
  have hx := getD_toNat_lt ha i
  have hlt : (a.getD i 0).toNat / 2 ^ s < 2 ^ (64 - s) := by rw [Nat.div_lt_iff_lt_mul hp, Nat.mul_comm, hw]; exact hx
  have e : ∀ y : Nat, y * 2 ^ (64 - s) % 18446744073709551616 = y % 2 ^ s * 2 ^ (64 - s) := fun y => by rw [← hw, Nat.mul_mod_mul_right]
  rw [e]
  have hy := Nat.mod_lt (a.getD (i + 1) 0).toNat hp
  have hy2 : ((a.getD (i + 1) 0).toNat % 2 ^ s + 1) * 2 ^ (64 - s) ≤ 2 ^ s * 2 ^ (64 - s) := Nat.mul_le_mul_right _ hy
  rw [hw, Nat.add_mul] at hy2
  refine ⟨_, by omega, rfl, fun hi => ?_, hlt, Nat.mul_mod_left _ _⟩
  rw [drop_val a hi]
  have ed : ∀ D : Nat, ((a.getD i 0).toNat + 18446744073709551616 * D) / 2 ^ s = (a.getD i 0).toNat / 2 ^ s + 2 ^ (64 - s) * D := fun D => by
    rw [show 18446744073709551616 * D = 2 ^ s * (2 ^ (64 - s) * D) by rw [← Nat.mul_assoc, hw], Nat.add_mul_div_left _ _ hp]
  rw [ed]
  have em : val (a.drop (i + 1)) % 2 ^ s = (a.getD (i + 1) 0).toNat % 2 ^ s := by
    rcases Nat.lt_or_ge (i + 1) a.length with h | h
    · rw [drop_val a h, show 18446744073709551616 * val (a.drop (i + 1 + 1)) = 2 ^ s * (2 ^ (64 - s) * val (a.drop (i + 1 + 1))) by rw [← Nat.mul_assoc, hw], Nat.add_mul_mod_self_left]
    · rw [List.drop_of_length_le h, getD_ge a h]; rfl
  rw [← em]
  have := Nat.div_add_mod (val (a.drop (i + 1))) (2 ^ s)
  generalize val (a.drop (i + 1)) / 2 ^ s = q at *
  generalize val (a.drop (i + 1)) % 2 ^ s = r at *
  rw [← this, ← hw]; grind
theorem right_l0 {a : List Int} (ha : WF a) (la : Lb a) {w s : Nat} (hs : s < 64) (hw : w < a.length) (n : Nat) : ∀ (i : Nat) (p : List Int), i + n = a.length - w → WF p → p.length = a.length - w → val (p.take i) + 18446744073709551616 ^ i * (val (a.drop (w + i)) / 2 ^ s) = val (a.drop w) / 2 ^ s →
    Ev2 (fun k m => nat_right.l0 k m a (w : Int) (s : Int) ((a.length - w : Nat) : Int) (i : Int) p) (digs (val (a.drop w) / 2 ^ s)) := by
  unfold Lb at la
  induction n with
  | zero =>
    intro i p hi hp hl hv
    refine Ev2.step (fun k m => nat_right.l0_eq k m _ _ _ _ _ _) (Ev2.neg (dF (by omega)) (Ev2.call (Ev.eq (trim_own_ev hp (by unfold Lb; omega)) ?_) (Ev2.some _)))
    rw [List.drop_of_length_le (show a.length ≤ w + i by omega), List.take_of_length_le (by omega)] at hv
    rw [← hv]; simp [val]
  | succ n ih =>
    intro i p hi hp hl hv
    refine Ev2.step (fun k m => nat_right.l0_eq k m _ _ _ _ _ _) ?_
    have ra := ha.getD (w + i)
    have rb := ha.getD (w + i + 1)
    obtain ⟨x, ex⟩ := Int.eq_ofNat_of_zero_le ra.1
    obtain ⟨y, ey⟩ := Int.eq_ofNat_of_zero_le rb.1
    have hxW : x < 18446744073709551616 := by omega
    obtain ⟨o, h1, h2, h3, h4, h5⟩ := right_word ha (w + i) hs
    have h3 := h3 (by omega)
    rw [ex, ey, Int.toNat_natCast, Int.toNat_natCast] at h2
    rw [ex, Int.toNat_natCast] at h4
    rw [ey, Int.toNat_natCast] at h5
    have e64 : IntKind.i64.wrap (64 - (s : Int)) = ((64 - s : Nat) : Int) := by rw [wrapI] <;> omega
    rw [add_i w i (by omega), succ_i (w + i) (by omega), succ_i i (by omega), Int.toNat_natCast, Int.toNat_natCast, Int.toNat_natCast, ex, ey, e64, shrK_nat x s (by omega), shlK_nat y (64 - s) (by omega)]
    have hx2 : x / 2 ^ s ≤ x := Nat.div_le_self _ _
    refine Ev2.pos (dT (by omega)) (Ev2.pos ⟨by omega, by omega⟩ (Ev2.pos (by omega) (Ev2.pos ⟨by omega, by omega⟩ ?_)))
    have next : ∀ q : List Int, WF q → q.length = a.length - w → q.getD i 0 = (o : Int) → q.take i = p.take i → Ev2 (fun k m => nat_right.l0 k m a (w : Int) (s : Int) ((a.length - w : Nat) : Int) ((i + 1 : Nat) : Int) q) (digs (val (a.drop w) / 2 ^ s)) := by
      intro q hq hql hqi hqt
      refine ih (i + 1) q (by omega) hq hql ?_
      rw [take_succ_val', hqi, hqt, Int.toNat_natCast, pow_s, ← hv, h3, show w + (i + 1) = w + i + 1 by omega]
      grind
    by_cases c : w + i + 1 < a.length
    · refine Ev2.pos (dT (by omega)) (Ev2.pos ⟨by omega, by rw [List.length_set]; omega⟩ (Ev2.pos ⟨by omega, by omega⟩ (Ev2.pos (by omega) (Ev2.pos ⟨by omega, by rw [List.length_set]; omega⟩ ?_))))
      rw [Rex.getD_set_self p (i := i) (by omega), orK_add' _ _ (64 - s) h4 h5 (by rw [h2]; exact h1), h2]
      refine next _ ((hp.set i (x := ((x / 2 ^ s : Nat) : Int)) (Int.natCast_nonneg _) (Int.ofNat_lt.2 (Nat.lt_of_le_of_lt hx2 hxW))).set i (x := (o : Int)) (Int.natCast_nonneg _) (Int.ofNat_lt.2 h1)) (by simp [hl]) (Rex.getD_set_self _ (by rw [List.length_set]; omega) _ _) (by rw [take_set_ne, take_set_ne])
    · refine Ev2.neg (dF (by omega)) ?_
      have hy0 : y = 0 := by have := getD_ge a (i := w + i + 1) (by omega); omega
      rw [hy0, Nat.zero_mul] at h2
      rw [show x / 2 ^ s = o by simpa using h2]
      exact next _ (hp.set i (x := (o : Int)) (Int.natCast_nonneg _) (Int.ofNat_lt.2 h1)) (by simp [hl]) (Rex.getD_set_self _ (by omega) _ _) (take_set_ne ..)
theorem val_drop_div {a : List Int} (ha : WF a) (w : Nat) : val (a.drop w) = val a / 18446744073709551616 ^ w := by
  rw [val_take_drop a w, Nat.add_mul_div_left _ _ (W_pow_pos w), Nat.div_eq_of_lt (take_val_lt ha w), Nat.zero_add]
theorem right_ev {a : List Int} (ha : WF a) (la : Lb a) (n : Nat) (hn : n < 9223372036854775808) : Ev (fun k => nat_right k a (n : Int)) (digs (val a / 2 ^ n)) := by
  refine Ev.congr (fun k => nat_right_eq k a _) (Ev.bind (trim_ev ha la) ?_)
  have hd := la.ofv ha
  have hu := hd
  unfold Lb at hu
  have epow : val a / 2 ^ n = val ((digs (val a)).drop (n / 64)) / 2 ^ (n % 64) := by
    rw [val_drop_div (WF.digs _), val_digs, Nat.div_div_eq_div_mul, ← two_64, ← Nat.pow_add]
    congr 2; omega
  rw [show (64 : Int) = ((64 : Nat) : Int) from rfl, tdiv_nat, tmod_nat, wrapI (x := ((n / 64 : Nat) : Int)) (by omega) (by omega), epow]
  by_cases c : n / 64 ≥ (digs (val a)).length
  · refine Ev.pos (dT (by omega)) (Ev.eq (Ev.some _) ?_)
    rw [List.drop_of_length_le c]
    simp [val, digs_zero]
  · refine Ev.neg (dF (by omega)) ?_
    rw [sub_i _ _ (by omega) (by omega), Int.toNat_natCast]
    refine Ev.pos ⟨by omega, by omega⟩ ?_
    rw [List.length_replicate]
    exact (right_l0 (WF.digs (val a)) hd (w := n / 64) (s := n % 64) (Nat.mod_lt _ (by decide)) (by omega) ((digs (val a)).length - n / 64) 0 (List.replicate ((digs (val a)).length - n / 64) 0) (by omega) (WF.replicate _) (by simp) (by simp [val])).ev

theorem Shr_ev {a : List Int} (ha : WF a) (la : Lb a) (n : Nat) (hn : n < 9223372036854775808) : Ev (fun k => nat_Shr k a (n : Int)) (digs (val a / 2 ^ n), (0 : Int)) :=
  Ev.congr (fun k => nat_Shr_eq k a _) (Ev.neg (dF (by omega)) (Ev.bind (right_ev ha la n hn) (Ev.some _)))
end Go.Proofs.YtmoeaeflljpboaaDoor.X
