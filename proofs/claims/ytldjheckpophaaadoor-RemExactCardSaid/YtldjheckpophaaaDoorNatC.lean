/- Plain law: what the functions of naturals answer: product, Mul; the first calls (awake). Conditions: the words are words, the lists are not longer than memory. -/
import Derived.Test.YtldjheckpophaaaDoorNatB
namespace Go.Proofs.YtldjheckpophaaaDoor.X
open Go Go.Rex
set_option linter.unusedVariables false

/-! ### product -/
/-- A word times a word, with two more added. -/
theorem mac_step {x y p c : Nat} (hx : x < 18446744073709551616) (hy : y < 18446744073709551616) (hp : p < 18446744073709551616) (hc : c < 18446744073709551616) :
    ∃ l1 c1 l2 c2 r : Nat, (x * y % 18446744073709551616 + p + 0) % 18446744073709551616 = l1 ∧ (x * y % 18446744073709551616 + p + 0) / 18446744073709551616 = c1 ∧ (l1 + c + 0) % 18446744073709551616 = l2 ∧ (l1 + c + 0) / 18446744073709551616 = c2 ∧
      x * y / 18446744073709551616 + c1 + c2 = r ∧ r < 18446744073709551616 ∧ l2 < 18446744073709551616 ∧ c1 ≤ 1 ∧ c2 ≤ 1 ∧ x * y / 18446744073709551616 + c1 < 18446744073709551616 ∧ l2 + 18446744073709551616 * r = x * y + p + c := by
  have := mul_lt' hx hy
  generalize x * y = z at *
  refine ⟨_, _, _, _, _, rfl, rfl, rfl, rfl, rfl, ?_⟩
  omega
theorem prod_l1 {a b : List Int} (ha : WF a) (hb : WF b) (hab : a.length + b.length ≤ 17592186044416) {r : List Int} {i x V : Nat} (hi : i < a.length) (hx : x < 18446744073709551616)
    (out : ∀ p : List Int, WF p → p.length = a.length + b.length → (∀ j, i + 1 + b.length ≤ j → p.getD j 0 = 0) → val p = V + 18446744073709551616 ^ i * x * val b → Ev2 (fun k n => nat_product.l0 k n b a (a.length : Int) ((i + 1 : Nat) : Int) p) r) (n : Nat) :
    ∀ (j c : Nat) (p : List Int), j + n = b.length → c < 18446744073709551616 → WF p → p.length = a.length + b.length → (∀ m, i + b.length ≤ m → p.getD m 0 = 0) → val p + 18446744073709551616 ^ (i + j) * c = V + 18446744073709551616 ^ i * x * val (b.take j) →
      Ev3 (fun k n m => nat_product.l1 k n m b (i : Int) (x : Int) (c : Int) a (a.length : Int) (i : Int) b (b.length : Int) (j : Int) p) r := by
  induction n with
  | zero =>
    intro j c p hj hc hp hl hz hv
    refine Ev3.step (fun k n m => nat_product.l1_eq k n m _ _ _ _ _ _ _ _ _ _ _) (Ev3.neg (dF (by omega)) ?_)
    rw [add_i i b.length (by omega), succ_i i (by omega), Int.toNat_natCast]
    refine Ev3.pos ⟨by omega, by omega⟩ ?_
    have hj' : j = b.length := by omega
    subst hj'
    refine Ev2.ev3 (out _ (hp.set _ (by omega) (by omega)) (by simp [hl]) (fun m hm => ?_) ?_)
    · rw [Rex.getD_set_ne p (by omega)]; exact hz m (by omega)
    · have := set_val p (i := i + b.length) (by omega) (c : Int)
      rw [hz (i + b.length) (by omega), Int.toNat_natCast] at this
      simp only [Int.toNat_zero, Nat.mul_zero, Nat.add_zero] at this
      rw [this, hv, List.take_length]
  | succ n ih =>
    intro j c p hj hc hp hl hz hv
    refine Ev3.step (fun k n m => nat_product.l1_eq k n m _ _ _ _ _ _ _ _ _ _ _) (Ev3.pos (dT (by omega)) (Ev3.pos ⟨by omega, by omega⟩ ?_))
    rw [Int.toNat_natCast, add_i i j (by omega), succ_i j (by omega), Int.toNat_natCast]
    have rb := hb.getD j
    have rp := hp.getD (i + j)
    obtain ⟨y, ey⟩ := Int.eq_ofNat_of_zero_le rb.1
    obtain ⟨q, eq⟩ := Int.eq_ofNat_of_zero_le rp.1
    have e2 := take_succ_val' b j
    rw [ey, Int.toNat_natCast] at e2
    have hset := fun z => set_val p (i := i + j) (by omega) z
    rw [ey, eq]
    obtain ⟨l1, c1, l2, c2, h, h1, h2, h3, h4, h5, h6, h7, h8, h9, h10, h11⟩ := mac_step (x := x) (y := y) (p := q) (c := c) hx (by omega) (by omega) hc
    refine Ev3.call (mul64_ev hx (by omega)) (Ev3.pos ⟨by omega, by omega⟩ (Ev3.call (add64_ev (c := 0) (by omega)) ?_))
    rw [h1, h2]
    refine Ev3.call (add64_ev (c := 0) (by omega)) (Ev3.pos ⟨by omega, by omega⟩ ?_)
    rw [h3, h4, ← Int.natCast_add, wrapUn h10, ← Int.natCast_add, h5, wrapUn h6]
    refine ih (j + 1) h _ (by omega) h6 (hp.set _ (by omega) (by omega)) (by simp [hl]) (fun m hm => by rw [Rex.getD_set_ne p (by omega)]; exact hz m hm) ?_
    have hs := hset (l2 : Int)
    rw [eq, Int.toNat_natCast, Int.toNat_natCast] at hs
    rw [e2, show i + (j + 1) = i + j + 1 by omega, pow_s]
    rw [Nat.pow_add] at *
    generalize 18446744073709551616 ^ i = P at *
    generalize 18446744073709551616 ^ j = Q at *
    generalize val (List.take j b) = T at *
    generalize val (p.set (i + j) ↑l2) = S at *
    generalize val p = O at *
    have k1 : P * Q * (l2 + 18446744073709551616 * h) = P * Q * (x * y + q + c) := by rw [h11]
    have k2 : P * x * (T + Q * y) = P * x * T + P * Q * (x * y) := by grind
    have k3 : P * Q * (x * y + q + c) = P * Q * (x * y) + P * Q * q + P * Q * c := by grind
    have k4 : P * Q * (l2 + 18446744073709551616 * h) = P * Q * l2 + P * Q * 18446744073709551616 * h := by grind
    rw [k2]
    omega
theorem prod_l0 {a b : List Int} (ha : WF a) (hb : WF b) (hab : a.length + b.length ≤ 17592186044416) (n : Nat) : ∀ (i : Nat) (p : List Int), i + n = a.length → WF p → p.length = a.length + b.length → (∀ j, i + b.length ≤ j → p.getD j 0 = 0) → val p = val (a.take i) * val b →
    Ev2 (fun k n => nat_product.l0 k n b a (a.length : Int) (i : Int) p) (digs (val a * val b)) := by
  induction n with
  | zero =>
    intro i p hi hp hl hz hv
    refine Ev2.step (fun k n => nat_product.l0_eq k n _ _ _ _ _) (Ev2.neg (dF (by omega)) ?_)
    refine Ev2.call (Ev.eq (trim_ev hp (by unfold Lb; omega)) ?_) (Ev2.some _)
    rw [hv, List.take_of_length_le (by omega)]
  | succ n ih =>
    intro i p hi hp hl hz hv
    refine Ev2.step (fun k n => nat_product.l0_eq k n _ _ _ _ _) (Ev2.pos (dT (by omega)) (Ev2.pos ⟨by omega, by omega⟩ ?_))
    have ra := ha.getD i
    obtain ⟨x, ex⟩ := Int.eq_ofNat_of_zero_le ra.1
    rw [Int.toNat_natCast, ex]
    have e1 := take_succ_val' a i
    rw [ex, Int.toNat_natCast] at e1
    have := prod_l1 ha hb hab (r := digs (val a * val b)) (i := i) (x := x) (V := val (a.take i) * val b) (by omega) (by omega)
      (fun p' w1 w2 w3 w4 => ih (i + 1) p' (by omega) w1 w2 w3 (by rw [w4, e1]; grind)) b.length 0 0 p (by omega) (by omega) hp hl hz (by rw [hv]; simp [val])
    exact this.ev2
theorem product_ev {a b : List Int} (ha : WF a) (hb : WF b) (la : Lb a) (lb : Lb b) (hab : (digs (val a)).length + (digs (val b)).length ≤ 17592186044416) : Ev (fun k => nat_product k a b) (digs (val a * val b)) := by
  refine Ev.congr (fun k => nat_product_eq k a b) (Ev.bind (trim_ev ha la) (Ev.bind (trim_ev hb lb) ?_))
  rw [add_i _ _ (by omega), Int.toNat_natCast]
  refine Ev.pos ⟨by omega, by omega⟩ ?_
  have := (prod_l0 (WF.digs (val a)) (WF.digs (val b)) hab (digs (val a)).length 0 (List.replicate ((digs (val a)).length + (digs (val b)).length) 0) (by omega) (WF.replicate _) (by simp) (fun j _ => by simp [List.getD_eq_getElem?_getD, List.getElem?_replicate]; split <;> rfl) (by rw [val_replicate]; simp [val])).ev
  rwa [val_digs, val_digs] at this

/-! ### Mul -/
theorem set2 (a b : List Int) : ((List.replicate 2 []).set 0 a).set 1 b = [a, b] := rfl
theorem set1 (a : List Int) : (List.replicate 1 []).set 0 a = [a] := rfl
theorem mul_len {x y m n : Nat} (hx : (digs x).length ≤ m) (hy : (digs y).length ≤ n) : (digs (x * y)).length ≤ m + n := by
  rw [digs_length_lt] at *
  rw [Nat.pow_add]
  exact Nat.mul_lt_mul'' hx hy
/-- A product that is not too long. -/
theorem Mul_ev {a b : List Int} (ha : WF a) (hb : WF b) (la : Lb a) (lb : Lb b) (ca : (digs (val a)).length ≤ 1024) (cb : (digs (val b)).length ≤ 1024) (cp : (digs (val a * val b)).length ≤ 1024) : Ev (fun k => nat_Mul k a b) (digs (val a * val b), (0 : Int)) := by
  refine Ev.congr (fun k => nat_Mul_eq k a b) ?_
  rw [set2]
  refine Ev.bind (Ev.eq (great_ev (l := [a, b]) (fun x hx => ?_) (by simp)) (r' := false) ?_) (Ev.neg (by simp) (Ev.bind (product_ev ha hb la lb (by omega)) ?_))
  · rcases List.mem_cons.1 hx with rfl | hx
    · exact ⟨ha, la⟩
    · rw [List.mem_singleton.1 hx]; exact ⟨hb, lb⟩
  · simp; omega
  · rw [set1]
    refine Ev.bind (Ev.eq (great_ev (l := [digs (val a * val b)]) (fun x hx => ?_) (by simp)) (r' := false) ?_) (Ev.neg (by simp) (Ev.some _))
    · rw [List.mem_singleton.1 hx]; exact ⟨WF.digs _, by unfold Lb; omega⟩
    · simp [val_digs]; omega

end Go.Proofs.YtldjheckpophaaaDoor.X
