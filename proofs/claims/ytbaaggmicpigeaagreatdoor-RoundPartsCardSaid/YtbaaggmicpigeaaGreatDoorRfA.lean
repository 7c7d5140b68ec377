/- Plain law: what the reference's naturals answer (size, Trim, Len, Cmp, Add, less, Sub, Bit, up, down, quotient), by the numbers that the lists are. Conditions: the words are words, the lists are not longer than memory. -/
import Derived.Test.YtbaaggmicpigeaaGreatDoorNatLen
import Derived.Test.YtbaaggmicpigeaaGreatDoorDyRaise
namespace Go.Proofs.YtbaaggmicpigeaaGreatDoor.X
open Go Go.Rex
set_option linter.unusedVariables false

/-! ### Lists and their numbers -/
theorem val_inj : ∀ {a b : List Int}, WF a → WF b → a.length = b.length → val a = val b → a = b
  | [], [], _, _, _, _ => rfl
  | [], _ :: _, _, _, h, _ => by simp at h
  | _ :: _, [], _, _, h, _ => by simp at h
  | x :: r, y :: s, ha, hb, h, hv => by
    have h1 := ha.head
    have h2 := hb.head
    rw [val_cons, val_cons] at hv
    have e1 : x = y := by omega
    have e2 : val r = val s := by omega
    rw [e1, val_inj ha.tail hb.tail (by simpa using h) e2]
theorem size_le (a : List Int) (h : WF a) : (digs (val a)).length ≤ a.length := digs_length_lt.2 (val_lt h)
theorem val_take_size {a : List Int} (h : WF a) {n : Nat} (hn : (digs (val a)).length ≤ n) : val (a.take n) = val a := by
  have h1 := val_take_drop a n
  have h2 := digs_length_lt.1 hn
  have h3 := W_pow_pos n
  rcases Nat.eq_zero_or_pos (val (a.drop n)) with h4 | h4
  · rw [h4] at h1; omega
  · have := Nat.mul_le_mul_left (18446744073709551616 ^ n) h4; omega
theorem val_drop_size {a : List Int} (h : WF a) {n : Nat} (hn : (digs (val a)).length ≤ n) : val (a.drop n) = 0 := by
  have h1 := val_take_drop a n
  have h2 := val_take_size h hn
  rcases Nat.eq_zero_or_pos (val (a.drop n)) with h4 | h4
  · exact h4
  · have := Nat.mul_pos (W_pow_pos n) h4; omega
theorem take_digs {a : List Int} (h : WF a) : a.take (digs (val a)).length = digs (val a) := by
  refine val_inj (h.take _) (WF.digs _) ?_ ?_
  · rw [List.length_take, Nat.min_eq_left (size_le a h)]
  · rw [val_take_size h (Nat.le_refl _), val_digs]
theorem zero_words {a : List Int} (h : WF a) (h0 : val a = 0) (j : Nat) : a.getD j 0 = 0 := by
  induction a generalizing j with
  | nil => simp
  | cons x r ih =>
    have := h.head
    rw [val_cons] at h0
    cases j with
    | zero => simp; omega
    | succ j => simpa using ih h.tail (by omega) j
theorem getD_digs {a : List Int} (h : WF a) (j : Nat) : a.getD j 0 = (digs (val a)).getD j 0 := by
  rcases Nat.lt_or_ge j (digs (val a)).length with hj | hj
  · conv => rhs; rw [← take_digs h]
    simp [List.getD_eq_getElem?_getD, hj]
  · rw [getD_ge (digs (val a)) hj]
    have := zero_words (h.drop _) (val_drop_size h (Nat.le_refl _)) (j - (digs (val a)).length)
    rw [List.getD_eq_getElem?_getD, List.getElem?_drop, show (digs (val a)).length + (j - (digs (val a)).length) = j by omega] at this
    rw [List.getD_eq_getElem?_getD]; exact this
theorem word_nat {a : List Int} (h : WF a) (j : Nat) : ∃ x : Nat, x < 18446744073709551616 ∧ a.getD j 0 = (x : Int) := by
  have r := h.getD j
  obtain ⟨x, ex⟩ := Int.eq_ofNat_of_zero_le r.1
  exact ⟨x, by omega, ex⟩
theorem word_val {a : List Int} (h : WF a) (j : Nat) : (a.getD j 0).toNat = val a / 18446744073709551616 ^ j % 18446744073709551616 := by
  rw [← val_drop_div h j]
  rcases Nat.lt_or_ge j a.length with hj | hj
  · rw [drop_val a hj, Nat.add_mul_mod_self_left, Nat.mod_eq_of_lt (getD_toNat_lt h j)]
  · rw [getD_ge a hj, List.drop_of_length_le hj]; rfl

/-! ### size, Trim, Len -/
theorem rsize_l0 {a : List Int} (hw : WF a) (hl : Lb a) (n : Nat) : n ≤ a.length → Ev2 (fun k m => vernierref02_size.l0 k m a (n : Int)) ((digs (val (a.take n))).length : Int) := by
  unfold Lb at hl
  induction n with
  | zero =>
    intro _
    refine Ev2.step (fun k m => vernierref02_size.l0_eq k m _ _) ?_
    refine Ev2.neg (dF (by omega)) (Ev2.eq (Ev2.some _) ?_)
    simp [val, digs_zero]
  | succ n ih =>
    intro hn
    refine Ev2.step (fun k m => vernierref02_size.l0_eq k m _ _) ?_
    rw [pred_i n (by omega)]
    refine Ev2.pos (dT (by omega)) (Ev2.pos ⟨by omega, by omega⟩ ?_)
    rw [Int.toNat_natCast]
    by_cases h : a.getD n 0 = 0
    · refine Ev2.pos (bT h) ?_
      have := ih (by omega)
      rw [take_succ_val a (by omega), h]; simpa using this
    · refine Ev2.neg (bF h) (Ev2.eq (Ev2.some _) ?_)
      rw [digs_val (neat_take hn (.inr (by simpa using h))) (hw.take _)]
      simp; omega
theorem rsize_ev {a : List Int} (hw : WF a) (hl : Lb a) : Ev (fun k => vernierref02_size k a) ((digs (val a)).length : Int) := by
  refine Ev.congr (fun k => vernierref02_size_eq k a) ?_
  have := (rsize_l0 hw hl a.length (Nat.le_refl _)).ev
  rwa [List.take_length] at this
theorem copy_part (o : List Int) (n : Nat) (h : n ≤ o.length) : ((List.replicate n (0 : Int)).take 0) ++ ((o.take (min o.length ((List.replicate n (0 : Int)).length))) ++ ((List.replicate n (0 : Int)).drop (min o.length ((List.replicate n (0 : Int)).length)))) = o.take n := by
  rw [List.length_replicate, Nat.min_eq_right h]; simp
theorem rTrim_ev {a : List Int} (hw : WF a) (hl : Lb a) : Ev (fun k => vernierref02_Trim k a) (digs (val a)) := by
  have hs := size_le a hw
  unfold Lb at hl
  refine Ev.congr (fun k => vernierref02_Trim_eq k a) (Ev.bind (rsize_ev hw hl) (Ev.pos ⟨by omega, by omega⟩ (Ev.eq (Ev.some _) ?_)))
  rw [Int.toNat_natCast, copy_part _ _ hs, take_digs hw]
theorem rLen_l0 {s : Nat} (hs0 : 0 < s) (hs : s ≤ 17592186044416) (w : Nat) : ∀ c : Nat, c + blen w ≤ 64 → w < 18446744073709551616 → Ev2 (fun k m => vernierref02_Len.l0 k m (s : Int) (c : Int) (w : Int)) (((64 * (s - 1) + c + blen w : Nat)) : Int) := by
  induction w using Nat.strongRecOn with
  | _ w ih =>
    intro c hc hw
    refine Ev2.step (fun k m => vernierref02_Len.l0_eq k m _ _ _) ?_
    by_cases h : w = 0
    · subst h
      refine Ev2.neg (dF (by omega)) (Ev2.eq (Ev2.some _) ?_)
      rw [wrapI (x := (s : Int) - 1) (by omega) (by omega), wrapI (x := 64 * ((s : Int) - 1)) (by omega) (by omega), wrapI (by omega) (by omega), blen_zero]
      omega
    · have hb := blen_half h
      have e1 : shrK .u64 (w : Int) 1 = ((w / 2 : Nat) : Int) := shrK_nat w 1 (by decide)
      refine Ev2.pos (dT (by omega)) ?_
      rw [e1, succ_i c (by omega)]
      refine Ev2.eq (ih (w / 2) (by omega) (c + 1) (by omega) (by omega)) ?_
      rw [hb]; omega
theorem rLen_ev {a : List Int} (ha : WF a) (la : Lb a) : Ev (fun k => vernierref02_Len k a) ((blen (val a) : Nat) : Int) := by
  have hs := size_le a ha
  unfold Lb at la
  refine Ev.congr (fun k => vernierref02_Len_eq k a) (Ev.bind (rsize_ev ha la) ?_)
  by_cases hv : val a = 0
  · rw [hv, digs_zero]
    exact Ev.pos (bT rfl) (Ev.some _)
  · have hlen := digs_len_pos.2 hv
    refine Ev.neg (bF (by omega)) ?_
    rw [show IntKind.i64.wrap (((digs (val a)).length : Int) - 1) = (((digs (val a)).length - 1 : Nat) : Int) by rw [wrapI] <;> omega, Int.toNat_natCast, getD_digs ha]
    obtain ⟨t, ht, et⟩ := word_nat (WF.digs (val a)) ((digs (val a)).length - 1)
    have hb := blen_words hv et
    have hbt : blen t ≤ 64 := blen_bound (k := 64) ht
    rw [et]
    refine Ev.pos ⟨by omega, by omega⟩ (Ev.eq (rLen_l0 hlen (by omega) t 0 (by omega) ht).ev ?_)
    rw [hb]; omega
/-! ### Cmp -/
theorem rCmp_l0 {a b : List Int} (ha : WF a) (hb : WF b) (hl : Lb a) (n : Nat) : n ≤ a.length → n ≤ b.length → Ev2 (fun k m => vernierref02_Cmp.l0 k m a b ((n : Int) - 1)) (cmpN (val (a.take n)) (val (b.take n))) := by
  unfold Lb at hl
  induction n with
  | zero =>
    intro _ _
    refine Ev2.step (fun k m => vernierref02_Cmp.l0_eq k m _ _ _) ?_
    exact Ev2.neg (dF (by omega)) (Ev2.eq (Ev2.some _) (by simp [val, cmpN]))
  | succ n ih =>
    intro hn hn2
    refine Ev2.step (fun k m => vernierref02_Cmp.l0_eq k m _ _ _) ?_
    rw [show (((n + 1 : Nat) : Int) - 1) = (n : Int) by omega, Int.toNat_natCast, take_succ_val a (by omega), take_succ_val b (by omega)]
    have h1 := ha.getD n
    have h2 := hb.getD n
    have t1 := take_val_lt ha n
    have t2 := take_val_lt hb n
    refine Ev2.pos (dT (by omega)) (Ev2.pos ⟨by omega, by omega⟩ (Ev2.pos ⟨by omega, by omega⟩ ?_))
    by_cases c1 : a.getD n 0 < b.getD n 0
    · refine Ev2.pos (dT c1) (Ev2.eq (Ev2.some _) ?_)
      have : 18446744073709551616 ^ n * ((a.getD n 0).toNat + 1) ≤ 18446744073709551616 ^ n * (b.getD n 0).toNat := Nat.mul_le_mul_left _ (by omega)
      rw [Nat.mul_add] at this
      rw [cmpN, if_pos (by omega)]
    · refine Ev2.neg (dF c1) (Ev2.pos ⟨by omega, by omega⟩ (Ev2.pos ⟨by omega, by omega⟩ ?_))
      by_cases c2 : a.getD n 0 > b.getD n 0
      · refine Ev2.pos (dT c2) (Ev2.eq (Ev2.some _) ?_)
        have : 18446744073709551616 ^ n * ((b.getD n 0).toNat + 1) ≤ 18446744073709551616 ^ n * (a.getD n 0).toNat := Nat.mul_le_mul_left _ (by omega)
        rw [Nat.mul_add] at this
        rw [cmpN, if_neg (by omega), if_pos (by omega)]
      · refine Ev2.neg (dF c2) ?_
        rw [show a.getD n 0 = b.getD n 0 by omega, cmpN_add, show IntKind.i64.wrap ((n : Int) - 1) = (n : Int) - 1 by rw [wrapI] <;> omega]
        exact ih (by omega) (by omega)
theorem rCmp_ev {a b : List Int} (ha : WF a) (hb : WF b) (la : Lb a) (lb : Lb b) : Ev (fun k => vernierref02_Cmp k a b) (cmpN (val a) (val b)) := by
  have sa := size_le a ha
  have sb := size_le b hb
  have la' := la
  unfold Lb at la lb
  refine Ev.congr (fun k => vernierref02_Cmp_eq k a b) (Ev.bind (rsize_ev ha la) (Ev.bind (rsize_ev hb lb) ?_))
  by_cases c1 : (digs (val a)).length = (digs (val b)).length
  · refine Ev.neg (nF (by omega)) ?_
    rw [show IntKind.i64.wrap (((digs (val b)).length : Int) - 1) = ((digs (val b)).length : Int) - 1 by rw [wrapI] <;> omega]
    have := (rCmp_l0 ha hb la' (digs (val b)).length (by omega) sb).ev
    rw [val_take_size ha (by omega), val_take_size hb (Nat.le_refl _)] at this
    exact this
  · refine Ev.pos (nT (by omega)) ?_
    by_cases c2 : (digs (val a)).length < (digs (val b)).length
    · have := len_lt_val c2
      exact Ev.pos (dT (by omega)) (Ev.eq (Ev.some _) (by rw [cmpN, if_pos this]))
    · have := len_lt_val (show (digs (val b)).length < (digs (val a)).length by omega)
      exact Ev.neg (dF (by omega)) (Ev.eq (Ev.some _) (by rw [cmpN, if_neg (by omega), if_pos this]))
theorem rat_ev (a : List Int) (i : Nat) : Ev (fun k => vernierref02_at k a (i : Int)) (a.getD i 0) := by
  refine Ev.congr (fun k => vernierref02_at_eq k _ _) ?_
  by_cases c : i < a.length
  · exact Ev.pos (dT (by omega)) (Ev.pos ⟨by omega, by omega⟩ (Ev.eq (Ev.some _) (by rw [Int.toNat_natCast])))
  · exact Ev.neg (dF (by omega)) (Ev.eq (Ev.some _) (getD_ge a (by omega)).symm)
/-! ### Add -/
theorem rAdd_l1 {a b : List Int} (ha : WF a) (hb : WF b) {N : Nat} (hN : N ≤ 17592186044415) (n : Nat) : ∀ (i c : Nat) (s : List Int), i + n = N → c ≤ 1 → WF s → s.length = N + 1 → val (s.take i) + 18446744073709551616 ^ i * c = val (a.take i) + val (b.take i) →
    Ev2 (fun k m => vernierref02_Add.l1 k m a b (N : Int) (c : Int) (i : Int) s) (digs (val (a.take N) + val (b.take N))) := by
  induction n with
  | zero =>
    intro i c s hi hc hs hsl hv
    have hi' : i = N := by omega
    subst hi'
    refine Ev2.step (fun k m => vernierref02_Add.l1_eq k m _ _ _ _ _ _) (Ev2.neg (dF (by omega)) (Ev2.pos ⟨by omega, by omega⟩ (Ev2.call (rTrim_ev (hs.set _ (by omega) (by omega)) (by unfold Lb; rw [List.length_set]; omega)) (Ev2.eq (Ev2.some _) ?_))))
    rw [Int.toNat_natCast]
    congr 1
    have := take_set_succ s (i := i) (by omega) (c : Int)
    rw [List.take_of_length_le (by rw [List.length_set]; omega), Int.toNat_natCast] at this
    omega
  | succ n ih =>
    intro i c s hi hc hs hsl hv
    refine Ev2.step (fun k m => vernierref02_Add.l1_eq k m _ _ _ _ _ _) ?_
    obtain ⟨x, hx, ex⟩ := word_nat ha i
    obtain ⟨y, hy, ey⟩ := word_nat hb i
    have e1 := take_succ_val' a i
    have e2 := take_succ_val' b i
    rw [ex, Int.toNat_natCast] at e1
    rw [ey, Int.toNat_natCast] at e2
    refine Ev2.pos (dT (by omega)) (Ev2.call (rat_ev a i) (Ev2.call (rat_ev b i) ?_))
    rw [ex, ey, Int.toNat_natCast, succ_i i (by omega)]
    have next : ∀ z d : Nat, z < 18446744073709551616 → d ≤ 1 → z + 18446744073709551616 * d = x + y + c → Ev2 (fun k m => vernierref02_Add.l1 k m a b (N : Int) (d : Int) ((i + 1 : Nat) : Int) (s.set i (z : Int))) (digs (val (a.take N) + val (b.take N))) := by
      intro z d hz hd hzd
      refine ih (i + 1) d _ (by omega) hd (hs.set _ (by omega) (by omega)) (by rw [List.length_set]; exact hsl) ?_
      rw [take_set_succ s (by omega), e1, e2, Int.toNat_natCast, pow_s]
      generalize 18446744073709551616 ^ i = P at *
      have k1 : P * z + P * 18446744073709551616 * d = P * (x + y + c) := by rw [← hzd, Nat.mul_add, Nat.mul_assoc]
      have k2 : P * (x + y + c) = P * x + P * y + P * c := by rw [Nat.mul_add, Nat.mul_add]
      omega
    have w1 : IntKind.u64.wrap ((x : Int) + (y : Int)) = (((x + y) % 18446744073709551616 : Nat) : Int) := by rw [wrap_u64]; omega
    have w2 : IntKind.u64.wrap ((((x + y) % 18446744073709551616 : Nat) : Int) + (c : Int)) = (((x + y + c) % 18446744073709551616 : Nat) : Int) := by rw [wrap_u64]; omega
    rw [w1, w2]
    by_cases c1 : x + y < 18446744073709551616
    · refine Ev2.neg (dF (by omega)) ?_
      by_cases c2 : x + y + c < 18446744073709551616
      · refine Ev2.neg (dF (by omega)) (Ev2.pos ⟨by omega, by omega⟩ ?_)
        have := next ((x + y + c) % 18446744073709551616) 0 (by omega) (by omega) (by omega)
        exact this
      · refine Ev2.pos (dT (by omega)) (Ev2.pos ⟨by omega, by omega⟩ ?_)
        have := next ((x + y + c) % 18446744073709551616) 1 (by omega) (by omega) (by omega)
        exact this
    · refine Ev2.pos (dT (by omega)) (Ev2.pos ⟨by omega, by omega⟩ ?_)
      have := next ((x + y + c) % 18446744073709551616) 1 (by omega) (by omega) (by omega)
      exact this
theorem rAdd_ev {a b : List Int} (ha : WF a) (hb : WF b) (la : Lb a) (lb : Lb b) (ca : (digs (val a)).length ≤ 17592186044400) (cb : (digs (val b)).length ≤ 17592186044400) : Ev (fun k => vernierref02_Add k a b) (digs (val a + val b)) := by
  refine Ev.congr (fun k => vernierref02_Add_eq k a b) (Ev.bind (rsize_ev ha la) (Ev.bind (rsize_ev hb lb) ?_))
  have j0 : ∀ N : Nat, N ≤ 17592186044400 → (digs (val a)).length ≤ N → (digs (val b)).length ≤ N → Ev (fun k => vernierref02_Add.j0 k a b (N : Int)) (digs (val a + val b)) := by
    intro N hN h1 h2
    refine Ev.congr (fun k => vernierref02_Add.j0_eq k _ _ _) ?_
    rw [succ_i N (by omega), Int.toNat_natCast]
    refine Ev.pos ⟨by omega, by omega⟩ ?_
    have := (rAdd_l1 ha hb (N := N) (by omega) N 0 0 (List.replicate (N + 1) 0) (by omega) (by omega) (WF.replicate _) (by simp) (by simp [val])).ev
    rw [val_take_size ha h1, val_take_size hb h2] at this
    exact this
  by_cases c : (digs (val a)).length < (digs (val b)).length
  · exact Ev.pos (dT (by omega)) (Ev.bind (rsize_ev hb lb) (j0 _ cb (by omega) (Nat.le_refl _)))
  · exact Ev.neg (dF (by omega)) (j0 _ ca (Nat.le_refl _) (by omega))
/-! ### less, Sub -/
theorem rless_l0 {a b : List Int} (ha : WF a) (hb : WF b) (la : Lb a) (hle : val b ≤ val a) (n : Nat) : ∀ (i c : Nat) (s : List Int), i + n = (digs (val a)).length → c ≤ 1 → WF s → s.length = (digs (val a)).length → val (s.take i) + val (b.take i) = val (a.take i) + 18446744073709551616 ^ i * c →
    Ev2 (fun k m => vernierref02_less.l0 k m a b ((digs (val a)).length : Int) (c : Int) (i : Int) s) (digs (val a - val b)) := by
  have sa := size_le a ha
  have sb := digs_len_mono hle
  unfold Lb at la
  induction n with
  | zero =>
    intro i c s hi hc hs hsl hv
    refine Ev2.step (fun k m => vernierref02_less.l0_eq k m _ _ _ _ _ _) (Ev2.neg (dF (by omega)) (Ev2.call (rTrim_ev hs (by unfold Lb; omega)) (Ev2.eq (Ev2.some _) ?_)))
    rw [List.take_of_length_le (by omega), val_take_size ha (by omega), val_take_size hb (by omega)] at hv
    have h1 := val_lt hs
    rw [hsl, show (digs (val a)).length = i by omega] at h1
    have hc0 : c = 0 := by
      rcases (show c = 0 ∨ c = 1 by omega) with h | h
      · exact h
      · subst h; omega
    subst hc0
    congr 1; omega
  | succ n ih =>
    intro i c s hi hc hs hsl hv
    refine Ev2.step (fun k m => vernierref02_less.l0_eq k m _ _ _ _ _ _) ?_
    obtain ⟨x, hx, ex⟩ := word_nat ha i
    obtain ⟨y, hy, ey⟩ := word_nat hb i
    have e1 := take_succ_val' a i
    have e2 := take_succ_val' b i
    rw [ex, Int.toNat_natCast] at e1
    rw [ey, Int.toNat_natCast] at e2
    refine Ev2.pos (dT (by omega)) (Ev2.pos ⟨by omega, by omega⟩ (Ev2.call (rat_ev b i) (Ev2.pos ⟨by omega, by omega⟩ ?_)))
    rw [Int.toNat_natCast, ex, ey, succ_i i (by omega)]
    have next : ∀ z d : Nat, z < 18446744073709551616 → d ≤ 1 → z + y + c = x + 18446744073709551616 * d → Ev2 (fun k m => vernierref02_less.l0 k m a b ((digs (val a)).length : Int) (d : Int) ((i + 1 : Nat) : Int) (s.set i (z : Int))) (digs (val a - val b)) := by
      intro z d hz hd hzd
      refine ih (i + 1) d _ (by omega) hd (hs.set _ (by omega) (by omega)) (by rw [List.length_set]; exact hsl) ?_
      rw [take_set_succ s (by omega), e1, e2, Int.toNat_natCast, pow_s]
      generalize 18446744073709551616 ^ i = P at *
      have k1 : P * (z + y + c) = P * x + P * 18446744073709551616 * d := by rw [hzd, Nat.mul_add, Nat.mul_assoc]
      have k2 : P * (z + y + c) = P * z + P * y + P * c := by rw [Nat.mul_add, Nat.mul_add]
      omega
    obtain ⟨z, hz⟩ : ∃ z : Nat, IntKind.u64.wrap ((IntKind.u64.wrap ((x : Int) - (y : Int))) - (c : Int)) = (z : Int) := ⟨(IntKind.u64.wrap ((IntKind.u64.wrap ((x : Int) - (y : Int))) - (c : Int))).toNat, by rw [wrap_u64]; omega⟩
    have hz2 := hz
    rw [wrap_u64, wrap_u64] at hz2
    rw [hz]
    have cz : (c : Int) = 0 ∨ (c : Int) = 1 := by omega
    by_cases c1 : x < y
    · exact Ev2.pos (dT (by omega)) (next z 1 (by omega) (by omega) (by omega))
    · refine Ev2.neg (dF (by omega)) ?_
      by_cases c2 : x = y
      · refine Ev2.pos (bT (by omega)) ?_
        by_cases c3 : c = 1
        · exact Ev2.pos (bT (by omega)) (next z 1 (by omega) (by omega) (by omega))
        · exact Ev2.neg (bF (by omega)) (next z 0 (by omega) (by omega) (by omega))
      · exact Ev2.neg (bF (by omega)) (next z 0 (by omega) (by omega) (by omega))
theorem rless_ev {a b : List Int} (ha : WF a) (hb : WF b) (la : Lb a) (hle : val b ≤ val a) : Ev (fun k => vernierref02_less k a b) (digs (val a - val b)) := by
  have sa := size_le a ha
  have la' := la
  unfold Lb at la
  refine Ev.congr (fun k => vernierref02_less_eq k a b) (Ev.bind (rsize_ev ha la) (Ev.pos ⟨by omega, by omega⟩ ?_))
  rw [Int.toNat_natCast]
  exact (rless_l0 ha hb la' hle (digs (val a)).length 0 0 (List.replicate (digs (val a)).length 0) (by omega) (by omega) (WF.replicate _) (by simp) (by simp [val])).ev
/-! ### Bit -/
theorem rBit_ev {a : List Int} (ha : WF a) (i : Nat) (hi : i < 9223372036854775808) : Ev (fun k => vernierref02_Bit k a (i : Int)) ((val a / 2 ^ i % 2 : Nat) : Int) := by
  refine Ev.congr (fun k => vernierref02_Bit_eq k _ _) (Ev.neg (dF (by omega)) ?_)
  rw [show (64 : Int) = ((64 : Nat) : Int) from rfl, tdiv_nat, tmod_nat, wrapI (x := ((i / 64 : Nat) : Int)) (by omega) (by omega), wrapUn (n := i % 64) (by omega), Int.toNat_natCast]
  have hval : val a / 2 ^ i % 2 = (a.getD (i / 64) 0).toNat / 2 ^ (i % 64) % 2 := by
    rw [word_val ha, show 2 ^ i = 18446744073709551616 ^ (i / 64) * 2 ^ (i % 64) by rw [← two_64, ← Nat.pow_add]; congr 1; omega, ← Nat.div_div_eq_div_mul]
    generalize val a / 18446744073709551616 ^ (i / 64) = v
    have hs : i % 64 < 64 := Nat.mod_lt _ (by decide)
    obtain ⟨d, hd⟩ : ∃ d, 64 - i % 64 = d + 1 := ⟨63 - i % 64, by omega⟩
    have hw := w_eq (i % 64) hs
    rw [hd] at hw
    rw [← hw, Nat.mod_mul_right_div_self, Nat.mod_mod_of_dvd _ ⟨2 ^ d, by rw [Nat.pow_succ, Nat.mul_comm]⟩]
  rw [hval]
  by_cases c : i / 64 ≥ a.length
  · refine Ev.pos (dT (by omega)) (Ev.eq (Ev.some _) ?_)
    rw [getD_ge a c]; simp
  · obtain ⟨x, hx, ex⟩ := word_nat ha (i / 64)
    refine Ev.neg (dF (by omega)) (Ev.pos ⟨by omega, by omega⟩ (Ev.pos (by omega) (Ev.eq (Ev.some _) ?_)))
    rw [ex, shrK_nat x _ (by omega), Int.toNat_natCast, andK_one _ (Nat.lt_of_le_of_lt (Nat.div_le_self _ _) hx)]
/-! ### up -/
theorem rup_l0 {a : List Int} (ha : WF a) (la : Lb a) {t : Nat} {w s K : Nat} (ht : t = 64 * w + s) (ht64 : t < 1000000000000000) (hK : K = (digs (val a)).length) (hs : s < 64) (hl : w + K + 1 ≤ 17592186044416) (n : Nat) : ∀ (i : Nat) (p : List Int), i + n = K → WF p → p.length = w + K + 1 → (∀ j, w + i + 1 ≤ j → p.getD j 0 = 0) → (p.getD (w + i) 0).toNat < 2 ^ s → val p = 18446744073709551616 ^ w * (val (a.take i) * 2 ^ s) →
    Ev2 (fun k m => vernierref02_up.l0 k m a (t : Int) (K : Int) (i : Int) p) (digs (18446744073709551616 ^ w * (val a * 2 ^ s))) := by
  have sa := size_le a ha
  unfold Lb at la
  induction n with
  | zero =>
    intro i p hi hp hpl hz hc hv
    refine Ev2.step (fun k m => vernierref02_up.l0_eq k m _ _ _ _ _) (Ev2.neg (dF (by omega)) (Ev2.call (Ev.eq (rTrim_ev hp (by unfold Lb; omega)) ?_) (Ev2.some _)))
    rw [hv, val_take_size ha (by omega)]
  | succ n ih =>
    intro i p hi hp hpl hz hc hv
    refine Ev2.step (fun k m => vernierref02_up.l0_eq k m _ _ _ _ _) ?_
    obtain ⟨x, hxW, ex⟩ := word_nat ha i
    obtain ⟨c, hcc, ec⟩ := word_nat hp (w + i)
    have e1 := take_succ_val' a i
    rw [ex, Int.toNat_natCast] at e1
    rw [ec, Int.toNat_natCast] at hc
    have ew : IntKind.i64.wrap ((t : Int).tdiv 64) = (w : Int) := by
      rw [show (64 : Int) = ((64 : Nat) : Int) from rfl, tdiv_nat, wrapI (by omega) (by omega)]; omega
    have es : (t : Int).tmod 64 = (s : Int) := by
      rw [show (64 : Int) = ((64 : Nat) : Int) from rfl, tmod_nat]; omega
    have es2 : IntKind.u64.wrap (s : Int) = (s : Int) := wrapUn (by omega)
    have e64 : IntKind.u64.wrap (IntKind.i64.wrap (64 - (s : Int))) = ((64 - s : Nat) : Int) := by rw [wrapI (by omega) (by omega), wrap_u64]; omega
    rw [ew, es, es2, e64, add_i i w (by omega), show i + w = w + i by omega, succ_i (w + i) (by omega), succ_i i (by omega), Int.toNat_natCast, Int.toNat_natCast, Int.toNat_natCast, ex, ec]
    obtain ⟨lo, hi', h1, h2, h3, h4, h5, h6⟩ := shl_word (x := x) (s := s) hxW hs
    rw [shlK_nat x s (by omega), h1, shrK_nat x (64 - s) (by omega), h2]
    have hsum : lo + c < 18446744073709551616 := or_room hs hc h5 h6
    have hhi : hi' < 18446744073709551616 := Nat.lt_trans h4 (Nat.pow_lt_pow_right (m := s) (n := 64) (by decide) hs)
    rw [orK_add' c lo s hc h6 (by omega)]
    clear h6
    have l1 : w + i < p.length := by omega
    have l2 : w + i + 1 < (p.set (w + i) ((c + lo : Nat) : Int)).length := by rw [List.length_set]; omega
    refine Ev2.pos (dT (by omega)) (Ev2.pos ⟨by omega, by omega⟩ (Ev2.pos ⟨by omega, by omega⟩ (Ev2.pos (by omega) (Ev2.pos ⟨by omega, by omega⟩ ?_))))
    by_cases cs : 0 < s
    · refine Ev2.pos (dT (by omega)) (Ev2.pos ⟨by omega, by omega⟩ (Ev2.pos (by omega) (Ev2.pos ⟨by omega, by omega⟩ ?_)))
      have q1 : WF ((p.set (w + i) ((c + lo : Nat) : Int)).set (w + i + 1) (hi' : Int)) := (hp.set _ (by omega) (by omega)).set _ (by omega) (by omega)
      have q2 : ((p.set (w + i) ((c + lo : Nat) : Int)).set (w + i + 1) (hi' : Int)).length = w + K + 1 := by rw [List.length_set, List.length_set, hpl]
      have q3 : ∀ j, w + (i + 1) + 1 ≤ j → ((p.set (w + i) ((c + lo : Nat) : Int)).set (w + i + 1) (hi' : Int)).getD j 0 = 0 := fun j hj => by
        rw [Rex.getD_set_ne _ (by omega), Rex.getD_set_ne _ (by omega)]; exact hz j (by omega)
      have q4 : (((p.set (w + i) ((c + lo : Nat) : Int)).set (w + i + 1) (hi' : Int)).getD (w + (i + 1)) 0).toNat < 2 ^ s := by
        rw [show w + (i + 1) = w + i + 1 by omega, Rex.getD_set_self _ l2, Int.toNat_natCast]; exact h4
      have n1 : w + i ≠ w + i + 1 := by omega
      have z1 : (p.set (w + i) ((c + lo : Nat) : Int)).getD (w + i + 1) 0 = 0 := by rw [Rex.getD_set_ne p n1]; exact hz _ (by omega)
      refine ih (i + 1) _ (by omega) q1 q2 q3 q4 ?_
      exact left_set l1 l2 ec z1 hv e1 h3
    · refine Ev2.neg (dF (by omega)) ?_
      have hs0 : s = 0 := by omega
      subst hs0
      have q1 : WF (p.set (w + i) ((c + lo : Nat) : Int)) := hp.set _ (by omega) (by omega)
      have q2 : (p.set (w + i) ((c + lo : Nat) : Int)).length = w + K + 1 := by rw [List.length_set, hpl]
      have q3 : ∀ j, w + (i + 1) + 1 ≤ j → (p.set (w + i) ((c + lo : Nat) : Int)).getD j 0 = 0 := fun j hj => by
        rw [Rex.getD_set_ne _ (by omega)]; exact hz j (by omega)
      have q4 : ((p.set (w + i) ((c + lo : Nat) : Int)).getD (w + (i + 1)) 0).toNat < 2 ^ 0 := by
        rw [show w + (i + 1) = w + i + 1 by omega, Rex.getD_set_ne p (by omega), hz _ (by omega)]; decide
      refine ih (i + 1) _ (by omega) q1 q2 q3 q4 ?_
      exact left_set0 l1 ec hv e1 (by rw [Nat.pow_zero, Nat.mul_one] at h1; omega)
theorem rup_ev {a : List Int} (ha : WF a) (la : Lb a) {t : Nat} (ht : t < 1000000000000000) (hl : t / 64 + (digs (val a)).length + 1 ≤ 17592186044416) : Ev (fun k => vernierref02_up k a (t : Int)) (digs (val a * 2 ^ t)) := by
  refine Ev.congr (fun k => vernierref02_up_eq k _ _) (Ev.bind (rsize_ev ha la) ?_)
  have ew : IntKind.i64.wrap ((t : Int).tdiv 64) = ((t / 64 : Nat) : Int) := by
    rw [show (64 : Int) = ((64 : Nat) : Int) from rfl, tdiv_nat, wrapI (by omega) (by omega)]
  rw [ew, add_i _ _ (by omega), succ_i _ (by omega), Int.toNat_natCast]
  refine Ev.pos ⟨by omega, by omega⟩ ?_
  have hrep : ∀ (m j : Nat), (List.replicate m (0 : Int)).getD j 0 = 0 := fun m j => by
    simp [List.getD_eq_getElem?_getD, List.getElem?_replicate]; split <;> rfl
  have := (rup_l0 ha la (t := t) (w := t / 64) (s := t % 64) (by omega) ht rfl (Nat.mod_lt _ (by decide)) hl (digs (val a)).length 0 (List.replicate ((digs (val a)).length + t / 64 + 1) 0) (by omega) (WF.replicate _) (by simp; omega) (fun j _ => hrep _ j) (by rw [hrep]; exact Nat.two_pow_pos _) (by rw [val_replicate]; simp [val])).ev
  refine Ev.eq this ?_
  congr 1
  have : 2 ^ t = 18446744073709551616 ^ (t / 64) * 2 ^ (t % 64) := by
    rw [← two_64, ← Nat.pow_add]; congr 1; omega
  rw [this]; grind
/-! ### down -/
theorem rdown_l0 {a : List Int} (ha : WF a) (la : Lb a) {t w s K : Nat} (ht : t = 64 * w + s) (hs : s < 64) (hK : K = (digs (val a)).length) (hw : w < K) (n : Nat) : ∀ (i : Nat) (p : List Int), i + n = K - w → WF p → p.length = K - w → val (p.take i) + 18446744073709551616 ^ i * (val ((digs (val a)).drop (w + i)) / 2 ^ s) = val ((digs (val a)).drop w) / 2 ^ s →
    Ev2 (fun k m => vernierref02_down.l0 k m a (t : Int) (K : Int) (i : Int) p) (digs (val ((digs (val a)).drop w) / 2 ^ s)) := by
  have sa := size_le a ha
  unfold Lb at la
  induction n with
  | zero =>
    intro i p hi hp hl hv
    refine Ev2.step (fun k m => vernierref02_down.l0_eq k m _ _ _ _ _) (Ev2.neg (dF (by omega)) (Ev2.call (Ev.eq (rTrim_ev hp (by unfold Lb; omega)) ?_) (Ev2.some _)))
    rw [List.drop_of_length_le (show (digs (val a)).length ≤ w + i by omega), List.take_of_length_le (by omega)] at hv
    rw [← hv]; simp [val]
  | succ n ih =>
    intro i p hi hp hl hv
    refine Ev2.step (fun k m => vernierref02_down.l0_eq k m _ _ _ _ _) ?_
    obtain ⟨x, hxW, ex⟩ := word_nat ha (w + i)
    obtain ⟨y, hyW, ey⟩ := word_nat ha (w + i + 1)
    have ex' := ex
    have ey' := ey
    rw [getD_digs ha] at ex' ey'
    obtain ⟨o, h1, h2, h3, h4, h5⟩ := right_word (WF.digs (val a)) (w + i) hs
    have h3 := h3 (by omega)
    rw [ex', ey', Int.toNat_natCast, Int.toNat_natCast] at h2
    rw [ex', Int.toNat_natCast] at h4
    rw [ey', Int.toNat_natCast] at h5
    have ew : IntKind.i64.wrap ((t : Int).tdiv 64) = (w : Int) := by
      rw [show (64 : Int) = ((64 : Nat) : Int) from rfl, tdiv_nat, wrapI (by omega) (by omega)]; omega
    have es : (t : Int).tmod 64 = (s : Int) := by
      rw [show (64 : Int) = ((64 : Nat) : Int) from rfl, tmod_nat]; omega
    have es2 : IntKind.u64.wrap (s : Int) = (s : Int) := wrapUn (by omega)
    have e64 : IntKind.u64.wrap (IntKind.i64.wrap (64 - (s : Int))) = ((64 - s : Nat) : Int) := by rw [wrapI (by omega) (by omega), wrap_u64]; omega
    rw [ew, es, es2, e64, add_i i w (by omega), show i + w = w + i by omega, succ_i (w + i) (by omega), succ_i i (by omega), Int.toNat_natCast, Int.toNat_natCast, Int.toNat_natCast, ex, ey, shrK_nat x s (by omega), shlK_nat y (64 - s) (by omega)]
    have hx2 : x / 2 ^ s ≤ x := Nat.div_le_self _ _
    refine Ev2.pos (dT (by omega)) (Ev2.pos ⟨by omega, by omega⟩ (Ev2.pos (by omega) (Ev2.pos ⟨by omega, by omega⟩ ?_)))
    have next : ∀ q : List Int, WF q → q.length = K - w → q.getD i 0 = (o : Int) → q.take i = p.take i → Ev2 (fun k m => vernierref02_down.l0 k m a (t : Int) (K : Int) ((i + 1 : Nat) : Int) q) (digs (val ((digs (val a)).drop w) / 2 ^ s)) := by
      intro q hq hql hqi hqt
      refine ih (i + 1) q (by omega) hq hql ?_
      rw [take_succ_val', hqi, hqt, Int.toNat_natCast, pow_s, ← hv, h3, show w + (i + 1) = w + i + 1 by omega]
      grind
    have flat : y = 0 ∨ s = 0 → Ev2 (fun k m => vernierref02_down.l0 k m a (t : Int) (K : Int) ((i + 1 : Nat) : Int) (p.set i ((x / 2 ^ s : Nat) : Int))) (digs (val ((digs (val a)).drop w) / 2 ^ s)) := by
      intro h0
      have : x / 2 ^ s = o := by
        rcases h0 with h0 | h0
        · rw [h0, Nat.zero_mul] at h2; simpa using h2
        · subst h0
          rw [show y * 2 ^ (64 - 0) % 18446744073709551616 = 0 from Nat.mul_mod_left _ _] at h2
          simpa using h2
      rw [this]
      exact next _ (hp.set i (x := (o : Int)) (Int.natCast_nonneg _) (Int.ofNat_lt.2 h1)) (by simp [hl]) (Rex.getD_set_self _ (by omega) _ _) (take_set_ne ..)
    by_cases cs : 0 < s
    · refine Ev2.pos (dT (by omega)) ?_
      by_cases c : w + i + 1 < K
      · refine Ev2.pos (dT (by omega)) (Ev2.pos ⟨by omega, by rw [List.length_set]; omega⟩ (Ev2.pos ⟨by omega, by omega⟩ (Ev2.pos (by omega) (Ev2.pos ⟨by omega, by rw [List.length_set]; omega⟩ ?_))))
        rw [Rex.getD_set_self p (i := i) (by omega), orK_add' _ _ (64 - s) h4 h5 (by rw [h2]; exact h1), h2]
        refine next _ ((hp.set i (x := ((x / 2 ^ s : Nat) : Int)) (Int.natCast_nonneg _) (Int.ofNat_lt.2 (Nat.lt_of_le_of_lt hx2 hxW))).set i (x := (o : Int)) (Int.natCast_nonneg _) (Int.ofNat_lt.2 h1)) (by simp [hl]) (Rex.getD_set_self _ (by rw [List.length_set]; omega) _ _) (by rw [take_set_ne, take_set_ne])
      · refine Ev2.neg (dF (by omega)) (flat (.inl ?_))
        have := getD_ge (digs (val a)) (i := w + i + 1) (by omega); omega
    · exact Ev2.neg (dF (by omega)) (flat (.inr (by omega)))
theorem rdown_ev {a : List Int} (ha : WF a) (la : Lb a) (t : Nat) (ht : t < 9223372036854775808) : Ev (fun k => vernierref02_down k a (t : Int)) (digs (val a / 2 ^ t)) := by
  have sa := size_le a ha
  have la' := la
  unfold Lb at la
  refine Ev.congr (fun k => vernierref02_down_eq k _ _) (Ev.bind (rLen_ev ha la') ?_)
  have hlt := blen_lt (val a)
  by_cases c : blen (val a) ≤ t
  · refine Ev.pos (dT (by omega)) (Ev.eq (Ev.some _) ?_)
    rw [Nat.div_eq_of_lt (Nat.lt_of_lt_of_le hlt (Nat.pow_le_pow_right (by decide) c)), digs_zero]
  · refine Ev.neg (dF (by omega)) (Ev.bind (rsize_ev ha la') ?_)
    have hbl : blen (val a) ≤ 64 * (digs (val a)).length := blen_bound (by rw [two_64]; exact digs_length_lt.1 (Nat.le_refl _))
    have ew : IntKind.i64.wrap ((t : Int).tdiv 64) = ((t / 64 : Nat) : Int) := by
      rw [show (64 : Int) = ((64 : Nat) : Int) from rfl, tdiv_nat, wrapI (by omega) (by omega)]
    rw [ew, sub_i _ _ (by omega) (by omega), Int.toNat_natCast]
    refine Ev.pos ⟨by omega, by omega⟩ ?_
    have epow : val a / 2 ^ t = val ((digs (val a)).drop (t / 64)) / 2 ^ (t % 64) := by
      rw [val_drop_div (WF.digs _), val_digs, Nat.div_div_eq_div_mul, ← two_64, ← Nat.pow_add]
      congr 2; omega
    rw [epow]
    exact (rdown_l0 ha la' (t := t) (w := t / 64) (s := t % 64) (by omega) (Nat.mod_lt _ (by decide)) rfl (by omega) ((digs (val a)).length - t / 64) 0 (List.replicate ((digs (val a)).length - t / 64) 0) (by omega) (WF.replicate _) (by simp) (by simp [val])).ev
end Go.Proofs.YtbaaggmicpigeaaGreatDoor.X
