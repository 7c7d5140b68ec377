/- Plain law: what the functions of naturals answer: Add, Sub, product, Mul. Conditions: the words are words, the lists are not longer than memory. -/
import Derived.Test.YtmoeaeflljpboaaDoorNatA
namespace Go.Proofs.YtmoeaeflljpboaaDoor.X
open Go Go.Rex
set_option linter.unusedVariables false

theorem take_succ_val' (a : List Int) (i : Nat) : val (a.take (i + 1)) = val (a.take i) + 18446744073709551616 ^ i * (a.getD i 0).toNat := by
  rcases Nat.lt_or_ge i a.length with h | h
  · exact take_succ_val a h
  · rw [List.take_of_length_le (by omega), List.take_of_length_le (by omega)]
    simp [List.getD_eq_getElem?_getD, List.getElem?_eq_none h]
theorem getD_ge (a : List Int) {i : Nat} (h : a.length ≤ i) : a.getD i 0 = 0 := by simp [List.getD_eq_getElem?_getD, List.getElem?_eq_none h]
theorem take_set_ne (a : List Int) (i : Nat) (x : Int) : (a.set i x).take i = a.take i := by rw [List.take_set_of_le (Nat.le_refl i)]
theorem take_set_succ (a : List Int) {i : Nat} (h : i < a.length) (x : Int) : val ((a.set i x).take (i + 1)) = val (a.take i) + 18446744073709551616 ^ i * x.toNat := by
  rw [take_succ_val', take_set_ne, getD_set_self a h]
theorem pow_s (i : Nat) : 18446744073709551616 ^ (i + 1) = 18446744073709551616 ^ i * 18446744073709551616 := Nat.pow_succ ..

/-! ### bits -/
theorem add64_ev {x y c : Nat} (hc : c ≤ 1) : Ev (fun k => bits_Add64 k (x : Int) (y : Int) (c : Int)) (((((x + y + c) % 18446744073709551616 : Nat) : Int)), ((((x + y + c) / 18446744073709551616 : Nat) : Int))) :=
  Ev.of fun k => by
    show add64F k _ _ _ = _
    unfold add64F
    rw [if_pos ⟨by omega, by omega, by omega, by omega⟩]
    rfl
/-- Two words and a carry. -/
theorem add_step {x y c : Nat} (hx : x < 18446744073709551616) (hy : y < 18446744073709551616) (hc : c ≤ 1) : ∃ s d : Nat, (x + y + c) % 18446744073709551616 = s ∧ (x + y + c) / 18446744073709551616 = d ∧ s < 18446744073709551616 ∧ d ≤ 1 ∧ s + 18446744073709551616 * d = x + y + c :=
  ⟨_, _, rfl, rfl, by omega, by omega, by omega⟩
theorem sub64_ev {x y c : Nat} (hx : x < 18446744073709551616) (hy : y < 18446744073709551616) (hc : c ≤ 1) : ∃ s d : Nat, s < 18446744073709551616 ∧ d ≤ 1 ∧ s + y + c = x + 18446744073709551616 * d ∧ Ev (fun k => bits_Sub64 k (x : Int) (y : Int) (c : Int)) ((s : Int), (d : Int)) := by
  refine ⟨((x : Int) - y - c).toNat + 18446744073709551616 * (if (x : Int) < y + c then 1 else 0) - (if (x : Int) < y + c then 18446744073709551616 - (x + 18446744073709551616 - y - c) else 0), if (x : Int) < y + c then 1 else 0, ?_, ?_, ?_, Ev.of fun k => ?_⟩
  · split <;> omega
  · split <;> omega
  · split <;> omega
  · show sub64F k _ _ _ = _
    unfold sub64F
    rw [if_pos ⟨by omega, by omega, by omega, by omega, by omega⟩]
    split <;> (simp only [Option.some.injEq, Prod.mk.injEq]; omega)
/-! ### Add -/
theorem add_l1 {a b : List Int} (ha : WF a) (hb : WF b) (la : a.length ≤ 17592186044400) (hba : b.length ≤ a.length) (n : Nat) : ∀ (i c : Nat) (s : List Int), i + n = a.length → c ≤ 1 → WF s → s.length = a.length + 1 → val (s.take i) + 18446744073709551616 ^ i * c = val (a.take i) + val (b.take i) →
    Ev2 (fun k m => nat_Add.l1 k m a b (c : Int) (a.length : Int) (i : Int) s) (digs (val a + val b)) := by
  induction n with
  | zero =>
    intro i c s hi hc hs hl hv
    refine Ev2.step (fun k m => nat_Add.l1_eq k m _ _ _ _ _ _) (Ev2.neg (dF (by omega)) (Ev2.pos ⟨by omega, by omega⟩ ?_))
    rw [Int.toNat_natCast]
    have hi' : i = a.length := by omega
    subst hi'
    refine Ev2.call (Ev.eq (trim_ev (hs.set _ (by omega) (by omega)) (by unfold Lb; rw [List.length_set]; omega)) ?_) (Ev2.some _)
    have : val (s.set a.length (c : Int)) = val ((s.set a.length (c : Int)).take (a.length + 1)) := by rw [List.take_of_length_le (by simp; omega)]
    rw [this, take_set_succ s (by omega), Int.toNat_natCast, hv, List.take_length, List.take_of_length_le hba]
  | succ n ih =>
    intro i c s hi hc hs hl hv
    refine Ev2.step (fun k m => nat_Add.l1_eq k m _ _ _ _ _ _) (Ev2.pos (dT (by omega)) ?_)
    rw [Int.toNat_natCast, succ_i i (by omega)]
    have ra := ha.getD i
    have rb := hb.getD i
    obtain ⟨x, ex⟩ := Int.eq_ofNat_of_zero_le ra.1
    obtain ⟨y, ey⟩ := Int.eq_ofNat_of_zero_le rb.1
    have e1 := take_succ_val' a i
    have e2 := take_succ_val' b i
    rw [ex, Int.toNat_natCast] at e1
    rw [ey, Int.toNat_natCast] at e2
    obtain ⟨t, d, h1, h2, h3, h4, h5⟩ := add_step (x := x) (y := y) (by omega) (by omega) hc
    have next : ∀ r, r = b.getD i 0 → Ev2 (fun k m => (bits_Add64 k (a.getD i 0) r (c : Int)).bind fun o => if 0 ≤ (i : Int) ∧ (i : Int) < (s.length : Int) then nat_Add.l1 k m a b o.2 (a.length : Int) ((i + 1 : Nat) : Int) (s.set i o.1) else none) (digs (val a + val b)) := by
      intro r hr
      rw [hr, ex, ey]
      refine Ev2.call (add64_ev hc) (Ev2.pos ⟨by omega, by omega⟩ ?_)
      rw [h1, h2]
      refine ih (i + 1) d _ (by omega) h4 (hs.set _ (by omega) (by omega)) (by simp [hl]) ?_
      rw [take_set_succ s (by omega), Int.toNat_natCast, e1, e2, pow_s]
      grind
    by_cases hib : i < b.length
    · exact Ev2.pos (dT (by omega)) (Ev2.pos ⟨by omega, by omega⟩ (Ev2.pos ⟨by omega, by omega⟩ (next _ rfl)))
    · exact Ev2.neg (dF (by omega)) (Ev2.pos ⟨by omega, by omega⟩ (next 0 (getD_ge b (by omega)).symm))
theorem copy_more (o : List Int) (n : Nat) (h : n = o.length + 1) : ((List.replicate n (0 : Int)).take 0) ++ ((o.take (min o.length ((List.replicate n (0 : Int)).length))) ++ ((List.replicate n (0 : Int)).drop (min o.length ((List.replicate n (0 : Int)).length)))) = o ++ [0] := by
  subst h
  simp [List.drop_replicate]
theorem add_j0 {x y : Nat} (la : (digs x).length ≤ 17592186044400) (hba : (digs y).length ≤ (digs x).length) : Ev (fun k => nat_Add.j0 k (digs x) (digs y)) (digs (x + y)) := by
  refine Ev.congr (fun k => nat_Add.j0_eq k _ _) ?_
  rw [show (((digs x).length : Int) + 1) = (((digs x).length + 1 : Nat) : Int) by omega, wrapI (by omega) (by omega), Int.toNat_natCast, copy_more _ _ rfl]
  refine Ev.pos ⟨by omega, by omega⟩ ?_
  have := (add_l1 (WF.digs x) (WF.digs y) la hba (digs x).length 0 0 (digs x ++ [0]) (by omega) (by omega) ((WF.digs x).append (WF.cons (by omega) (by omega) WF.nil)) (by simp) (by simp [val])).ev
  rwa [val_digs, val_digs] at this
theorem Add_ev {a b : List Int} (ha : WF a) (hb : WF b) (la : Lb a) (lb : Lb b) (ca : (digs (val a)).length ≤ 17592186044400) (cb : (digs (val b)).length ≤ 17592186044400) : Ev (fun k => nat_Add k a b) (digs (val a + val b)) := by
  refine Ev.congr (fun k => nat_Add_eq k a b) (Ev.bind (trim_ev ha la) (Ev.bind (trim_ev hb lb) ?_))
  by_cases c : (digs (val a)).length < (digs (val b)).length
  · refine Ev.pos (dT (by omega)) ?_
    rw [Nat.add_comm]
    exact add_j0 cb (by omega)
  · exact Ev.neg (dF (by omega)) (add_j0 ca (by omega))

/-! ### Sub -/
theorem less_l0 {a b : List Int} (ha : WF a) (hb : WF b) (la : Lb a) (hba : b.length ≤ a.length) (hle : val b ≤ val a) (n : Nat) : ∀ (i c : Nat) (s : List Int), i + n = a.length → c ≤ 1 → WF s → s.length = a.length → (∀ j, i ≤ j → s.getD j 0 = a.getD j 0) → val (s.take i) + val (b.take i) = val (a.take i) + 18446744073709551616 ^ i * c →
    Ev2 (fun k m => nat_less.l0 k m b (c : Int) (a.length : Int) (i : Int) s) (digs (val a - val b)) := by
  unfold Lb at la
  induction n with
  | zero =>
    intro i c s hi hc hs hl hz hv
    refine Ev2.step (fun k m => nat_less.l0_eq k m _ _ _ _ _) (Ev2.neg (dF (by omega)) ?_)
    refine Ev2.call (Ev.eq (trim_ev hs (by unfold Lb; omega)) ?_) (Ev2.some _)
    congr 1
    have e1 : s.take i = s := List.take_of_length_le (by omega)
    have e2 : a.take i = a := List.take_of_length_le (by omega)
    have e3 : b.take i = b := List.take_of_length_le (by omega)
    have h1 := val_lt hs
    rw [show s.length = i by omega] at h1
    rw [e1, e2, e3] at hv
    have : c = 0 ∨ c = 1 := by omega
    rcases this with rfl | rfl
    · omega
    · omega
  | succ n ih =>
    intro i c s hi hc hs hl hz hv
    refine Ev2.step (fun k m => nat_less.l0_eq k m _ _ _ _ _) (Ev2.pos (dT (by omega)) ?_)
    rw [Int.toNat_natCast, succ_i i (by omega)]
    have ra := ha.getD i
    have rb := hb.getD i
    obtain ⟨x, ex⟩ := Int.eq_ofNat_of_zero_le ra.1
    obtain ⟨y, ey⟩ := Int.eq_ofNat_of_zero_le rb.1
    have e1 := take_succ_val' a i
    have e2 := take_succ_val' b i
    rw [ex, Int.toNat_natCast] at e1
    rw [ey, Int.toNat_natCast] at e2
    obtain ⟨t, d, h3, h4, h5, hev⟩ := sub64_ev (x := x) (y := y) (c := c) (by omega) (by omega) hc
    have next : ∀ r, r = b.getD i 0 → Ev2 (fun k m => (bits_Sub64 k (s.getD i 0) r (c : Int)).bind fun o => if 0 ≤ (i : Int) ∧ (i : Int) < (s.length : Int) then nat_less.l0 k m b o.2 (a.length : Int) ((i + 1 : Nat) : Int) (s.set i o.1) else none) (digs (val a - val b)) := by
      intro r hr
      rw [hr, hz i (Nat.le_refl i), ex, ey]
      refine Ev2.call hev (Ev2.pos ⟨by omega, by omega⟩ ?_)
      refine ih (i + 1) d _ (by omega) h4 (hs.set _ (by omega) (by omega)) (by simp [hl]) (fun j hj => by rw [Rex.getD_set_ne s (by omega)]; exact hz j (by omega)) ?_
      rw [take_set_succ s (by omega), Int.toNat_natCast, e1, e2, pow_s]
      grind
    by_cases hib : i < b.length
    · exact Ev2.pos (dT (by omega)) (Ev2.pos ⟨by omega, by omega⟩ (Ev2.pos ⟨by omega, by omega⟩ (next _ rfl)))
    · exact Ev2.neg (dF (by omega)) (Ev2.pos ⟨by omega, by omega⟩ (next 0 (getD_ge b (by omega)).symm))
theorem less_ev {x y : Nat} (la : Lb (digs x)) (hle : y ≤ x) : Ev (fun k => nat_less k (digs x) (digs y)) (digs (x - y)) := by
  refine Ev.congr (fun k => nat_less_eq k _ _) ?_
  have := (less_l0 (WF.digs x) (WF.digs y) la (digs_len_mono hle) (by rw [val_digs, val_digs]; exact hle) (digs x).length 0 0 (digs x) (by omega) (by omega) (WF.digs x) rfl (fun _ _ => rfl) (by simp [val])).ev
  rwa [val_digs, val_digs] at this
theorem Sub_ev {a b : List Int} (ha : WF a) (hb : WF b) (la : Lb a) (lb : Lb b) (hle : val b ≤ val a) : Ev (fun k => nat_Sub k a b) (digs (val a - val b), (0 : Int)) := by
  refine Ev.congr (fun k => nat_Sub_eq k a b) (Ev.bind (Cmp_ev ha hb la lb) ?_)
  refine Ev.neg (dF (by unfold cmpN; split <;> (try split) <;> omega)) ?_
  exact Ev.bind (copied_ev ha la) (Ev.bind (trim_ev hb lb) (Ev.bind (less_ev (la.ofv ha) hle) (Ev.some _)))
theorem Sub_less {a b : List Int} (ha : WF a) (hb : WF b) (la : Lb a) (lb : Lb b) (hlt : val a < val b) : Ev (fun k => nat_Sub k a b) (([] : List Int), (20 : Int)) := by
  refine Ev.congr (fun k => nat_Sub_eq k a b) (Ev.bind (Cmp_ev ha hb la lb) ?_)
  exact Ev.pos (dT (by rw [cmpN, if_pos hlt]; omega)) (Ev.some _)
end Go.Proofs.YtmoeaeflljpboaaDoor.X
