/- Plain law: what the functions of naturals answer, in terms of the numbers that the lists are: trim, copied, Cmp, great, same, size. Conditions: the words are words, the lists are not longer than memory. -/
import Derived.Test.YtmoeaeflljpboaaDoorX
import Derived.Test.YtmoeaeflljpboaaDoorR2
namespace Go.Proofs.YtmoeaeflljpboaaDoor.X
open Go Go.Rex
set_option linter.unusedVariables false

theorem dT {p : Prop} [Decidable p] (h : p) : decide p = true := decide_eq_true h
theorem dF {p : Prop} [Decidable p] (h : ¬ p) : ¬ (decide p = true) := fun e => h (of_decide_eq_true e)
theorem bT {x y : Int} (h : x = y) : (x == y) = true := by rw [h]; exact beq_self_eq_true y
theorem bF {x y : Int} (h : x ≠ y) : ¬ ((x == y) = true) := fun e => h (eq_of_beq e)
theorem nT {x y : Int} (h : x ≠ y) : (x != y) = true := by simpa using h
theorem nF {x y : Int} (h : x = y) : ¬ ((x != y) = true) := by simpa using h
theorem tT {b : Bool} (h : b = true) : (b = true) := h
theorem notT {b : Bool} (h : b = false) : (!b) = true := by simp [h]
theorem notF {b : Bool} (h : b = true) : ¬ ((!b) = true) := by simp [h]
/-- One less. -/
theorem pred_i (n : Nat) (h : n < 9223372036854775808) : IntKind.i64.wrap (((n + 1 : Nat) : Int) - 1) = (n : Int) := by rw [wrapI] <;> omega
theorem succ_i (n : Nat) (h : n < 9223372036854775807) : IntKind.i64.wrap ((n : Int) + 1) = ((n + 1 : Nat) : Int) := by rw [wrapI] <;> omega
theorem add_i (n m : Nat) (h : n + m < 9223372036854775808) : IntKind.i64.wrap ((n : Int) + (m : Int)) = ((n + m : Nat) : Int) := by rw [wrapI] <;> omega
theorem sub_i (n m : Nat) (h : n < 9223372036854775808) (hm : m ≤ n) : IntKind.i64.wrap ((n : Int) - (m : Int)) = ((n - m : Nat) : Int) := by rw [wrapI] <;> omega
/-- Not longer than memory. -/
def Lb (a : List Int) : Prop := a.length ≤ 17592186044416
theorem Lb.ofv {a : List Int} (h : Lb a) (hw : WF a) : Lb (digs (val a)) := Nat.le_trans (digs_length_lt.2 (val_lt hw)) h
theorem Lb.small {n k : Nat} (h : n < 18446744073709551616 ^ k) (hk : k ≤ 17592186044416) : Lb (digs n) := Nat.le_trans (digs_length_lt.2 h) hk

theorem copy_all (o : List Int) (n : Nat) (h : n = o.length) : ((List.replicate n (0 : Int)).take 0) ++ ((o.take (min o.length ((List.replicate n (0 : Int)).length))) ++ ((List.replicate n (0 : Int)).drop (min o.length ((List.replicate n (0 : Int)).length)))) = o := by
  subst h; simp

/-! ### trim -/
theorem trim_l0 {a : List Int} (hw : WF a) (hl : Lb a) (n : Nat) : n ≤ a.length → Ev2 (fun k m => nat_trim.l0 k m a (n : Int)) (digs (val (a.take n))) := by
  unfold Lb at hl
  induction n with
  | zero =>
    intro _
    refine Ev2.step (fun k m => nat_trim.l0_eq k m _ _) ?_
    refine Ev2.neg (dF (by omega)) (Ev2.pos ⟨by omega, by omega⟩ (Ev2.eq (Ev2.some _) ?_))
    simp [val, digs_zero]
  | succ n ih =>
    intro hn
    refine Ev2.step (fun k m => nat_trim.l0_eq k m _ _) ?_
    rw [pred_i n (by omega)]
    refine Ev2.pos (dT (by omega)) (Ev2.pos ⟨by omega, by omega⟩ ?_)
    rw [Int.toNat_natCast]
    by_cases h : a.getD n 0 = 0
    · refine Ev2.pos (bT h) ?_
      have := ih (by omega)
      rw [take_succ_val a (by omega), h]; simpa using this
    · refine Ev2.neg (bF h) (Ev2.pos ⟨by omega, by omega⟩ (Ev2.eq (Ev2.some _) ?_))
      rw [Int.toNat_natCast, digs_val (neat_take hn (.inr (by simpa using h))) (hw.take _)]
theorem trim_ev {a : List Int} (hw : WF a) (hl : Lb a) : Ev (fun k => nat_trim k a) (digs (val a)) := by
  refine Ev.congr (fun k => nat_trim_eq k a) ?_
  have := (trim_l0 hw hl a.length (Nat.le_refl _)).ev
  rwa [List.take_length] at this
theorem trimo_l0 {a : List Int} (hw : WF a) (hl : Lb a) (n : Nat) : n ≤ a.length → Ev2 (fun k m => nat_trim_own.l0 k m (n : Int) a) (digs (val (a.take n))) := by
  unfold Lb at hl
  induction n with
  | zero =>
    intro _
    refine Ev2.step (fun k m => nat_trim_own.l0_eq k m _ _) ?_
    refine Ev2.neg (dF (by omega)) (Ev2.pos ⟨by omega, by omega⟩ (Ev2.eq (Ev2.some _) ?_))
    simp [val, digs_zero]
  | succ n ih =>
    intro hn
    refine Ev2.step (fun k m => nat_trim_own.l0_eq k m _ _) ?_
    rw [pred_i n (by omega)]
    refine Ev2.pos (dT (by omega)) (Ev2.pos ⟨by omega, by omega⟩ ?_)
    rw [Int.toNat_natCast]
    by_cases h : a.getD n 0 = 0
    · refine Ev2.pos (bT h) ?_
      have := ih (by omega)
      rw [take_succ_val a (by omega), h]; simpa using this
    · refine Ev2.neg (bF h) (Ev2.pos ⟨by omega, by omega⟩ (Ev2.eq (Ev2.some _) ?_))
      rw [Int.toNat_natCast, digs_val (neat_take hn (.inr (by simpa using h))) (hw.take _)]
/-- The same, of a list that is given away. -/
theorem trim_own_ev {a : List Int} (hw : WF a) (hl : Lb a) : Ev (fun k => nat_trim_own k a) (digs (val a)) := by
  refine Ev.congr (fun k => nat_trim_own_eq k a) ?_
  have := (trimo_l0 hw hl a.length (Nat.le_refl _)).ev
  rwa [List.take_length] at this
theorem trim_digs {n : Nat} (hl : Lb (digs n)) : Ev (fun k => nat_trim k (digs n)) (digs n) := by
  have := trim_ev (WF.digs n) hl
  rwa [val_digs] at this

/-! ### copied, Trim -/
theorem copied_ev {a : List Int} (hw : WF a) (hl : Lb a) : Ev (fun k => nat_copied k a) (digs (val a)) := by
  refine Ev.congr (fun k => nat_copied_eq k a) (Ev.bind (trim_ev hw hl) ?_)
  have h := hl.ofv hw
  unfold Lb at h
  refine Ev.pos ⟨by omega, by omega⟩ (Ev.eq (Ev.some _) ?_)
  rw [Int.toNat_natCast, copy_all _ _ rfl]
theorem Trim_ev {a : List Int} (hw : WF a) (hl : Lb a) : Ev (fun k => nat_Trim k a) (digs (val a)) :=
  Ev.congr (fun k => nat_Trim_eq k a) (Ev.bind (copied_ev hw hl) (Ev.some _))
/-! ### Cmp -/
def cmpN (x y : Nat) : Int := if x < y then -1 else if y < x then 1 else 0
theorem cmpN_add (x y c : Nat) : cmpN (x + c) (y + c) = cmpN x y := by unfold cmpN; split <;> split <;> (try split) <;> (try split) <;> omega
theorem cmp_l0 {a b : List Int} (ha : WF a) (hb : WF b) (hl : Lb a) (hlen : a.length = b.length) (n : Nat) : n ≤ a.length → Ev2 (fun k m => nat_Cmp.l0 k m a b ((n : Int) - 1)) (cmpN (val (a.take n)) (val (b.take n))) := by
  unfold Lb at hl
  induction n with
  | zero =>
    intro _
    refine Ev2.step (fun k m => nat_Cmp.l0_eq k m _ _ _) ?_
    exact Ev2.neg (dF (by omega)) (Ev2.eq (Ev2.some _) (by simp [val, cmpN]))
  | succ n ih =>
    intro hn
    refine Ev2.step (fun k m => nat_Cmp.l0_eq k m _ _ _) ?_
    rw [show (((n + 1 : Nat) : Int) - 1) = (n : Int) by omega, Int.toNat_natCast, take_succ_val a (by omega), take_succ_val b (by omega)]
    have h1 := ha.getD n
    have h2 := hb.getD n
    have t1 := take_val_lt ha n
    have t2 := take_val_lt hb n
    refine Ev2.pos (dT (by omega)) (Ev2.pos ⟨by omega, by omega⟩ (Ev2.pos ⟨by omega, by omega⟩ ?_))
    by_cases c1 : a.getD n 0 < b.getD n 0
    · refine Ev2.pos (dT c1) (Ev2.eq (Ev2.some _) ?_)
      have : 18446744073709551616 ^ n * ((a.getD n 0).toNat + 1) ≤ 18446744073709551616 ^ n * (b.getD n 0).toNat := Nat.mul_le_mul_left _ (by omega)
      rw [Nat.mul_add] at this
      rw [cmpN, if_pos (by omega)]
    · refine Ev2.neg (dF c1) (Ev2.pos ⟨by omega, by omega⟩ (Ev2.pos ⟨by omega, by omega⟩ ?_))
      by_cases c2 : a.getD n 0 > b.getD n 0
      · refine Ev2.pos (dT c2) (Ev2.eq (Ev2.some _) ?_)
        have : 18446744073709551616 ^ n * ((b.getD n 0).toNat + 1) ≤ 18446744073709551616 ^ n * (a.getD n 0).toNat := Nat.mul_le_mul_left _ (by omega)
        rw [Nat.mul_add] at this
        rw [cmpN, if_neg (by omega), if_pos (by omega)]
      · refine Ev2.neg (dF c2) ?_
        rw [show a.getD n 0 = b.getD n 0 by omega, cmpN_add, show IntKind.i64.wrap ((n : Int) - 1) = (n : Int) - 1 by rw [wrapI] <;> omega]
        exact ih (by omega)
theorem len_lt_val {x y : Nat} (h : (digs x).length < (digs y).length) : x < y := Nat.lt_of_not_le fun hle => by have := digs_len_mono hle; omega
theorem Cmp_ev {a b : List Int} (ha : WF a) (hb : WF b) (la : Lb a) (lb : Lb b) : Ev (fun k => nat_Cmp k a b) (cmpN (val a) (val b)) := by
  refine Ev.congr (fun k => nat_Cmp_eq k a b) (Ev.bind (trim_ev ha la) (Ev.bind (trim_ev hb lb) ?_))
  have l1 := la.ofv ha
  have l2 := lb.ofv hb
  generalize val a = x at *
  generalize val b = y at *
  unfold Lb at l2
  by_cases c1 : (digs x).length < (digs y).length
  · have := len_lt_val c1
    exact Ev.pos (dT (by omega)) (Ev.eq (Ev.some _) (by rw [cmpN, if_pos this]))
  · refine Ev.neg (dF (by omega)) ?_
    by_cases c2 : (digs y).length < (digs x).length
    · have := len_lt_val c2
      exact Ev.pos (dT (by omega)) (Ev.eq (Ev.some _) (by rw [cmpN, if_neg (by omega), if_pos this]))
    · refine Ev.neg (dF (by omega)) ?_
      have := (cmp_l0 (WF.digs x) (WF.digs y) l1 (by omega) (digs x).length (Nat.le_refl _)).ev
      rw [List.take_length, List.take_of_length_le (by omega), val_digs, val_digs] at this
      unfold Lb at l1
      rw [show IntKind.i64.wrap (((digs x).length : Int) - 1) = ((digs x).length : Int) - 1 by rw [wrapI] <;> omega]
      exact this

/-! ### great -/
theorem great_l0 {l : List (List Int)} (hw : ∀ a ∈ l, WF a ∧ Lb a) (hl : l.length ≤ 100) (n : Nat) : ∀ i : Nat, i + n = l.length → Ev2 (fun k m => nat_great.l0 k m l (l.length : Int) (i : Int)) ((l.drop i).any fun a => decide (1024 < (digs (val a)).length)) := by
  induction n with
  | zero =>
    intro i hi
    refine Ev2.step (fun k m => nat_great.l0_eq k m _ _ _) (Ev2.neg (dF (by omega)) (Ev2.eq (Ev2.some _) ?_))
    rw [List.drop_of_length_le (by omega)]; rfl
  | succ n ih =>
    intro i hi
    refine Ev2.step (fun k m => nat_great.l0_eq k m _ _ _) ?_
    rw [Int.toNat_natCast, succ_i i (by omega), List.drop_eq_getElem_cons (show i < l.length by omega)]
    have e1 : l.getD i [] = l[i]'(by omega) := by simp [List.getD_eq_getElem?_getD, List.getElem?_eq_getElem (show i < l.length by omega)]
    rw [e1]
    obtain ⟨h1, h2⟩ := hw (l[i]'(by omega)) (List.getElem_mem _)
    refine Ev2.pos (dT (by omega)) (Ev2.pos ⟨by omega, by omega⟩ (Ev2.call (trim_ev h1 h2) ?_))
    rw [List.any_cons]
    by_cases c : 1024 < (digs (val (l[i]'(by omega)))).length
    · exact Ev2.pos (dT (by omega)) (Ev2.eq (Ev2.some _) (by simp [c]))
    · exact Ev2.neg (dF (by omega)) (Ev2.eq (ih (i + 1) (by omega)) (by simp [c]))
theorem great_ev {l : List (List Int)} (hw : ∀ a ∈ l, WF a ∧ Lb a) (hl : l.length ≤ 100) : Ev (fun k => nat_great k l) (l.any fun a => decide (1024 < (digs (val a)).length)) :=
  Ev.congr (fun k => nat_great_eq k l) (by simpa using (great_l0 hw hl l.length 0 (by omega)).ev)
end Go.Proofs.YtmoeaeflljpboaaDoor.X
