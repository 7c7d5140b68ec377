/- Plain law: layer 5's marked copies, the reference's Exact for all inputs. Conditions: the words are words. -/
import Derived.Test.YtbaaggmicpigeaaGreatDoorRfE
import Derived.Test.YtbaaggmicpigeaaGreatDoorRfD
import Derived.Test.YtbaaggmicpigeaaGreatDoorRnB
namespace Go.Proofs.YtbaaggmicpigeaaGreatDoor.X
open Go Go.Rex
set_option linter.unusedVariables false

/-! ### Copies with marks in their spare room -/
def marks : List Int := [91, 92, 93, 94]
theorem same5_l0 {a : List Int} (hl : Lb a) (n : Nat) : ∀ i : Nat, i + n = a.length → Ev2 (fun k m => vernierlaw05_same.l0 k m a a (i : Int)) true := by
  unfold Lb at hl
  induction n with
  | zero =>
    intro i hi
    exact Ev2.step (fun k m => vernierlaw05_same.l0_eq k m _ _ _) (Ev2.neg (dF (by omega)) (Ev2.some _))
  | succ n ih =>
    intro i hi
    refine Ev2.step (fun k m => vernierlaw05_same.l0_eq k m _ _ _) ?_
    rw [succ_i i (by omega)]
    exact Ev2.pos (dT (by omega)) (Ev2.pos ⟨by omega, by omega⟩ (Ev2.pos ⟨by omega, by omega⟩ (Ev2.neg (nF rfl) (ih (i + 1) (by omega)))))
theorem same5_refl {a : List Int} (hl : Lb a) : Ev (fun k => vernierlaw05_same k a a) true :=
  Ev.congr (fun k => vernierlaw05_same_eq k _ _) (Ev.neg (nF rfl) (same5_l0 hl a.length 0 (by omega)).ev)
theorem twin5_list (a : List Int) (n : Nat) (hn : n = a.length) (m : Nat) (hm : m = n + 4) :
    ∀ (Z Y : List Int), Z = (((List.replicate m (0 : Int)).take 0) ++ (((a.take (min a.length (((List.replicate m (0 : Int)).take n).length))) ++ (((List.replicate m (0 : Int)).take n).drop (min a.length (((List.replicate m (0 : Int)).take n).length)))) ++ ((List.replicate m (0 : Int)).drop (0 + n)))) → Z = a ++ List.replicate 4 0 := by
  intro Z Y hZ
  subst hm; subst hn
  rw [hZ]
  have e1 : ((List.replicate (a.length + 4) (0 : Int)).take a.length).length = a.length := by simp
  rw [e1, Nat.min_self, List.take_zero, List.nil_append, List.take_length, List.drop_of_length_le (by simp), List.append_nil, Nat.zero_add, List.drop_replicate]
  simp
theorem twin5_ev {a : List Int} (hl : a.length ≤ 17592186044416) : Ev (fun k => vernierlaw05_twin k a) (a ++ marks, a.length) := by
  refine Ev.congr (fun k => vernierlaw05_twin_eq k a) ?_
  have e4 : IntKind.i64.wrap ((a.length : Int) + 4) = ((a.length + 4 : Nat) : Int) := by rw [wrapI (by omega) (by omega)]; omega
  rw [e4, Int.toNat_natCast, Int.toNat_natCast, twin5_list a a.length rfl (a.length + 4) rfl _ [] rfl]
  have hl2 : (a ++ List.replicate 4 (0 : Int)).length = a.length + 4 := by simp
  have hd : ((a ++ List.replicate 4 (0 : Int)).drop a.length).take (a.length + 4 - a.length) = List.replicate 4 0 := by
    rw [List.drop_left, show a.length + 4 - a.length = 4 by omega]; rfl
  refine Ev.pos ⟨by omega, by omega, by omega⟩ (Ev.pos ⟨by omega, by rw [hl2]; omega⟩ (Ev.pos ⟨by omega, by omega⟩ (Ev.eq (Ev.some _) ?_)))
  rw [hd]
  refine Prod.ext ?_ rfl
  show (a ++ List.replicate 4 (0 : Int)).take a.length ++ _ = a ++ marks
  rw [List.take_left]
  congr 1
  have hz : (a ++ List.replicate 4 (0 : Int)).drop (a.length + (a.length + 4 - a.length)) = [] := List.drop_of_length_le (by rw [hl2]; omega)
  rw [hz]
  rfl
theorem kept5_ev {a : List Int} (hl : a.length ≤ 17592186044416) : Ev (fun k => vernierlaw05_kept k (a ++ marks, a.length) a) true := by
  have e4 : IntKind.i64.wrap ((a.length : Int) + 4) = ((a.length + 4 : Nat) : Int) := by rw [wrapI (by omega) (by omega)]; omega
  refine Ev.congr (fun k => vernierlaw05_kept_eq k _ _) ?_
  have h1 : (a ++ marks).take a.length = a := List.take_left
  have hl2 : (a ++ marks).length = a.length + 4 := by simp [marks]
  rw [e4, Int.toNat_natCast, Int.toNat_natCast]
  show Ev (fun k => (vernierlaw05_same k ((a ++ marks).take a.length) a).bind _) true
  rw [h1]
  refine Ev.bind (same5_refl (by unfold Lb; omega)) (Ev.pos rfl (Ev.pos ⟨by omega, by show _ ≤ (((a ++ marks).length : Nat) : Int); rw [hl2]; omega⟩ (Ev.pos ⟨by omega, by omega⟩ ?_)))
  have h2 : ((a ++ marks).drop a.length).take (a.length + 4 - a.length) = marks := by
    rw [List.drop_left, show a.length + 4 - a.length = 4 by omega]; rfl
  show Ev (fun k => (vernierlaw05_same k (((a ++ marks).drop a.length).take (a.length + 4 - a.length)) _).bind _) true
  rw [h2]
  exact Ev.bind (same5_refl (a := marks) (by unfold Lb; decide)) (Ev.some _)

/-! ### The reference -/
theorem row_no {f : Int} (hf : ¬ (0 ≤ f ∧ f < 4)) : Ev (fun k => vernierref04_Row k f) ((0 : Int), ((0 : Int), ((0 : Int), ((0 : Int), false)))) :=
  Ev.of fun k => by
    rw [vernierref04_Row_eq, if_neg (bF (by omega)), if_neg (bF (by omega)), if_neg (bF (by omega)), if_neg (bF (by omega))]
/-- The error of a format and a mode. -/
def fmE (f m : Int) : Int := if 0 ≤ f ∧ f < 4 then (if 0 ≤ m ∧ m ≤ 5 then 0 else 3) else 2
theorem good5_ev (f m : Int) : Ev (fun k => vernierref05_good k f m) (fmE f m) := by
  refine Ev.congr (fun k => vernierref05_good_eq k _ _) ?_
  unfold fmE
  by_cases c : 0 ≤ f ∧ f < 4
  · obtain ⟨W, P, em, ex, h⟩ := fm_of c.1 c.2
    rw [if_pos c]
    refine Ev.bind (Ev.of fun k => row_at h k) (Ev.neg (notF rfl) ?_)
    by_cases c1 : m < 0
    · rw [if_neg (show ¬ (0 ≤ m ∧ m ≤ 5) by omega)]; exact Ev.pos (dT c1) (Ev.some _)
    · by_cases c2 : m > 5
      · rw [if_neg (show ¬ (0 ≤ m ∧ m ≤ 5) by omega)]; exact Ev.neg (dF c1) (Ev.pos (dT c2) (Ev.some _))
      · rw [if_pos (show 0 ≤ m ∧ m ≤ 5 by omega)]; exact Ev.neg (dF c1) (Ev.neg (dF c2) (Ev.some _))
  · rw [if_neg c]
    exact Ev.bind (row_no c) (Ev.pos rfl (Ev.some _))
theorem refuses5_ev (f m : Int) : ∃ W P em ex : Int, Ev (fun k => round_refuses k f m) (W, (P, (em, (ex, fmE f m)))) := by
  unfold fmE
  by_cases c : 0 ≤ f ∧ f < 4
  · obtain ⟨W, P, em, ex, h⟩ := fm_of c.1 c.2
    rw [if_pos c]
    exact ⟨_, _, _, _, ref_ok h m⟩
  · rw [if_neg c]
    exact ⟨_, _, _, _, ref_bad (by omega) m⟩
theorem fmE_zero {f m : Int} (h : fmE f m = 0) : (0 ≤ f ∧ f < 4) ∧ Md m := by
  unfold fmE at h
  split at h
  · rename_i c
    split at h
    · rename_i c2; exact ⟨c, ⟨c2.1, c2.2⟩⟩
    · omega
  · omega
/-- What Exact answers, for all inputs. -/
def exAll (f m : Int) (neg : Bool) (a : List Int) (e : Int) (r : Int × Int × Int) : Prop :=
  Ev (fun k => round_Exact k f m neg a e) r ∧ Ev (fun k => vernierref05_Exact k f m neg a e) r
theorem one_words : ((List.replicate 1 (0 : Int)).set 0 1) = digs 1 := by rw [digs_pos (by decide), digs_zero]; rfl
/-- The error that Exact answers. -/
def exE (f m : Int) (a : List Int) (e : Int) : Int := if fmE f m ≠ 0 then fmE f m else if badE a e ≠ 0 then badE a e else if val a = 0 then 0 else if 40000 < e + (tz (val a) : Int) then 30 else 0
theorem exE_exR {f m : Int} (hf : fmE f m = 0) (W P : Nat) (em : Int) (neg : Bool) (a : List Int) (e : Int) : (exR W P em m neg a e).2.2 = exE f m a e ∧ ((exR W P em m neg a e).2.2 ≠ 0 → (exR W P em m neg a e).1 = 0) := by
  unfold exR exE
  rw [if_neg (show ¬ (fmE f m ≠ 0) by omega)]
  by_cases cb : badE a e ≠ 0
  · rw [if_pos cb, if_pos cb]; exact ⟨rfl, fun _ => rfl⟩
  · rw [if_neg cb, if_neg cb]
    by_cases c0 : val a = 0
    · rw [if_pos c0, if_pos c0]; exact ⟨rfl, fun _ => rfl⟩
    · rw [if_neg c0, if_neg c0]
      by_cases ct : 40000 < e + (tz (val a) : Int)
      · rw [if_pos ct, if_pos ct]; exact ⟨rfl, fun _ => rfl⟩
      · rw [if_neg ct, if_neg ct]; exact ⟨rfl, fun h => absurd rfl h⟩
theorem exE_mode (f : Int) {m m' : Int} (hm : 0 ≤ m ∧ m ≤ 5) (hm' : 0 ≤ m' ∧ m' ≤ 5) (a : List Int) (e : Int) : exE f m a e = exE f m' a e := by
  unfold exE fmE
  rw [if_pos hm, if_pos hm']
theorem exact_all (f m : Int) (neg : Bool) {a : List Int} (ha : WF a) (e : Int) : ∃ r : Int × Int × Int, exAll f m neg a e r ∧ r.2.2 = exE f m a e ∧ (r.2.2 ≠ 0 → r.1 = 0) := by
  by_cases c : fmE f m = 0
  · obtain ⟨cf, hm⟩ := fmE_zero c
    obtain ⟨W, P, em, ex, h⟩ := fm_of cf.1 cf.2
    refine ⟨_, ⟨Exact_ev h hm ha e neg, ?_⟩, exE_exR c W P em neg a e⟩
    have cn := r3Canon_ev ha e neg
    refine Ev.congr (fun k => vernierref05_Exact_eq k _ _ _ _ _) (Ev.bind (good5_ev f m) (Ev.neg (nF c) (Ev.bind cn ?_)))
    unfold canR exR
    by_cases cb : badE a e ≠ 0
    · rw [if_pos cb, if_pos cb]; exact Ev.pos (nT cb) (Ev.some _)
    · rw [if_neg cb, if_neg cb]
      obtain ⟨b1, b2, b3⟩ := badE_ok (show badE a e = 0 by omega)
      have h8 := h.p8; have h53 := h.p53; have hm0 := h.m0; have hm1 := h.m1
      -- the reference's rounding of n * 2^e
      have rd : ∀ (neg : Bool) (n : Nat) (e : Int), (digs n).length ≤ 1100 → -300000 ≤ e ∧ e ≤ 300000 → Ev (fun k => ((vernierref05_of k neg (digs n) e)).bind fun o2 => ((vernierref05_Round k f m o2.1 o2.2.1 o2.2.2.1 o2.2.2.2)).bind fun o3 => some (o3.1, (o3.2, (0 : Int))))
          ((if n = 0 then (((sgB neg W : Nat) : Int), (0 : Int)) else rnOut W P m neg (rA n e (em - (P : Int) + 1)) (rB 1 e (em - (P : Int) + 1))).1, ((if n = 0 then (((sgB neg W : Nat) : Int), (0 : Int)) else rnOut W P m neg (rA n e (em - (P : Int) + 1)) (rB 1 e (em - (P : Int) + 1))).2, (0 : Int))) := by
        intro neg n e hl he
        have tr := rTrim_ev (a := digs n) (WF.digs n) (by unfold Lb; omega)
        rw [val_digs] at tr
        have ro := Round_ev h (a := digs n) (b := digs 1) (WF.digs n) (WF.digs 1) (by omega) (by rw [← one_words]; decide) (by rw [val_digs]; decide) he m neg
        rw [val_digs, val_digs] at ro
        refine Ev.bind (Ev.congr (fun k => vernierref05_of_eq k _ _ _) (Ev.bind tr (Ev.bind (Ev.of fun k => vernierref05_Whole_eq k _ _ _) (Ev.some _)))) ?_
        show Ev (fun k => (vernierref05_Round k f m neg (digs n) ((List.replicate 1 (0 : Int)).set 0 1) e).bind _) _
        rw [one_words]
        exact Ev.bind ro (Ev.some _)
      by_cases c0 : val a = 0
      · rw [if_pos c0, if_pos c0]
        refine Ev.neg (nF rfl) ?_
        have := rd false 0 0 (by rw [digs_zero]; decide) (by omega)
        rw [if_pos rfl, digs_zero] at this
        exact this
      · rw [if_neg c0, if_neg c0]
        by_cases ct : 40000 < e + (tz (val a) : Int)
        · rw [if_pos ct, if_pos ct]; exact Ev.pos (nT (by decide)) (Ev.some _)
        · rw [if_neg ct, if_neg ct]
          refine Ev.neg (nF rfl) ?_
          have hoz : oddN (val a) ≠ 0 := oddN_ne c0
          have hln : (digs (val a)).length ≤ 1024 := Nat.le_trans (digs_length_lt.2 (val_lt ha)) b1
          have := rd neg (oddN (val a)) (e + (tz (val a) : Int)) (Nat.le_trans (digs_len_mono (oddN_le _)) (by omega)) (by omega)
          rw [if_neg hoz] at this
          have hc := r_shift (A := oddN (val a)) (B := 1) (A' := val a) (B' := 1) (e := e + (tz (val a) : Int)) (e' := e) (em - (P : Int) + 1) (tz (val a)) rfl (by rw [oddN_mul c0])
          rw [rnOut_cross W P m neg (rB_pos Nat.one_pos _ _) (rB_pos Nat.one_pos _ _) hc] at this
          exact this
  · refine ⟨(0, (0, fmE f m)), ⟨?_, ?_⟩, (by unfold exE; rw [if_pos c]), fun _ => rfl⟩
    · obtain ⟨W, P, em, ex, r0⟩ := refuses5_ev f m
      exact Ev.congr (fun k => round_Exact_eq k _ _ _ _ _) (Ev.bind r0 (Ev.pos (nT c) (Ev.some _)))
    · exact Ev.congr (fun k => vernierref05_Exact_eq k _ _ _ _ _) (Ev.bind (good5_ev f m) (Ev.pos (nT c) (Ev.some _)))
end Go.Proofs.YtbaaggmicpigeaaGreatDoor.X
