/- Plain law: RoundKeeps answers true. Conditions: what the reading says of the arguments. -/
import Derived.Test.YtkpmladopkkfnaaDoorRnB
import Derived.Test.YtkpmladopkkfnaaDoorDyB
namespace Go.Proofs.YtkpmladopkkfnaaDoor.X
open Go Go.Rex
set_option linter.unusedVariables false

/-- The product of odd numbers. -/
theorem mul_odd {n K : Nat} (hn : n % 2 = 1) (hK : K % 2 = 1) (ln : n < 18446744073709551616) (lK : K < 18446744073709551616) (a b : Bool) : Ev (fun k => dyad_Mul k a (digs n) 0 b (digs K) 0) (!(a == b), (digs (n * K), ((0 : Int), (0 : Int)))) := by
  have l1 : (digs n).length ≤ 1 := digs_length_lt.2 (by rw [Nat.pow_one]; exact ln)
  have l2 : (digs K).length ≤ 1 := digs_length_lt.2 (by rw [Nat.pow_one]; exact lK)
  have l3 := mul_len l1 l2
  have hnK : n * K % 2 = 1 := by rw [Nat.mul_mod, hn, hK]
  have o1 := odd_all (a := digs n) (WF.digs _) (by unfold Lb; omega) (by rw [val_digs]; omega) (by rw [val_digs]; omega) a (e := 0) (by omega)
  have o2 := odd_all (a := digs K) (WF.digs _) (by unfold Lb; omega) (by rw [val_digs]; omega) (by rw [val_digs]; omega) b (e := 0) (by omega)
  have o3 := odd_all (a := digs (n * K)) (WF.digs _) (by unfold Lb; omega) (by rw [val_digs]; omega) (by rw [val_digs]; omega) (!(a == b)) (e := 0) (by omega)
  rw [val_digs, oddN_of_odd hn, tz_of_odd hn] at o1
  rw [val_digs, oddN_of_odd hK, tz_of_odd hK] at o2
  rw [val_digs, oddN_of_odd hnK, tz_of_odd hnK] at o3
  have m := Mul_ev (a := digs n) (b := digs K) (WF.digs _) (WF.digs _) (by unfold Lb; omega) (by unfold Lb; omega) (by rw [val_digs]; omega) (by rw [val_digs]; omega) (by rw [val_digs, val_digs]; omega)
  rw [val_digs, val_digs] at m
  have t := two_ev (n := n) (m := K) (e := 0) (f := 0) ⟨by omega, by omega, by omega⟩ ⟨by omega, by omega, by omega⟩ a b
  refine Ev.congr (fun k => dyad_Mul_eq k _ _ _ _ _ _) (Ev.bind t (Ev.neg (nF rfl) (Ev.bind o1 (Ev.bind o2 (Ev.bind m (Ev.neg (nF rfl) (Ev.bind (Ev.congr (fun k => dyad_answer_eq k _ _ _) (Ev.bind o3 (Ev.neg (dF ?_) (Ev.neg (dF (show ¬ (((0 : Int) + ((0 : Nat) : Int)) < -40000) by decide)) (Ev.neg (dF (show ¬ (((0 : Int) + ((0 : Nat) : Int)) > 40000) by decide)) (Ev.some _)))))) (Ev.some _))))))))
  show ¬ (((digs (n * K)).length : Int) > 1024); omega
def six : List Int := ((((((List.replicate 6 (0 : Int)).set 0 0).set 1 1).set 2 2).set 3 3).set 4 4).set 5 5
theorem six_get {i : Nat} (hi : i < 6) : six.getD i 0 = (i : Int) := by
  have : i = 0 ∨ i = 1 ∨ i = 2 ∨ i = 3 ∨ i = 4 ∨ i = 5 := by omega
  rcases this with rfl | rfl | rfl | rfl | rfl | rfl <;> rfl
section
variable {f : Int} {W P : Nat} {em ex : Int} (h : Fm f W P em ex)
include h
theorem keeps_zero {x0 x1 : Int} (m : Nat) : ∀ i : Nat, i + m = 6 → Ev2 (fun k n => vernierlaw05_RoundKeeps.l2 k n x0 x1 f 6 (i : Int) [] false 0 six) true := by
  induction m with
  | zero =>
    intro i hi
    exact Ev2.step (fun k n => vernierlaw05_RoundKeeps.l2_eq k n _ _ _ _ _ _ _ _ _) (Ev2.neg (dF (by omega)) (Ev2.some _))
  | succ m ih =>
    intro i hi
    refine Ev2.step (fun k n => vernierlaw05_RoundKeeps.l2_eq k n _ _ _ _ _ _ _ _ _) ?_
    have hl : six.length = 6 := rfl
    rw [Int.toNat_natCast, six_get (by omega), succ_i i (by omega)]
    have ev := Exact_ev h (m := (i : Int)) ⟨by omega, by omega⟩ (a := []) WF.nil 0 false
    have er : exR W P em (i : Int) false [] 0 = (0, (0, 0)) := by
      unfold exR
      rw [if_neg (by decide), if_pos (show val [] = 0 from rfl)]
    rw [er] at ev
    refine Ev2.pos (dT (by omega)) (Ev2.pos ⟨by omega, by rw [hl]; omega⟩ (Ev2.call ev (Ev2.pos (bT rfl) (Ev2.neg (nF rfl) (Ev2.neg (nF rfl) (Ev2.neg (nF rfl) (ih (i + 1) (by omega))))))))
theorem keeps_loop {p : Nat} (hp0 : p ≠ 0) (hp : p < infP W P) {neg : Bool} {A : Nat} (hA : A = p + sgB neg W) {K : Nat} (hK : K % 2 = 1) (lK : K < 18446744073709551616) (m : Nat) : ∀ i : Nat, i + m = 6 →
    Ev2 (fun k n => vernierlaw05_RoundKeeps.l2 k n (A : Int) (K : Int) f 6 (i : Int) (digs (oddN (plV P p))) neg (em - (P : Int) + 1 + (tz (plV P p) : Int)) six) true := by
  have h8 := h.p8; have h53 := h.p53; have m0 := h.m0; have m1 := h.m1
  have hip := infP_le h
  have hpp := Nat.two_pow_pos (P - 1)
  obtain ⟨v1, v2, v3, v4⟩ := plV_facts h hp0 (by omega)
  obtain ⟨n, hn⟩ : ∃ n, n = oddN (plV P p) := ⟨_, rfl⟩
  obtain ⟨e, he⟩ : ∃ e : Int, e = em - (P : Int) + 1 + (tz (plV P p) : Int) := ⟨_, rfl⟩
  have hodd : n % 2 = 1 := by rw [hn]; exact oddN_odd v1
  have hn0 : n ≠ 0 := by omega
  have ln : n < 18446744073709551616 := by rw [hn]; exact v4
  have l1 : (digs n).length ≤ 1 := digs_length_lt.2 (by rw [Nat.pow_one]; exact ln)
  have l2 : (digs K).length ≤ 1 := digs_length_lt.2 (by rw [Nat.pow_one]; exact lK)
  have l3 := mul_len l1 l2
  have hd : digs n = [(n : Int)] := digs_word hn0 ln
  have hdK : (List.replicate 1 (0 : Int)).set 0 (K : Int) = digs K := by rw [digs_word (by omega) lK]; rfl
  have he1 : -2000 ≤ e ∧ e ≤ 4000 := by omega
  have hnK : n * K ≠ 0 := Nat.mul_ne_zero hn0 (by omega)
  -- the rounding of the value
  have hval : ∀ m : Int, exR W P em m neg (digs n) e = ((A : Int), ((0 : Int), (0 : Int))) := fun m => by
    rw [hn, he, hA]; exact exR_val h hp0 hp m neg
  have hout : ∀ m : Int, rnOut W P m neg (rA n e (em - (P : Int) + 1)) (rB 1 e (em - (P : Int) + 1)) = ((A : Int), (0 : Int)) := fun m => by
    obtain ⟨a1, a2⟩ := rA_odd v1 (em - (P : Int) + 1)
    have := rnOut_rep (W := W) (P := P) (by omega) (B := 1) (by decide) hp m neg
    rw [Nat.mul_one] at this
    rw [hn, he, a1, a2, this, hA]
  rw [← hn, ← he]
  induction m with
  | zero =>
    intro i hi
    exact Ev2.step (fun k n => vernierlaw05_RoundKeeps.l2_eq k n _ _ _ _ _ _ _ _ _) (Ev2.neg (dF (by omega)) (Ev2.some _))
  | succ m ih =>
    intro i hi
    refine Ev2.step (fun k n => vernierlaw05_RoundKeeps.l2_eq k n _ _ _ _ _ _ _ _ _) ?_
    have hl : six.length = 6 := rfl
    rw [Int.toNat_natCast, six_get (by omega)]
    have md : Md (i : Int) := ⟨by omega, by omega⟩
    have ev := Exact_ev h md (a := digs n) (WF.digs _) e neg
    rw [hval] at ev
    have hlen : ((digs n).length : Int) = 1 := by rw [hd]; rfl
    refine Ev2.pos (dT (by omega)) (Ev2.pos ⟨by omega, by rw [hl]; omega⟩ (Ev2.call ev (Ev2.neg (bF (by omega)) (Ev2.neg (nF rfl) (Ev2.neg (nF rfl) (Ev2.neg (nF rfl) (Ev2.neg (nF hlen) ?_)))))))
    refine Ev2.congr (fun k n => vernierlaw05_RoundKeeps.j3_eq k n _ _ _ _ _ _ _ _ _ _) ?_
    rw [hdK]
    have rt := Ratio_ev h md (a := digs (n * K)) (b := digs K) (WF.digs _) (WF.digs _) (by unfold Lb; omega) (by unfold Lb; omega) e neg
    have rr : raR W P em (i : Int) neg (n * K) K e = ((A : Int), ((0 : Int), (0 : Int))) := by
      unfold raR
      have hx : rnOut W P (i : Int) neg (rA (n * K) e (em - (P : Int) + 1)) (rB K e (em - (P : Int) + 1)) = rnOut W P (i : Int) neg (rA n e (em - (P : Int) + 1)) (rB 1 e (em - (P : Int) + 1)) := by
        refine rnOut_cross W P (i : Int) neg (rB_pos (by omega) _ _) (rB_pos (by decide) _ _) ?_
        unfold rA rB
        grind
      rw [if_neg (by omega), if_neg (by omega), if_neg (by omega), if_neg hnK, hx, hout]
    rw [val_digs, val_digs, rr] at rt
    refine Ev2.call (mul_odd hodd hK ln lK false false) (Ev2.neg (nF rfl) ?_)
    show Ev2 (fun k n0 => (round_Ratio k f (i : Int) neg (digs (n * K)) (digs K) (IntKind.i64.wrap (e + 0))).bind fun o6 => (if o6.1 != (A : Int) then some false else (if o6.2.1 != 0 then some false else (if o6.2.2 != 0 then some false else vernierlaw05_RoundKeeps.j4 k n0 (A : Int) (K : Int) f (i : Int) 6 (i : Int) (digs n) neg e six)))) true
    rw [show IntKind.i64.wrap (e + 0) = e by rw [Int.add_zero, wrapI (by omega) (by omega)]]
    refine Ev2.call rt (Ev2.neg (nF rfl) (Ev2.neg (nF rfl) (Ev2.neg (nF rfl) ?_)))
    refine Ev2.congr (fun k n => vernierlaw05_RoundKeeps.j4_eq k n _ _ _ _ _ _ _ _ _ _) ?_
    have pt := Parts_ev h md (hi := 0) (lo := n) (by decide) ln e neg false
    have pp : paR W P em (i : Int) neg (n + 18446744073709551616 * 0) e false = ((A : Int), ((0 : Int), (0 : Int))) := by
      rw [Nat.mul_zero, Nat.add_zero]
      unfold paR
      have hx : rnOut W P (i : Int) neg (qA n e false (em - (P : Int) + 1)) (qB e false (em - (P : Int) + 1)) = ((A : Int), (0 : Int)) := hout (i : Int)
      rw [if_neg (by omega), if_neg (by simp), if_neg hn0, hx]
    rw [pp] at pt
    rw [show (digs n).getD 0 0 = (n : Int) by rw [hd]; rfl, succ_i i (by omega)]
    exact Ev2.pos ⟨by decide, by omega⟩ (Ev2.call pt (Ev2.neg (nF rfl) (Ev2.neg (nF rfl) (Ev2.neg (nF rfl) (ih (i + 1) (by omega))))))
end
namespace Pure
/-- For all arguments: true. -/
theorem RoundKeeps (f a κ : Int) (wf : (Lit.int .i64 f).wf = true) (wa : (Lit.int .u64 a).wf = true) (wk : (Lit.int .u64 κ).wf = true) : Ev (fun k => vernierlaw05_RoundKeeps k f a κ) true := by
  have ha := wf_u64 wa
  have hk := wf_u64 wk
  refine Ev.congr (fun k => vernierlaw05_RoundKeeps_eq k _ _ _) (Ev.bind awake05_ev (Ev.neg (notF rfl) ?_))
  by_cases c1 : f < 0
  · exact Ev.pos (dT c1) (Ev.some _)
  · by_cases c2 : f > 3
    · exact Ev.neg (dF c1) (Ev.pos (dT c2) (Ev.some _))
    · refine Ev.neg (dF c1) (Ev.neg (dF c2) (Ev.congr (fun k => vernierlaw05_RoundKeeps.j0_eq k _ _ _) ?_))
      obtain ⟨W, P, em, ex, h⟩ := fm_of (f := f) (by omega) (by omega)
      have h8 := h.p8; have h3 := h.wp; have h64 := h.w64; have h53 := h.p53
      have hW16 : 16 ≤ W := by rcases fm_cases h with ⟨_, e, _⟩ | ⟨_, e, _⟩ | ⟨_, e, _⟩ | ⟨_, e, _⟩ <;> omega
      refine Ev.bind (Ev.of fun k => params_at h k) (Ev.neg (nF rfl) (Ev.neg (dF ?_) (Ev.neg (dF ?_) ?_)))
      · show ¬ ((W : Int) < 16); omega
      · show ¬ ((W : Int) > 64); omega
      refine Ev.congr (fun k => vernierlaw05_RoundKeeps.j1_eq k _ _ _ _ _ _ _) ?_
      show Ev (fun k => (if 0 ≤ (IntKind.u64.wrap (IntKind.i64.wrap (64 - (W : Int)))) then (if 0 ≤ (IntKind.u64.wrap (IntKind.i64.wrap (64 - (W : Int)))) then ((format_Value k f (shrK IntKind.u64 (shlK IntKind.u64 a (IntKind.u64.wrap (IntKind.i64.wrap (64 - (W : Int))))) (IntKind.u64.wrap (IntKind.i64.wrap (64 - (W : Int))))))).bind fun o2 => (if o2.2.2.2 != 0 then some (o2.2.2.2 == 40) else ((vernierlaw05_six k)).bind fun o3 => vernierlaw05_RoundKeeps.l2 k k (shrK IntKind.u64 (shlK IntKind.u64 a (IntKind.u64.wrap (IntKind.i64.wrap (64 - (W : Int))))) (IntKind.u64.wrap (IntKind.i64.wrap (64 - (W : Int))))) (orK IntKind.u64 κ 1) f (o3.length : Int) 0 o2.2.1 o2.1 o2.2.2.1 o3) else none) else none)) true
      have ew : IntKind.u64.wrap (IntKind.i64.wrap (64 - (W : Int))) = ((64 - W : Nat) : Int) := by
        rw [wrapI (by omega) (by omega), wrap_u64]; omega
      obtain ⟨x, rfl⟩ := Int.eq_ofNat_of_zero_le ha.1
      obtain ⟨y, rfl⟩ := Int.eq_ofNat_of_zero_le hk.1
      rw [ew, cut_low x W h64, or_one y (by omega)]
      have hA := Nat.mod_lt x (Nat.two_pow_pos W)
      generalize x % 2 ^ W = A at *
      obtain ⟨u1, u2, u3⟩ := value_pk h hA
      obtain ⟨p1, p2, p3, p4, p5, p6⟩ := pat_parts h hA
      have hsix : ∀ k, vernierlaw05_six k = some six := fun k => vernierlaw05_six_eq k
      refine Ev.pos (by omega) (Ev.pos (by omega) ?_)
      by_cases ci : infP W P ≤ pk W A
      · exact Ev.bind (Ev.of (u1 ci)) (Ev.pos (nT (by decide)) (Ev.eq (Ev.some _) rfl))
      · by_cases c0 : pk W A = 0
        · exact Ev.bind (Ev.of (u2 c0)) (Ev.neg (nF rfl) (Ev.bind (Ev.of hsix) (keeps_zero h 6 0 (by omega)).ev))
        · exact Ev.bind (Ev.of (u3 c0 (by omega))) (Ev.neg (nF rfl) (Ev.bind (Ev.of hsix) (keeps_loop h c0 (by omega) (neg := ps W A) (A := A) p4 (K := y / 2 * 2 + 1) (by omega) (by omega) 6 0 (by omega)).ev))
end Pure
end Go.Proofs.YtkpmladopkkfnaaDoor.X
