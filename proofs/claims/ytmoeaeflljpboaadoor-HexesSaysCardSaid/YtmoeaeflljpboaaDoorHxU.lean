/- Plain law: HxT, DyC, FreA, DyD, HxW, HxV, one behind the other. Conditions: those that each part states. -/
import Derived.Test.YtmoeaeflljpboaaDoorHxM
import Derived.Test.YtmoeaeflljpboaaDoorDyB
import Derived.Test.YtmoeaeflljpboaaDoorRnB
import Derived.Test.YtmoeaeflljpboaaDoorRnD
import Derived.Test.YtmoeaeflljpboaaDoorXS
/- Plain law: numbers in base ten as texts, and what they say. Conditions: the numbers are small. (HxP, HxQ, HxS say the same and more; this text is for laws that need no more.) -/
namespace Go.Proofs.YtmoeaeflljpboaaDoor.X
open Go Go.Rex
set_option linter.unusedVariables false

/-- The decimal text of a natural. -/
def decL (n : Nat) : List Int := if n = 0 then [48] else (decs n).reverse
/-- With its sign, + too. -/
def numT (q : Int) : List Int := (if q < 0 then 45 else 43) :: decL q.natAbs
def hexc (d : Nat) : Int := if d < 10 then ((48 + d : Nat) : Int) else ((87 + d : Nat) : Int)
theorem cat_le {s t : ByteArray} (h : (bl s).length + (bl t).length ≤ 100000) : (((s.size + t.size) : Nat) : Int) ≤ 9223372036854775807 := by
  rw [bl_length, bl_length] at h; omega
def sgT (neg : Bool) : List Int := if neg then [45] else []
/-- Decimal digits. -/
def DigL (l : List Int) : Prop := ∀ x ∈ l, 48 ≤ x ∧ x ≤ 57
theorem xvF_small {cap : Nat} : ∀ (l : List Int) (x : Nat), DigL l → x * 10 ^ l.length + dval l ≤ cap → xvF cap l x = some (x * 10 ^ l.length + dval l)
  | [], x, _, _ => by simp [xvF, dval]
  | c :: r, x, hd, h => by
    have hc := hd c List.mem_cons_self
    have e : dval (c :: r) = (c - 48).toNat * 10 ^ r.length + dval r := by
      have := dval_from r (10 * 0 + (c - 48).toNat)
      unfold dval at *
      rw [List.foldl_cons]
      simpa using this
    have e2 : x * 10 ^ (c :: r).length + dval (c :: r) = (10 * x + (c - 48).toNat) * 10 ^ r.length + dval r := by
      rw [e, List.length_cons, Nat.pow_succ]; grind
    have hp : 0 < 10 ^ r.length := Nat.pow_pos (by decide)
    rw [e2] at h ⊢
    have h1 : 10 * x + (c - 48).toNat ≤ cap := by
      have := Nat.le_mul_of_pos_right (10 * x + (c - 48).toNat) hp
      omega
    rw [xvF, if_pos hc, Nat.min_eq_left h1]
    exact xvF_small r _ (fun y hy => hd y (List.mem_cons_of_mem _ hy)) h
theorem dig_decL (n : Nat) : DigL (decL n) ∧ dval (decL n) = n ∧ decL n ≠ [] := by
  unfold decL
  by_cases c : n = 0
  · rw [if_pos c, c]; exact ⟨by intro x hx; simp at hx; omega, by decide, by simp⟩
  · rw [if_neg c]
    refine ⟨fun x hx => decs_dig n x (List.mem_reverse.1 hx), dval_decs n, ?_⟩
    intro z
    have := List.reverse_eq_nil_iff.1 z
    exact c (decs_nil.1 this)
theorem expF_numT {q : Int} {cap : Nat} (h : q.natAbs ≤ cap) : expF cap (numT q) = some q := by
  obtain ⟨d1, d2, d3⟩ := dig_decL q.natAbs
  have hx := xvF_small (cap := cap) (decL q.natAbs) 0 d1 (by rw [d2]; omega)
  rw [d2, Nat.zero_mul, Nat.zero_add] at hx
  have hs : sgnL (numT q) = (decide (q < 0), decL q.natAbs) := by
    unfold numT
    by_cases c : q < 0
    · rw [if_pos c, decide_eq_true c]; rfl
    · rw [if_neg c, decide_eq_false c]; rfl
  unfold expF
  rw [hs]
  simp only
  rw [if_neg d3, hx]
  show some (if decide (q < 0) = true then -((q.natAbs : Nat) : Int) else ((q.natAbs : Nat) : Int)) = some q
  congr 1
  by_cases c : q < 0
  · rw [decide_eq_true c, if_pos rfl]; omega
  · rw [decide_eq_false c, if_neg (by simp)]; omega
theorem sgn_of {l : List Int} (neg : Bool) (h : headIs l 45 = false) (h2 : headIs l 43 = false) : sgnL (sgT neg ++ l) = (neg, l) := by
  cases neg with
  | true => rfl
  | false => exact sgnL_none h h2
end Go.Proofs.YtmoeaeflljpboaaDoor.X
/- Plain law: exact numbers of layer 3 in units of a power of two: Add, Sub, Cmp, Sign tell the numbers. Conditions: the exponents are in their range, the naturals short. -/
namespace Go.Proofs.YtmoeaeflljpboaaDoor.X
open Go Go.Rex
set_option linter.unusedVariables false

/-- An exact number that is v units of 2^B. -/
def RepB (L : Nat) (B : Int) (s : Bool) (l : List Int) (e v : Int) : Prop := ∃ n : Nat, l = digs n ∧ (digs n).length ≤ L ∧ B ≤ e ∧ e ≤ 10000 ∧ sg s (n * 2 ^ (e - B).toNat) = v
theorem sg_zero (s : Bool) : sg s 0 = 0 := by cases s <;> rfl
theorem RepB.zero {B : Int} (hB : B ≤ 0) : RepB 0 B false [] 0 0 := ⟨0, digs_zero.symm, by simp [digs_zero], hB, by omega, by rw [Nat.zero_mul]; rfl⟩
theorem RepB.mono {L M : Nat} {B : Int} {s : Bool} {l : List Int} {e v : Int} (h : RepB L B s l e v) (hL : L ≤ M) : RepB M B s l e v := by
  obtain ⟨n, h1, h2, h3⟩ := h
  exact ⟨n, h1, Nat.le_trans h2 hL, h3⟩
/-- A sum, told: its odd part at its place. -/
def outZ (g Z : Int) : Bool × (List Int × Int) := if Z = 0 then (false, ([], 0)) else (decide (Z < 0), (digs (oddN Z.natAbs), g + (tz Z.natAbs : Int)))
theorem outZ_of {neg : Bool} {r : Nat} (hr : r ≠ 0) (g : Int) : outZ g (sg neg r) = (neg, (digs (oddN r), g + (tz r : Int))) := by
  cases neg
  · rw [show sg false r = (r : Int) from rfl]
    unfold outZ
    rw [if_neg (by omega), decide_eq_false (by omega), Int.natAbs_natCast]
  · rw [show sg true r = -(r : Int) from rfl]
    unfold outZ
    rw [if_neg (by omega), decide_eq_true (by omega), Int.natAbs_neg, Int.natAbs_natCast]
theorem odd_at {n : Nat} (hn : n ≠ 0) (hl : (digs n).length ≤ 100000) (neg : Bool) {e : Int} (he : -1000000000 ≤ e ∧ e ≤ 1000000000) : Ev (fun k => dyad_odd k neg (digs n) e) (neg, (digs (oddN n), e + (tz n : Int))) := by
  have o := odd_all (WF.digs n) (lb_short hl (by omega)) (by rw [val_digs]; exact hl) (by rw [val_digs]; exact hn) neg he
  rwa [val_digs] at o
theorem sumV {A B : Nat} {e f : Int} (hA : A ≠ 0) (hB : B ≠ 0) (la : (digs A).length ≤ 2000) (lb : (digs B).length ≤ 2000) (he : -200000 ≤ e ∧ e ≤ 200000) (hf : -200000 ≤ f ∧ f ≤ 200000) (a b : Bool) :
    Ev (fun k => dyad_sum k a (digs A) e b (digs B) f) (outZ (min e f) (sg a (A * 2 ^ (e - min e f).toNat) + sg b (B * 2 ^ (f - min e f).toNat))) := by
  have pA := digs_len_pos.2 hA
  have pB := digs_len_pos.2 hB
  have hmn : mnI e f = min e f := by unfold mnI; split <;> omega
  obtain ⟨x, hx⟩ : ∃ x : Nat, e - min e f = (x : Int) := ⟨(e - min e f).toNat, by omega⟩
  obtain ⟨y, hy⟩ : ∃ y : Nat, f - min e f = (y : Int) := ⟨(f - min e f).toNat, by omega⟩
  have hx4 : x ≤ 400000 := by omega
  have hy4 : y ≤ 400000 := by omega
  have ral := raised_ev (N := A) (by_ := x) (by omega)
  have rbl := raised_ev (N := B) (by_ := y) (by omega)
  have hal : Ev (fun k => dyad_aligned k a (digs A) e b (digs B) f) (digs (A * 2 ^ x), (digs (B * 2 ^ y), min e f)) := by
    refine Ev.congr (fun k => dyad_aligned_eq k _ _ _ _ _ _) ?_
    rw [hmn, hx, hy, wrapS (by omega) (by omega), wrapS (by omega) (by omega)]
    exact Ev.bind ral (Ev.bind rbl (Ev.some _))
  have kA : (digs (A * 2 ^ x)).length ≤ 10000 := Nat.le_trans (pow_len la) (by omega)
  have kB : (digs (B * 2 ^ y)).length ≤ 10000 := Nat.le_trans (pow_len lb) (by omega)
  have nA : A * 2 ^ x ≠ 0 := by have := Nat.mul_pos (Nat.pos_of_ne_zero hA) (Nat.two_pow_pos x); omega
  have nB : B * 2 ^ y ≠ 0 := by have := Nat.mul_pos (Nat.pos_of_ne_zero hB) (Nat.two_pow_pos y); omega
  rw [hx, hy, Int.toNat_natCast, Int.toNat_natCast]
  have hmin : -1000000000 ≤ min e f ∧ min e f ≤ 1000000000 := by omega
  have start : ∀ r, Ev (fun k => (if a == b then ((nat_Add k (digs (A * 2 ^ x)) (digs (B * 2 ^ y)))).bind fun o1 => ((dyad_odd k a o1 (min e f))).bind fun o2 => some (o2.1, (o2.2.1, o2.2.2)) else ((nat_Cmp k (digs (A * 2 ^ x)) (digs (B * 2 ^ y)))).bind fun o3 => (if decide (o3 < 0) then ((nat_Sub k (digs (B * 2 ^ y)) (digs (A * 2 ^ x)))).bind fun o4 => ((dyad_odd k b o4.1 (min e f))).bind fun o5 => some (o5.1, (o5.2.1, o5.2.2)) else ((nat_Sub k (digs (A * 2 ^ x)) (digs (B * 2 ^ y)))).bind fun o6 => ((dyad_odd k a o6.1 (min e f))).bind fun o7 => some (o7.1, (o7.2.1, o7.2.2))))) r →
      Ev (fun k => dyad_sum k a (digs A) e b (digs B) f) r := fun r h =>
    Ev.congr (fun k => dyad_sum_eq k _ _ _ _ _ _) (Ev.neg (bF (by omega)) (Ev.neg (bF (by omega)) (Ev.bind hal h)))
  have hadd := Add_ev (WF.digs (A * 2 ^ x)) (WF.digs (B * 2 ^ y)) (lb_short kA (by omega)) (lb_short kB (by omega)) (by rw [val_digs]; omega) (by rw [val_digs]; omega)
  have hcmp := Cmp_ev (WF.digs (A * 2 ^ x)) (WF.digs (B * 2 ^ y)) (lb_short kA (by omega)) (lb_short kB (by omega))
  have hsab : B * 2 ^ y ≤ A * 2 ^ x → _ := fun h => Sub_ev (WF.digs (A * 2 ^ x)) (WF.digs (B * 2 ^ y)) (lb_short kA (by omega)) (lb_short kB (by omega)) (by rw [val_digs, val_digs]; exact h)
  have hsba : A * 2 ^ x ≤ B * 2 ^ y → _ := fun h => Sub_ev (WF.digs (B * 2 ^ y)) (WF.digs (A * 2 ^ x)) (lb_short kB (by omega)) (lb_short kA (by omega)) (by rw [val_digs, val_digs]; exact h)
  rw [val_digs, val_digs] at hadd hcmp
  simp only [val_digs] at hsab hsba
  generalize A * 2 ^ x = X at *
  generalize B * 2 ^ y = Y at *
  by_cases hab : a = b
  · subst hab
    have kS : (digs (X + Y)).length ≤ 100000 := Nat.le_trans (sum_len kA kB) (by omega)
    have h3 := odd_at (n := X + Y) (by omega) kS a hmin
    have e1 : sg a X + sg a Y = sg a (X + Y) := by cases a <;> simp [sg] <;> omega
    rw [e1, outZ_of (by omega)]
    exact start _ (Ev.pos (by simp) (Ev.bind hadd (Ev.bind h3 (Ev.some _))))
  · have hne : ¬ ((a == b) = true) := by simpa using hab
    have hb : b = !a := by cases a <;> cases b <;> simp_all
    rcases Nat.lt_trichotomy X Y with h | h | h
    · have h3 := odd_at (n := Y - X) (by omega) (Nat.le_trans (digs_len_mono (Nat.sub_le _ _)) (by omega)) b hmin
      have e1 : sg a X + sg b Y = sg b (Y - X) := by rw [hb]; cases a <;> simp [sg] <;> omega
      rw [e1, outZ_of (by omega)]
      exact start _ (Ev.neg hne (Ev.bind hcmp (Ev.pos (dT (by rw [cmpN, if_pos h]; omega)) (Ev.bind (hsba (by omega)) (Ev.bind h3 (Ev.some _))))))
    · subst h
      have e1 : sg a X + sg b X = 0 := by rw [hb]; cases a <;> simp [sg] <;> omega
      rw [e1]
      refine start _ (Ev.neg hne (Ev.bind hcmp (Ev.neg (dF (by rw [cmpN, if_neg (by omega), if_neg (by omega)]; omega)) (Ev.bind (hsab (by omega)) ?_))))
      rw [Nat.sub_self, digs_zero]
      exact Ev.bind (odd_zero WF.nil (by unfold Lb; simp) rfl a _) (Ev.some _)
    · have h3 := odd_at (n := X - Y) (by omega) (Nat.le_trans (digs_len_mono (Nat.sub_le _ _)) (by omega)) a hmin
      have e1 : sg a X + sg b Y = sg a (X - Y) := by rw [hb]; cases a <;> simp [sg] <;> omega
      rw [e1, outZ_of (by omega)]
      exact start _ (Ev.neg hne (Ev.bind hcmp (Ev.neg (dF (by rw [cmpN, if_neg (by omega), if_pos h]; omega)) (Ev.bind (hsab (by omega)) (Ev.bind h3 (Ev.some _))))))
/-- The number at a lower unit. -/
theorem sg_mul (s : Bool) (n p : Nat) : sg s (n * p) = sg s n * (p : Int) := by unfold sg; cases s <;> simp [Int.natCast_mul, Int.neg_mul]
theorem odd_val {n : Nat} (hn : n ≠ 0) (e B : Int) (hB : B ≤ e) : oddN n * 2 ^ (e + (tz n : Int) - B).toNat = n * 2 ^ (e - B).toNat := by
  conv => rhs; rw [← oddN_mul hn]
  rw [Nat.mul_assoc, ← Nat.pow_add]
  congr 2; omega
/-- What a sum is. -/
theorem outZ_rep {L : Nat} {g B Z v : Int} (hB : B ≤ g) (hB0 : B ≤ 0) (hg : g ≤ 4800) (hL : (digs Z.natAbs).length ≤ L) (hL2 : L ≤ 80) (hv : Z * ((2 ^ (g - B).toNat : Nat) : Int) = v) : RepB L B (outZ g Z).1 (outZ g Z).2.1 (outZ g Z).2.2 v := by
  unfold outZ
  by_cases c : Z = 0
  · rw [if_pos c]
    rw [c, Int.zero_mul] at hv
    rw [← hv]
    exact (RepB.zero hB0).mono (Nat.zero_le _)
  · rw [if_neg c]
    have hn : Z.natAbs ≠ 0 := by omega
    have b1 := tz_blen hn
    have b2 := blen_len hL
    refine ⟨oddN Z.natAbs, rfl, Nat.le_trans (digs_len_mono (oddN_le _)) hL, ?_, ?_, ?_⟩
    · show B ≤ g + (tz Z.natAbs : Int); omega
    · show g + (tz Z.natAbs : Int) ≤ 10000; omega
    · show sg (decide (Z < 0)) (oddN Z.natAbs * 2 ^ (g + (tz Z.natAbs : Int) - B).toNat) = v
      rw [odd_val hn g B hB, sg_mul, ← hv]
      congr 1
      unfold sg
      by_cases c2 : Z < 0
      · rw [decide_eq_true c2, if_pos rfl]; omega
      · rw [decide_eq_false c2, if_neg (by simp)]; omega
theorem ans_outZ {g Z : Int} (hg : -10000 ≤ g ∧ g ≤ 4800) (hL : (digs Z.natAbs).length ≤ 80) : Ev (fun k => dyad_answer k (outZ g Z).1 (outZ g Z).2.1 (outZ g Z).2.2) ((outZ g Z).1, ((outZ g Z).2.1, ((outZ g Z).2.2, (0 : Int)))) := by
  unfold outZ
  by_cases c : Z = 0
  · rw [if_pos c]
    exact Ev.congr (fun k => dyad_answer_eq k _ _ _) (Ev.bind (odd_zero (a := []) WF.nil (by unfold Lb; simp) rfl false 0) (Ev.neg (dF (by simp)) (Ev.neg (dF (by simp)) (Ev.neg (dF (by simp)) (Ev.some _)))))
  · rw [if_neg c]
    have hn : Z.natAbs ≠ 0 := by omega
    have b1 := tz_blen hn
    have b2 := blen_len hL
    have ho := oddN_odd hn
    have ll := digs_len_mono (oddN_le Z.natAbs)
    have o := odd_at (n := oddN Z.natAbs) (oddN_ne hn) (by omega) (decide (Z < 0)) (e := g + (tz Z.natAbs : Int)) (by omega)
    rw [oddN_of_odd ho, tz_of_odd ho, show g + (tz Z.natAbs : Int) + ((0 : Nat) : Int) = g + (tz Z.natAbs : Int) by omega] at o
    refine Ev.congr (fun k => dyad_answer_eq k _ _ _) (Ev.bind o (Ev.neg (dF ?_) (Ev.neg (dF ?_) (Ev.neg (dF ?_) (Ev.some _)))))
    · show ¬ (((digs (oddN Z.natAbs)).length : Int) > 1024); omega
    · show ¬ (g + (tz Z.natAbs : Int) < -40000); omega
    · show ¬ (g + (tz Z.natAbs : Int) > 40000); omega
theorem len_abs {a b : Bool} {x y m : Nat} (hx : (digs x).length ≤ m) (hy : (digs y).length ≤ m) : (digs (sg a x + sg b y).natAbs).length ≤ m + 1 :=
  Nat.le_trans (digs_len_mono (show (sg a x + sg b y).natAbs ≤ x + y by cases a <;> cases b <;> simp [sg] <;> omega)) (sum_len hx hy)
theorem len_pow {x t m w : Nat} (hx : (digs x).length ≤ m) (ht : t ≤ 64 * w) : (digs (x * 2 ^ t)).length ≤ m + w := by
  rw [digs_length_lt] at *
  rw [pow_split, ← two_64 w]
  exact Nat.mul_lt_mul_of_lt_of_le hx (pow_mono2 ht) (Nat.two_pow_pos _)
/-- A sum. -/
theorem addB {B : Int} (hB : -1200 ≤ B ∧ B ≤ 0) {s t : Bool} {l m : List Int} {e f v w : Int} (h : RepB 20 B s l e v) (h' : RepB 20 B t m f w) (he : e ≤ 1200) (hf : f ≤ 1200) : ∃ r : Bool × (List Int × Int), Ev (fun k => dyad_Add k s l e t m f) (r.1, (r.2.1, (r.2.2, (0 : Int)))) ∧ RepB 80 B r.1 r.2.1 r.2.2 (v + w) ∧ (v + w = 0 → r = (false, ([], 0))) := by
  obtain ⟨n, rfl, n1, n2, n3, n4⟩ := h
  obtain ⟨q, rfl, q1, q2, q3, q4⟩ := h'
  have tw := two_ev (n := n) (m := q) (e := e) (f := f) ⟨by omega, by omega, by omega⟩ ⟨by omega, by omega, by omega⟩ s t
  -- from a sum told by outZ on
  have fin : ∀ (s1 : Bool) (l1 : List Int) (e1 : Int) (s2 : Bool) (l2 : List Int) (e2 : Int) (g Z : Int), Ev (fun k => dyad_odd k s (digs n) e) (s1, (l1, e1)) → Ev (fun k => dyad_odd k t (digs q) f) (s2, (l2, e2)) → Ev (fun k => dyad_sum k s1 l1 e1 s2 l2 e2) (outZ g Z) → B ≤ g → g ≤ 4800 → (digs Z.natAbs).length ≤ 80 → Z * ((2 ^ (g - B).toNat : Nat) : Int) = v + w →
      ∃ r : Bool × (List Int × Int), Ev (fun k => dyad_Add k s (digs n) e t (digs q) f) (r.1, (r.2.1, (r.2.2, (0 : Int)))) ∧ RepB 80 B r.1 r.2.1 r.2.2 (v + w) ∧ (v + w = 0 → r = (false, ([], 0))) := by
    intro s1 l1 e1 s2 l2 e2 g Z o1 o2 sm hg hg5 hl hv
    refine ⟨outZ g Z, ?_, outZ_rep hg hB.2 hg5 hl (by decide) hv, fun z => ?_⟩
    · exact Ev.congr (fun k => dyad_Add_eq k _ _ _ _ _ _) (Ev.bind tw (Ev.neg (nF rfl) (Ev.bind o1 (Ev.bind o2 (Ev.bind sm (Ev.bind (ans_outZ (by omega) hl) (Ev.some _)))))))
    · rw [z] at hv
      have : Z = 0 := by
        rcases Int.mul_eq_zero.1 hv with g1 | g1
        · exact g1
        · have := Nat.two_pow_pos (g - B).toNat; omega
      unfold outZ; rw [if_pos this]
  by_cases z1 : n = 0
  · have o1 := odd_zero (a := digs n) (WF.digs n) (lb_short n1 (by omega)) (by rw [val_digs]; exact z1) s e
    have hv : v = 0 := by rw [← n4, z1, Nat.zero_mul, sg_zero]
    by_cases z2 : q = 0
    · have o2 := odd_zero (a := digs q) (WF.digs q) (lb_short q1 (by omega)) (by rw [val_digs]; exact z2) t f
      have hw : w = 0 := by rw [← q4, z2, Nat.zero_mul, sg_zero]
      refine fin _ _ _ _ _ _ 0 0 o1 o2 ?_ hB.2 (by decide) (by simp [digs_zero]) (by rw [hv, hw, Int.zero_mul]; rfl)
      exact Ev.congr (fun k => dyad_sum_eq k _ _ _ _ _ _) (Ev.pos (bT rfl) (Ev.some _))
    · have o2 := odd_at z2 (by omega) t (e := f) (by omega)
      have hz : sg t q ≠ 0 := by unfold sg; split <;> omega
      refine fin _ _ _ _ _ _ f (sg t q) o1 o2 ?_ q2 (by omega) (by rw [show (sg t q).natAbs = q by unfold sg; split <;> omega]; omega) (by rw [hv, Int.zero_add, ← q4, sg_mul])
      rw [outZ_of z2]
      exact Ev.congr (fun k => dyad_sum_eq k _ _ _ _ _ _) (Ev.pos (bT rfl) (Ev.some _))
  · have o1 := odd_at z1 (by omega) s (e := e) (by omega)
    have p1 := digs_len_pos.2 (oddN_ne z1)
    by_cases z2 : q = 0
    · have o2 := odd_zero (a := digs q) (WF.digs q) (lb_short q1 (by omega)) (by rw [val_digs]; exact z2) t f
      have hw : w = 0 := by rw [← q4, z2, Nat.zero_mul, sg_zero]
      refine fin _ _ _ _ _ _ e (sg s n) o1 o2 ?_ n2 (by omega) (by rw [show (sg s n).natAbs = n by unfold sg; split <;> omega]; omega) (by rw [hw, Int.add_zero, ← n4, sg_mul])
      rw [outZ_of z1]
      exact Ev.congr (fun k => dyad_sum_eq k _ _ _ _ _ _) (Ev.neg (bF (by omega)) (Ev.pos (bT rfl) (Ev.some _)))
    · have o2 := odd_at z2 (by omega) t (e := f) (by omega)
      have t1 := tz_blen z1
      have t2 := tz_blen z2
      have b1 := blen_len n1
      have b2 := blen_len q1
      have l1 := Nat.le_trans (digs_len_mono (oddN_le n)) n1
      have l2 := Nat.le_trans (digs_len_mono (oddN_le q)) q1
      have sm := sumV (e := e + (tz n : Int)) (f := f + (tz q : Int)) (oddN_ne z1) (oddN_ne z2) (by omega) (by omega) (by omega) (by omega) s t
      obtain ⟨g, hg⟩ : ∃ g : Int, g = min (e + (tz n : Int)) (f + (tz q : Int)) := ⟨_, rfl⟩
      rw [← hg] at sm
      have k1 := len_pow (w := 58) l1 (t := (e + (tz n : Int) - g).toNat) (by omega)
      have k2 := len_pow (w := 58) l2 (t := (f + (tz q : Int) - g).toNat) (by omega)
      refine fin _ _ _ _ _ _ g _ o1 o2 sm (by omega) (by omega) (Nat.le_trans (len_abs k1 k2) (by decide)) ?_
      rw [Int.add_mul, ← sg_mul, ← sg_mul, Nat.mul_assoc, Nat.mul_assoc, ← Nat.pow_add, ← Nat.pow_add]
      have x1 : (e + (tz n : Int) - g).toNat + (g - B).toNat = (e + (tz n : Int) - B).toNat := by omega
      have x2 : (f + (tz q : Int) - g).toNat + (g - B).toNat = (f + (tz q : Int) - B).toNat := by omega
      rw [x1, x2, odd_val z1 e B n2, odd_val z2 f B q2, n4, q4]
theorem RepB.neg {L : Nat} {B : Int} {s : Bool} {l : List Int} {e v : Int} (h : RepB L B s l e v) : RepB L B (!s) l e (-v) := by
  obtain ⟨n, h1, h2, h3, h4, h5⟩ := h
  exact ⟨n, h1, h2, h3, h4, by rw [← h5]; cases s <;> simp [sg]⟩
theorem signB {L : Nat} {B : Int} {s : Bool} {l : List Int} {e v : Int} (h : RepB L B s l e v) (hL : L ≤ 100000) : Ev (fun k => dyad_Sign k s l e) (sgn v) := by
  obtain ⟨n, rfl, n1, n2, n3, n4⟩ := h
  refine Ev.eq (Sign_ev (by omega) s e) ?_
  have hp := Nat.two_pow_pos (e - B).toNat
  by_cases c : n = 0
  · rw [if_pos c, ← n4, c, Nat.zero_mul, sg_zero]; rfl
  · have := Nat.mul_pos (Nat.pos_of_ne_zero c) hp
    rw [if_neg c, ← n4]
    generalize n * 2 ^ (e - B).toNat = z at *
    unfold sgn sg
    cases s
    · simp only [Bool.false_eq_true, if_false]
      rw [if_neg (by omega), if_neg (by omega)]
    · simp only [if_true]
      rw [if_pos (by omega)]
end Go.Proofs.YtmoeaeflljpboaaDoor.X
/- Plain law: an exact number times a power of two; a word's rounding to so many bits without bounds of the exponent. Conditions: the numbers are short, the exponents moderate. -/
namespace Go.Proofs.YtmoeaeflljpboaaDoor.X
open Go Go.Rex
set_option linter.unusedVariables false

theorem oddN_idem {n : Nat} (h : n ≠ 0) : tz (oddN n) = 0 ∧ oddN (oddN n) = oddN n := by
  have e := tz_of_odd (oddN_odd h)
  refine ⟨e, ?_⟩
  have := oddN_mul (oddN_ne h)
  rw [e, Nat.pow_zero, Nat.mul_one] at this
  exact this
theorem Scale_ok {N : Nat} (hN : N ≠ 0) (hl : (digs N).length ≤ 1000) {e n : Int} (he : -40000 ≤ e ∧ e ≤ 40000) (hn : -400000 ≤ n ∧ n ≤ 400000) (ht : -40000 ≤ e + (tz N : Int) + n ∧ e + (tz N : Int) + n ≤ 40000) (neg : Bool) : Ev (fun k => dyad_Scale k neg (digs N) e n) (neg, (digs (oddN N), (e + (tz N : Int) + n, (0 : Int)))) := by
  have ho : (digs (oddN N)).length ≤ 1000 := Nat.le_trans (digs_len_mono (oddN_le _)) hl
  have hb := blen_len hl
  have htz := tz_blen hN
  have h0 := oddN_ne hN
  obtain ⟨i1, i2⟩ := oddN_idem hN
  have o1 := odd_all (a := digs N) (WF.digs _) (by unfold Lb; omega) (by rw [val_digs]; omega) (by rw [val_digs]; exact hN) neg (e := e) (by omega)
  rw [val_digs] at o1
  have o2 := odd_all (a := digs (oddN N)) (WF.digs _) (by unfold Lb; omega) (by rw [val_digs]; omega) (by rw [val_digs]; exact h0) neg (e := e + (tz N : Int) + n) (by omega)
  rw [val_digs, i1, i2] at o2
  have hpos := digs_len_pos.2 h0
  have em : IntKind.i64.wrap (e + (tz N : Int) + mxI (-422144) (mnI n 422144)) = e + (tz N : Int) + n := by
    have : mxI (-422144) (mnI n 422144) = n := by unfold mxI mnI; rw [if_neg (show ¬ (422144 : Int) < n by omega)]; rw [if_pos (by omega)]
    rw [this, wrapI (by omega) (by omega)]
  refine Ev.congr (fun k => dyad_Scale_eq k _ _ _ _) (Ev.bind (refuses_ev ⟨hl, he.1, he.2⟩ neg) (Ev.neg (nF rfl) (Ev.bind o1 (Ev.neg (bF ?_) ?_))))
  · show ¬ (((digs (oddN N)).length : Int) = 0); omega
  · dsimp only
    rw [em]
    refine Ev.bind (Ev.congr (fun k => dyad_answer_eq k _ _ _) (Ev.bind o2 (Ev.neg (dF ?_) (Ev.neg (dF ?_) (Ev.neg (dF ?_) (Ev.some _)))))) (Ev.eq (Ev.some _) ?_)
    · show ¬ (((digs (oddN N)).length : Int) > 1024); omega
    · show ¬ (e + (tz N : Int) + n + ((0 : Nat) : Int) < -40000); omega
    · show ¬ (e + (tz N : Int) + n + ((0 : Nat) : Int) > 40000); omega
    · simp
end Go.Proofs.YtmoeaeflljpboaaDoor.X
/- Plain law: exact numbers of layer 3 in units of 2^B, of up to some thousand bits: Add, Sub, Cmp, Top, Scale, Mul by a word, and layer 11's own question for whole multiples. Conditions: the numbers are below 2^p, the exponents in their range. -/
namespace Go.Proofs.YtmoeaeflljpboaaDoor.X
open Go Go.Rex
set_option linter.unusedVariables false

/-- An exact number that is v units of 2^B. -/
def RepV (B : Int) (s : Bool) (l : List Int) (e v : Int) : Prop := ∃ n : Nat, l = digs n ∧ B ≤ e ∧ e ≤ B + 6000 ∧ sg s (n * 2 ^ (e - B).toNat) = v
theorem vsg_abs (s : Bool) (n : Nat) : (sg s n).natAbs = n := by unfold sg; cases s <;> simp
theorem RepV.neg {B : Int} {s : Bool} {l : List Int} {e v : Int} (h : RepV B s l e v) : RepV B (!s) l e (-v) := by
  obtain ⟨n, h1, h2, h3, h4⟩ := h
  exact ⟨n, h1, h2, h3, by rw [← h4]; unfold sg; cases s <;> simp⟩
theorem RepV.abs {B : Int} {s : Bool} {l : List Int} {e v : Int} (h : RepV B s l e v) : RepV B false l e (v.natAbs : Int) := by
  obtain ⟨n, h1, h2, h3, h4⟩ := h
  exact ⟨n, h1, h2, h3, by rw [← h4, vsg_abs]; rfl⟩
theorem RepV.up {B : Int} {s : Bool} {l : List Int} {e v : Int} (h : RepV B s l e v) (j : Nat) (hj : e + (j : Int) ≤ B + 6000) : RepV B s l (e + (j : Int)) (v * ((2 ^ j : Nat) : Int)) := by
  obtain ⟨n, h1, h2, h3, h4⟩ := h
  refine ⟨n, h1, by omega, hj, ?_⟩
  rw [← h4, show (e + (j : Int) - B).toNat = (e - B).toNat + j by omega, Nat.pow_add, ← Nat.mul_assoc, sg_mul]
theorem RepV.zero {B : Int} (hB : -2000 ≤ B ∧ B ≤ 0) : RepV B false [] 0 0 := ⟨0, digs_zero.symm, hB.2, by omega, by rw [Nat.zero_mul]; rfl⟩
theorem digs_short {n p k : Nat} (h : n < 2 ^ p) (hp : p ≤ 64 * k) : (digs n).length ≤ k := by
  rw [digs_length_lt, ← two_64 k]
  exact Nat.lt_of_lt_of_le h (pow_mono2 hp)
theorem RepV.facts {B : Int} {s : Bool} {l : List Int} {e v : Int} (h : RepV B s l e v) {p : Nat} (hp : p ≤ 4000) (hv : v.natAbs < 2 ^ p) : ∃ n : Nat, l = digs n ∧ (digs n).length ≤ 63 ∧ B ≤ e ∧ e ≤ B + 6000 ∧ sg s (n * 2 ^ (e - B).toNat) = v ∧ (n = 0 ↔ v = 0) ∧ n * 2 ^ (e - B).toNat = v.natAbs ∧ (n ≠ 0 → blen n + (e - B).toNat = blen v.natAbs ∧ blen v.natAbs ≤ p) := by
  obtain ⟨n, h1, h2, h3, h4⟩ := h
  have ha : n * 2 ^ (e - B).toNat = v.natAbs := by rw [← h4, vsg_abs]
  have hpp := Nat.two_pow_pos (e - B).toNat
  have hn : n < 2 ^ p := by
    have := Nat.le_mul_of_pos_right n hpp
    omega
  refine ⟨n, h1, digs_short hn (by omega), h2, h3, h4, ?_, ha, fun h0 => ?_⟩
  · constructor
    · intro e; rw [e, Nat.zero_mul] at ha; omega
    · intro e
      rw [e] at ha
      rcases Nat.mul_eq_zero.1 ha with g | g
      · exact g
      · omega
  · rw [← ha, blen_pow_mul h0]
    refine ⟨rfl, ?_⟩
    have := (blen_le_iff (n := n * 2 ^ (e - B).toNat) (k := p)).2 (by rw [ha]; exact hv)
    rwa [blen_pow_mul h0] at this
theorem addD {B : Int} (hB : -2000 ≤ B ∧ B ≤ 0) {s t : Bool} {l m : List Int} {e f v w : Int} (h : RepV B s l e v) (h' : RepV B t m f w) {p : Nat} (hp : p ≤ 3000) (hv : v.natAbs < 2 ^ p) (hw : w.natAbs < 2 ^ p) : ∃ r : Bool × (List Int × Int), Ev (fun k => dyad_Add k s l e t m f) (r.1, (r.2.1, (r.2.2, (0 : Int)))) ∧ RepV B r.1 r.2.1 r.2.2 (v + w) ∧ (v + w = 0 → r = (false, ([], 0))) := by
  have hvw : (v + w).natAbs < 2 ^ (p + 1) := by have : 2 ^ (p + 1) = 2 * 2 ^ p := by rw [Nat.pow_succ, Nat.mul_comm]
                                                omega
  obtain ⟨n, rfl, n1, n2, n3, n4, nz, na, nb⟩ := h.facts (by omega) hv
  obtain ⟨q, rfl, q1, q2, q3, q4, qz, qa, qb⟩ := h'.facts (by omega) hw
  have tw := two_ev (n := n) (m := q) (e := e) (f := f) ⟨by omega, by omega, by omega⟩ ⟨by omega, by omega, by omega⟩ s t
  have fin : ∀ (s1 : Bool) (l1 : List Int) (e1 : Int) (s2 : Bool) (l2 : List Int) (e2 : Int) (g Z : Int), Ev (fun k => dyad_odd k s (digs n) e) (s1, (l1, e1)) → Ev (fun k => dyad_odd k t (digs q) f) (s2, (l2, e2)) → Ev (fun k => dyad_sum k s1 l1 e1 s2 l2 e2) (outZ g Z) → B ≤ g → g ≤ 4800 → Z * ((2 ^ (g - B).toNat : Nat) : Int) = v + w →
      ∃ r : Bool × (List Int × Int), Ev (fun k => dyad_Add k s (digs n) e t (digs q) f) (r.1, (r.2.1, (r.2.2, (0 : Int)))) ∧ RepV B r.1 r.2.1 r.2.2 (v + w) ∧ (v + w = 0 → r = (false, ([], 0))) := by
    intro s1 l1 e1 s2 l2 e2 g Z o1 o2 sm hg hg5 hZ
    have hpg := Nat.two_pow_pos (g - B).toNat
    have hZa : Z.natAbs * 2 ^ (g - B).toNat = (v + w).natAbs := by rw [← hZ, Int.natAbs_mul, Int.natAbs_natCast]
    have hZl : Z.natAbs < 2 ^ (p + 1) := by
      have := Nat.le_mul_of_pos_right Z.natAbs hpg
      omega
    have hl : (digs Z.natAbs).length ≤ 80 := digs_short hZl (by omega)
    refine ⟨outZ g Z, ?_, ?_, fun z => ?_⟩
    · exact Ev.congr (fun k => dyad_Add_eq k _ _ _ _ _ _) (Ev.bind tw (Ev.neg (nF rfl) (Ev.bind o1 (Ev.bind o2 (Ev.bind sm (Ev.bind (ans_outZ (by omega) hl) (Ev.some _)))))))
    · obtain ⟨x, r1, r2, r3, r4, r5⟩ := outZ_rep hg hB.2 hg5 hl (by decide) hZ
      refine ⟨x, r1, r3, ?_, r5⟩
      by_cases c : Z = 0
      · unfold outZ; rw [if_pos c]; show (0 : Int) ≤ B + 6000; omega
      · unfold outZ; rw [if_neg c]
        have hn : Z.natAbs ≠ 0 := by omega
        have b1 := tz_blen hn
        have b2 := (blen_le_iff (n := Z.natAbs * 2 ^ (g - B).toNat) (k := p + 1)).2 (by omega)
        rw [blen_pow_mul hn] at b2
        show g + (tz Z.natAbs : Int) ≤ B + 6000
        omega
    · rw [z] at hZ
      have : Z = 0 := by
        rcases Int.mul_eq_zero.1 hZ with g1 | g1
        · exact g1
        · have := Nat.two_pow_pos (g - B).toNat; omega
      unfold outZ; rw [if_pos this]
  by_cases z1 : n = 0
  · have o1 := odd_zero (a := digs n) (WF.digs n) (lb_short n1 (by omega)) (by rw [val_digs]; exact z1) s e
    have hv : v = 0 := nz.1 z1
    by_cases z2 : q = 0
    · have o2 := odd_zero (a := digs q) (WF.digs q) (lb_short q1 (by omega)) (by rw [val_digs]; exact z2) t f
      have hw : w = 0 := qz.1 z2
      refine fin _ _ _ _ _ _ 0 0 o1 o2 ?_ hB.2 (by decide) (by rw [hv, hw, Int.zero_mul]; rfl)
      exact Ev.congr (fun k => dyad_sum_eq k _ _ _ _ _ _) (Ev.pos (bT rfl) (Ev.some _))
    · have o2 := odd_at z2 (by omega) t (e := f) (by omega)
      have := qb z2
      refine fin _ _ _ _ _ _ f (sg t q) o1 o2 ?_ q2 (by omega) (by rw [hv, Int.zero_add, ← q4, sg_mul])
      rw [outZ_of z2]
      exact Ev.congr (fun k => dyad_sum_eq k _ _ _ _ _ _) (Ev.pos (bT rfl) (Ev.some _))
  · have o1 := odd_at z1 (by omega) s (e := e) (by omega)
    have p1 := digs_len_pos.2 (oddN_ne z1)
    have nb' := nb z1
    by_cases z2 : q = 0
    · have o2 := odd_zero (a := digs q) (WF.digs q) (lb_short q1 (by omega)) (by rw [val_digs]; exact z2) t f
      have hw : w = 0 := qz.1 z2
      refine fin _ _ _ _ _ _ e (sg s n) o1 o2 ?_ n2 (by omega) (by rw [hw, Int.add_zero, ← n4, sg_mul])
      rw [outZ_of z1]
      exact Ev.congr (fun k => dyad_sum_eq k _ _ _ _ _ _) (Ev.neg (bF (by omega)) (Ev.pos (bT rfl) (Ev.some _)))
    · have o2 := odd_at z2 (by omega) t (e := f) (by omega)
      have qb' := qb z2
      have t1 := tz_blen z1
      have t2 := tz_blen z2
      have l1 := Nat.le_trans (digs_len_mono (oddN_le n)) n1
      have l2 := Nat.le_trans (digs_len_mono (oddN_le q)) q1
      have sm := sumV (e := e + (tz n : Int)) (f := f + (tz q : Int)) (oddN_ne z1) (oddN_ne z2) (by omega) (by omega) (by omega) (by omega) s t
      obtain ⟨g, hg⟩ : ∃ g : Int, g = min (e + (tz n : Int)) (f + (tz q : Int)) := ⟨_, rfl⟩
      rw [← hg] at sm
      refine fin _ _ _ _ _ _ g _ o1 o2 sm (by omega) (by omega) ?_
      rw [Int.add_mul, ← sg_mul, ← sg_mul, Nat.mul_assoc, Nat.mul_assoc, ← Nat.pow_add, ← Nat.pow_add]
      have x1 : (e + (tz n : Int) - g).toNat + (g - B).toNat = (e + (tz n : Int) - B).toNat := by omega
      have x2 : (f + (tz q : Int) - g).toNat + (g - B).toNat = (f + (tz q : Int) - B).toNat := by omega
      rw [x1, x2, odd_val z1 e B n2, odd_val z2 f B q2, n4, q4]
theorem topD {B : Int} (hB : -2000 ≤ B ∧ B ≤ 0) {s : Bool} {l : List Int} {e v : Int} (h : RepV B s l e v) {p : Nat} (hp : p ≤ 3000) (hv : v.natAbs < 2 ^ p) (h0 : v ≠ 0) : Ev (fun k => dyad_Top k s l e) (B + (blen v.natAbs : Int) - 1, (0 : Int)) := by
  obtain ⟨n, rfl, n1, n2, n3, n4, n5, n6, n7⟩ := h.facts (by omega) hv
  have hn : n ≠ 0 := fun e => h0 (n5.1 e)
  obtain ⟨n8, n9⟩ := n7 hn
  have ln := Len_ev (a := digs n) (WF.digs _) (by unfold Lb; omega)
  rw [val_digs] at ln
  have hbp := blen_pos hn
  refine Ev.congr (fun k => dyad_Top_eq k _ _ _) (Ev.bind (refuses_ev ⟨by omega, by omega, by omega⟩ s) (Ev.neg (nF rfl) (Ev.bind ln (Ev.neg (bF (by omega)) (Ev.eq (Ev.some _) ?_)))))
  rw [wrapI (x := (blen n : Int) - 1) (by omega) (by omega), wrapI (by omega) (by omega)]
  congr 1
  omega
theorem scaleD {B : Int} (hB : -2000 ≤ B ∧ B ≤ 0) {s : Bool} {l : List Int} {e v : Int} (h : RepV B s l e v) {p j : Nat} (hp : p ≤ 3000) (hv : (v * ((2 ^ j : Nat) : Int)).natAbs < 2 ^ p) (h0 : v ≠ 0) : ∃ (l' : List Int) (e' : Int), Ev (fun k => dyad_Scale k s l e (j : Int)) (s, (l', (e', (0 : Int)))) ∧ RepV B s l' e' (v * ((2 ^ j : Nat) : Int)) := by
  have hva : v.natAbs * 2 ^ j < 2 ^ p := by rw [Int.natAbs_mul, Int.natAbs_natCast] at hv; exact hv
  have hpj := Nat.two_pow_pos j
  have hv1 : v.natAbs < 2 ^ p := by
    have := Nat.le_mul_of_pos_right v.natAbs hpj
    omega
  obtain ⟨n, rfl, n1, n2, n3, n4, n5, n6, n7⟩ := h.facts (by omega) hv1
  have hn : n ≠ 0 := fun e => h0 (n5.1 e)
  obtain ⟨n8, n9⟩ := n7 hn
  have b2 := (blen_le_iff (n := v.natAbs * 2 ^ j) (k := p)).2 hva
  rw [blen_pow_mul (by omega)] at b2
  have t1 := tz_blen hn
  have sc := Scale_ok hn (by omega) (e := e) (n := (j : Int)) (by omega) (by omega) (by omega) s
  refine ⟨_, _, sc, oddN n, rfl, by omega, by omega, ?_⟩
  rw [← n4, ← sg_mul, show (e + (tz n : Int) + (j : Int) - B).toNat = tz n + ((e - B).toNat + j) by omega, Nat.pow_add, ← Nat.mul_assoc, oddN_mul hn, Nat.pow_add, ← Nat.mul_assoc]
end Go.Proofs.YtmoeaeflljpboaaDoor.X
/- Plain law: the digits of a hexadecimal text, put together by layer 3's Scale and Add, are the text's natural. Conditions: at most six hundred digits. -/
namespace Go.Proofs.YtmoeaeflljpboaaDoor.X
open Go Go.Rex
set_option linter.unusedVariables false

/-! ### Digits -/
/-- A number modulo sixteen. -/
def in16 (x : Int) : Nat := ((x.tmod 16 + 16).tmod 16).toNat
theorem in16_lt (x : Int) : in16 x < 16 := by
  unfold in16
  have h3 := Int.tmod_lt_of_pos (x.tmod 16 + 16) (show (0 : Int) < 16 by omega)
  omega
theorem into16 {n : Int} (k : Nat) : vernierlaw15_into k n 16 = some ((in16 n : Nat) : Int) := by
  have h1 := Int.tmod_lt_of_pos n (show (0 : Int) < 16 by omega)
  have h2 : -16 < n.tmod 16 := by
    have := Int.tmod_lt_of_pos (-n) (show (0 : Int) < 16 by omega)
    rw [Int.neg_tmod] at this; omega
  have h4 := Int.tmod_nonneg 16 (show 0 ≤ n.tmod 16 + 16 by omega)
  rw [vernierlaw15_into_eq, if_neg (by omega), if_neg (by omega), wrapI (by omega) (by omega)]
  unfold in16
  rw [Int.toNat_of_nonneg h4]
theorem says_dig : ∀ d : Fin 16, bl (vernierlaw15_HexesSays.s1.extract d.val (d.val + (d.val + 1 - d.val))) = [hexc d.val] := by decide
theorem says_ext {d : Nat} (h : d < 16) : bl (vernierlaw15_HexesSays.s1.extract d (d + (d + 1 - d))) = [hexc d] := says_dig ⟨d, h⟩
def dgs (l : List Int) : List Int := l.map fun x => ((in16 x : Nat) : Int)
def dcs (l : List Int) : List Int := l.map fun x => hexc (in16 x)
theorem dgs_hex (l : List Int) : HexL (dgs l) := by
  intro x hx
  obtain ⟨y, -, rfl⟩ := List.mem_map.1 hx
  have := in16_lt y
  omega
theorem Ev.at {α : Type} {g : Nat → Option α} {r : α} (c : Nat) (h : ∀ m, g (m + c) = some r) : Ev g r :=
  ⟨c, fun k hk => by have := h (k - c); rwa [Nat.sub_add_cancel hk] at this⟩
theorem Ev.two {α : Type} {g : Nat → Option α} {r : α} (h : Ev g r) : Ev2 (fun k _ => g k) r := by
  obtain ⟨c, hc⟩ := h
  exact ⟨c, fun k hk _ _ => hc k hk⟩

/-! ### The exact number -/
/-- A natural as an exact number. -/
def DV (b : Bool) (l : List Int) (e : Int) (N : Nat) : Prop := RepV 0 b l e (N : Int) ∧ (N = 0 → b = false ∧ l = [] ∧ e = 0)
theorem scale_nil (m : Nat) (n : Int) : dyad_Scale (m + 50) false [] 0 n = some (false, ([], (0, 0))) := by kernel_rfl
theorem neg_nil (m : Nat) : dyad_Neg (m + 50) false [] 0 = some (false, ([], (0, 0))) := by kernel_rfl
theorem from_nil (m : Nat) : dyad_FromInt (m + 50) 0 = some (false, ([], 0)) := by kernel_rfl
theorem from16 {x : Nat} (hx : x < 16) : ∃ r : Bool × (List Int × Int), Ev (fun k => dyad_FromInt k (x : Int)) (r.1, (r.2.1, r.2.2)) ∧ RepV 0 r.1 r.2.1 r.2.2 (x : Int) := by
  by_cases c : x = 0
  · subst c
    exact ⟨(false, ([], 0)), Ev.at 50 from_nil, RepV.zero ⟨by decide, by decide⟩⟩
  · have hd : ((List.replicate 1 (0 : Int)).set 0 (IntKind.u64.wrap (x : Int))) = digs x := by
      rw [digs_word c (by omega), wrap_u64, Int.emod_eq_of_lt (by omega) (by omega)]; rfl
    have hl : (digs x).length ≤ 100000 := by rw [digs_word c (by omega)]; simp
    have ht := tz_blen c
    have hb : blen x ≤ 4 := blen_le_iff.2 (by omega)
    refine ⟨(false, (digs (oddN x), (0 : Int) + (tz x : Int))), Ev.congr (fun k => dyad_FromInt_eq k _) (Ev.neg (dF (by omega)) ?_), oddN x, rfl, by show (0 : Int) ≤ (0 : Int) + (tz x : Int); omega, by show (0 : Int) + (tz x : Int) ≤ 0 + 6000; omega, ?_⟩
    · rw [hd, decide_eq_false (by omega)]
      exact Ev.bind (odd_at c hl false (by omega)) (Ev.some _)
    · show ((oddN x * 2 ^ ((0 : Int) + (tz x : Int) - 0).toNat : Nat) : Int) = _
      rw [show ((0 : Int) + (tz x : Int) - 0).toNat = tz x by omega, oddN_mul c]
theorem digit_step {b : Bool} {l : List Int} {e : Int} {N : Nat} (h : DV b l e N) {x i : Nat} (hx : x < 16) (hi : i ≤ 600) (hN : N < 16 ^ i) : ∃ u w r : Bool × (List Int × Int), Ev (fun k => dyad_Scale k b l e 4) (u.1, (u.2.1, (u.2.2, (0 : Int)))) ∧ Ev (fun k => dyad_FromInt k (x : Int)) (w.1, (w.2.1, w.2.2)) ∧ Ev (fun k => dyad_Add k u.1 u.2.1 u.2.2 w.1 w.2.1 w.2.2) (r.1, (r.2.1, (r.2.2, (0 : Int)))) ∧ DV r.1 r.2.1 r.2.2 (16 * N + x) := by
  obtain ⟨h1, h2⟩ := h
  have hp : 16 * N + 16 ≤ 2 ^ (4 * i + 4) := by
    rw [show (16 : Nat) ^ i = 2 ^ (4 * i) by rw [Nat.pow_mul]] at hN
    rw [Nat.pow_add]; omega
  have up : ∃ u : Bool × (List Int × Int), Ev (fun k => dyad_Scale k b l e 4) (u.1, (u.2.1, (u.2.2, (0 : Int)))) ∧ RepV 0 u.1 u.2.1 u.2.2 ((16 * N : Nat) : Int) := by
    by_cases c : N = 0
    · obtain ⟨rfl, rfl, rfl⟩ := h2 c
      refine ⟨(false, ([], 0)), Ev.at 50 (fun m => scale_nil m 4), ?_⟩
      rw [c]; exact RepV.zero ⟨by decide, by decide⟩
    · have e4 : (N : Int) * ((2 ^ 4 : Nat) : Int) = ((16 * N : Nat) : Int) := by
        rw [show (2 : Nat) ^ 4 = 16 by decide]; omega
      obtain ⟨l', e', g1, g2⟩ := scaleD (B := 0) ⟨by decide, by decide⟩ h1 (p := 4 * i + 4) (j := 4) (by omega) (by rw [e4, Int.natAbs_natCast]; omega) (by omega)
      rw [e4] at g2
      exact ⟨(b, (l', e')), g1, g2⟩
  obtain ⟨u, u1, u2⟩ := up
  obtain ⟨w, w1, w2⟩ := from16 hx
  obtain ⟨r, r1, r2, r3⟩ := addD (B := 0) ⟨by decide, by decide⟩ u2 w2 (p := 4 * i + 4) (by omega) (by rw [Int.natAbs_natCast]; omega) (by rw [Int.natAbs_natCast]; omega)
  have ec : ((16 * N : Nat) : Int) + (x : Int) = ((16 * N + x : Nat) : Int) := by omega
  rw [ec] at r2 r3
  refine ⟨u, w, r, u1, w1, r1, r2, fun z => ?_⟩
  have := r3 (by omega)
  rw [this]; exact ⟨rfl, rfl, rfl⟩

/-! ### The walk over the digits -/
theorem take_snoc {l : List Int} {i : Nat} (h : i < l.length) : l.take (i + 1) = l.take i ++ [l.getD i 0] := by
  rw [List.take_add_one, List.getElem?_eq_getElem h, Option.toList_some, List.getD_eq_getElem?_getD, List.getElem?_eq_getElem h]; rfl
theorem hexN_dgs {l : List Int} {i : Nat} (h : i < l.length) : hexN (dgs (l.take (i + 1))) = 16 * hexN (dgs (l.take i)) + in16 (l.getD i 0) := by
  unfold dgs
  rw [take_snoc h, List.map_append, List.map_cons, List.map_nil, hexN_snoc, Int.toNat_natCast]
theorem says_l1 (x0 x1 x2 x7 x8 x11 : Int) (b12 : Bool) {l9 l10 : List Int} (h9 : l9.length ≤ 300) (h10 : l10.length ≤ 300) (hE : -5000 ≤ x2 ∧ x2 ≤ 5000)
    (fin : ∀ (s3 s4 : ByteArray) (b : Bool) (l : List Int) (e : Int), bl s3 = dcs l9 → bl s4 = dcs l10 → DV b l e (hexN (dgs (l9 ++ l10))) → ∃ r : Bool × (List Int × Int), Ev (fun k => dyad_Scale k b l e (x2 - 4 * (l10.length : Int))) (r.1, (r.2.1, (r.2.2, (0 : Int)))) ∧ Ev (fun k => vernierlaw15_HexesSays.j3 k x0 x1 x2 s3 s4 0 x7 x8 l9 l10 x11 b12 r.2.1 r.1 r.2.2) true) (n : Nat) :
    ∀ (i : Nat) (s3 s4 : ByteArray) (b : Bool) (l : List Int) (e : Int), i + n = l9.length + l10.length → bl s3 = dcs (l9.take i) → bl s4 = dcs (l10.take (i - l9.length)) → DV b l e (hexN (dgs ((l9 ++ l10).take i))) → Ev2 (fun k m => vernierlaw15_HexesSays.l1 k m x0 x1 x2 s3 s4 0 (i : Int) x7 x8 l9 l10 x11 b12 l b e) true := by
  have wl : IntKind.i64.wrap ((l9.length : Int) + (l10.length : Int)) = ((l9.length + l10.length : Nat) : Int) := by rw [wrapI (by omega) (by omega)]; omega
  have w4 : IntKind.i64.wrap (x2 - IntKind.i64.wrap (4 * (l10.length : Int))) = x2 - 4 * (l10.length : Int) := by rw [wrapI (x := 4 * (l10.length : Int)) (by omega) (by omega), wrapI (by omega) (by omega)]
  have hs1 : vernierlaw15_HexesSays.s1.size = 16 := by decide
  induction n with
  | zero =>
    intro i s3 s4 b l e hi h3 h4 hd
    rw [List.take_of_length_le (by omega)] at h3 h4
    rw [List.take_of_length_le (by rw [List.length_append]; omega)] at hd
    obtain ⟨r, g1, g2⟩ := fin s3 s4 b l e h3 h4 hd
    refine Ev2.step (fun k q => vernierlaw15_HexesSays.l1_eq k q _ _ _ _ _ _ _ _ _ _ _ _ _ _ _ _) ?_
    rw [wl, w4]
    exact Ev2.neg (dF (by omega)) (Ev2.call g1 (Ev2.neg (nF rfl) (Ev2.neg (nF rfl) (Ev.two g2))))
  | succ n ih =>
    intro i s3 s4 b l e hi h3 h4 hd
    have hlt : i < (l9 ++ l10).length := by rw [List.length_append]; omega
    have hN : hexN (dgs ((l9 ++ l10).take i)) < 16 ^ i := by
      have := hexN_lt (dgs_hex ((l9 ++ l10).take i))
      have e1 : (dgs ((l9 ++ l10).take i)).length = i := by unfold dgs; rw [List.length_map, List.length_take]; omega
      rwa [e1] at this
    have w1 : IntKind.i64.wrap ((i : Int) + 1) = ((i + 1 : Nat) : Int) := by rw [wrapI (by omega) (by omega)]; omega
    have hst := hexN_dgs hlt
    have l3 : (bl s3).length ≤ 300 := by rw [h3]; unfold dcs; rw [List.length_map, List.length_take]; omega
    have l4 : (bl s4).length ≤ 300 := by rw [h4]; unfold dcs; rw [List.length_map, List.length_take]; omega
    have go : ∀ (s3' s4' : ByteArray) (y : Int), (l9 ++ l10).getD i 0 = y → bl s3' = dcs (l9.take (i + 1)) → bl s4' = dcs (l10.take (i + 1 - l9.length)) → Ev2 (fun k q => vernierlaw15_HexesSays.j2 k q x0 x1 x2 s3' s4' 0 (i : Int) ((in16 y : Nat) : Int) x7 x8 l9 l10 x11 b12 l b e) true := by
      intro s3' s4' y hy a3 a4
      obtain ⟨u, w, r, g1, g2, g3, g4⟩ := digit_step hd (in16_lt y) (by omega) hN
      rw [hy] at hst
      rw [← hst] at g4
      have q := ih (i + 1) s3' s4' r.1 r.2.1 r.2.2 (by omega) a3 a4 g4
      refine Ev2.congr (fun k q => vernierlaw15_HexesSays.j2_eq k q _ _ _ _ _ _ _ _ _ _ _ _ _ _ _ _ _) ?_
      rw [w1]
      exact Ev2.call g1 (Ev2.call g2 (Ev2.call g3 (Ev2.neg (nF rfl) (Ev2.neg (nF rfl) q))))
    have w2 : ∀ d : Nat, d < 16 → IntKind.i64.wrap ((d : Int) + 1) = ((d + 1 : Nat) : Int) := fun d h => by rw [wrapI (by omega) (by omega)]; omega
    refine Ev2.step (fun k q => vernierlaw15_HexesSays.l1_eq k q _ _ _ _ _ _ _ _ _ _ _ _ _ _ _ _) ?_
    rw [wl]
    refine Ev2.pos (dT (by omega)) ?_
    by_cases c : i < l9.length
    · have hy : (l9 ++ l10).getD i 0 = l9.getD i 0 := by rw [List.getD_eq_getElem?_getD, List.getD_eq_getElem?_getD, List.getElem?_append_left c]
      have d16 := in16_lt (l9.getD i 0)
      refine Ev2.pos (dT (by omega)) (Ev2.pos ⟨by omega, by omega⟩ (Ev2.call (Ev.of fun k => into16 k) ?_))
      simp only [Int.toNat_natCast]
      rw [w2 _ d16, Int.toNat_natCast]
      refine Ev2.pos ⟨by omega, by omega, by omega⟩ (Ev2.pos (cat_le (by rw [says_ext d16]; simp; omega)) (go _ _ _ hy ?_ ?_))
      · rw [bl_append, says_ext d16, h3, take_snoc c]; unfold dcs; rw [List.map_append]; rfl
      · rw [h4, show i - l9.length = 0 by omega, show i + 1 - l9.length = 0 by omega]
    · have hy : (l9 ++ l10).getD i 0 = l10.getD (i - l9.length) 0 := by rw [List.getD_eq_getElem?_getD, List.getD_eq_getElem?_getD, List.getElem?_append_right (by omega)]
      have d16 := in16_lt (l10.getD (i - l9.length) 0)
      have w3 : IntKind.i64.wrap ((i : Int) - (l9.length : Int)) = ((i - l9.length : Nat) : Int) := by rw [wrapI (by omega) (by omega)]; omega
      refine Ev2.neg (dF (by omega)) ?_
      rw [w3, Int.toNat_natCast]
      refine Ev2.pos ⟨by omega, by omega⟩ (Ev2.call (Ev.of fun k => into16 k) ?_)
      simp only [Int.toNat_natCast]
      rw [w2 _ d16, Int.toNat_natCast]
      refine Ev2.pos ⟨by omega, by omega, by omega⟩ (Ev2.pos (cat_le (by rw [says_ext d16]; simp; omega)) (go _ _ _ hy ?_ ?_))
      · rw [h3, List.take_of_length_le (by omega), List.take_of_length_le (by omega)]
      · rw [bl_append, says_ext d16, h4, show i + 1 - l9.length = i - l9.length + 1 by omega, take_snoc (l := l10) (by omega)]; unfold dcs; rw [List.map_append]; rfl
end Go.Proofs.YtmoeaeflljpboaaDoor.X
/- Plain law: hexadecimal texts of given digits, and what they say; a number's answer does not hang on where its point stands. Conditions: the texts are short. -/
namespace Go.Proofs.YtmoeaeflljpboaaDoor.X
open Go Go.Rex
set_option linter.unusedVariables false

/-! ### Numbers in base ten, by the law -/
theorem tenl_at : ∀ d : Fin 10, ((bl vernierlaw15_number.s3).drop d.val).take (d.val + (d.val + 1 - d.val) - d.val) = [((48 + d.val : Nat) : Int)] := by decide
theorem tenl_ext {d : Nat} (h : d < 10) : bl (vernierlaw15_number.s3.extract d (d + (d + 1 - d))) = [((48 + d : Nat) : Int)] := by rw [bl_extract]; exact tenl_at ⟨d, h⟩
theorem numberl_l1 (s1 : ByteArray) (h1 : (bl s1).length ≤ 10) (B : Nat) (hB : B ≤ 1000) (n : Nat) : ∀ (s2 : ByteArray), n < 9223372036854775807 → (decs n).length + (bl s2).length ≤ B →
    ∃ o, Ev2 (fun k m => vernierlaw15_number.l1 k m (n : Int) s1 s2) o ∧ bl o = bl s1 ++ (if n = 0 ∧ bl s2 = [] then [48] else (decs n).reverse ++ bl s2) := by
  induction n using Nat.strongRecOn with
  | _ n ih =>
    intro s2 hn hb
    have hs3 : vernierlaw15_number.s3.size = 10 := by decide
    have he : bl vernierlaw15_number.s2 = [] := by decide
    have t1 : ((n : Nat) : Int).tmod 10 = ((n % 10 : Nat) : Int) := rfl
    have t2 : ((n : Nat) : Int).tdiv 10 = ((n / 10 : Nat) : Int) := rfl
    have w1 : IntKind.i64.wrap (((n % 10 : Nat) : Int) + 1) = ((n % 10 + 1 : Nat) : Int) := by rw [wrapI (by omega) (by omega)]; omega
    have w2 : IntKind.i64.wrap ((n / 10 : Nat) : Int) = ((n / 10 : Nat) : Int) := wrapI (by omega) (by omega)
    have hx := tenl_ext (d := n % 10) (Nat.mod_lt _ (by decide))
    have start : ∀ {r}, _ → Ev2 (fun k m => vernierlaw15_number.l1 k m (n : Int) s1 s2) r := fun hh => Ev2.step (fun k m => vernierlaw15_number.l1_eq k m _ _ _) hh
    rw [t1, t2, w1, w2, Int.toNat_natCast, Int.toNat_natCast] at start
    generalize hT : vernierlaw15_number.s3.extract (n % 10) (n % 10 + (n % 10 + 1 - n % 10)) = T at *
    have hcat : bl (T ++ s2) = ((48 + n % 10 : Nat) : Int) :: bl s2 := by rw [bl_append, hx]; rfl
    by_cases c : n = 0
    · subst c
      by_cases e : bl s2 = []
      · -- the one digit
        have hcl : (bl T).length + (bl s2).length ≤ 100000 := by rw [hx, e]; simp
        have fin : Ev2 (fun k m => vernierlaw15_number.l1 k m ((0 : Nat) : Int) s1 (T ++ s2)) (s1 ++ (T ++ s2)) := by
          refine Ev2.step (fun k m => vernierlaw15_number.l1_eq k m _ _ _) (Ev2.neg (by decide) (Ev2.neg ?_ (Ev2.pos (cat_le (by rw [hcat, e]; simp; omega)) (Ev2.some _))))
          rw [toList_bl, hcat, he]; simp
        refine ⟨_, start (Ev2.neg (by decide) (Ev2.pos (by rw [toList_bl, e, he]; rfl) (Ev2.pos ⟨by omega, by omega, by omega⟩ (Ev2.pos (cat_le hcl) fin)))), ?_⟩
        rw [bl_append, hcat, e, if_pos ⟨rfl, rfl⟩]; rfl
      · refine ⟨_, start (Ev2.neg (by decide) (Ev2.neg ?_ (Ev2.pos (cat_le (by omega)) (Ev2.some _)))), ?_⟩
        · rw [toList_bl, he]; simpa using e
        · rw [bl_append, if_neg (fun h => e h.2), decs_zero]; rfl
    · have hl : (decs n).length = (decs (n / 10)).length + 1 := by rw [decs_pos c]; rfl
      obtain ⟨o, g1, g2⟩ := ih (n / 10) (by omega) (T ++ s2) (by omega) (by rw [hcat, List.length_cons]; omega)
      refine ⟨o, start (Ev2.pos (dT (by omega)) (Ev2.pos ⟨by omega, by omega, by omega⟩ (Ev2.pos (cat_le (by rw [hx]; simp; omega)) g1))), ?_⟩
      rw [g2, hcat, if_neg (by simp), if_neg (fun h => c h.1), decs_pos c, List.reverse_cons, List.append_assoc]; rfl
theorem numberl_ev {q : Int} (h : -100000 ≤ q ∧ q ≤ 100000) : ∃ o, Ev (fun k => vernierlaw15_number k q) o ∧ bl o = numT q := by
  have s0 : bl vernierlaw15_number.s0 = [45] := by decide
  have s1 : bl vernierlaw15_number.s1 = [43] := by decide
  have s2 : bl vernierlaw15_number.s2 = [] := by decide
  have hd : (decs q.natAbs).length ≤ 6 := decs_len.2 (by omega)
  have fin : ∀ (sg : ByteArray), (bl sg).length ≤ 10 → ∃ o, Ev (fun k => vernierlaw15_number.j0 k (q.natAbs : Int) sg) o ∧ bl o = bl sg ++ decL q.natAbs := by
    intro sg hsg
    obtain ⟨o, g1, g2⟩ := numberl_l1 sg hsg 1000 (by omega) q.natAbs vernierlaw15_number.s2 (by omega) (by rw [s2]; simp; omega)
    refine ⟨o, Ev.congr (fun k => vernierlaw15_number.j0_eq k _ _) g1.ev, ?_⟩
    rw [g2, s2, List.append_nil]
    unfold decL
    by_cases c : q.natAbs = 0
    · rw [if_pos ⟨c, rfl⟩, if_pos c]
    · rw [if_neg (fun h => c h.1), if_neg c]
  by_cases c : q < 0
  · obtain ⟨o, g1, g2⟩ := fin vernierlaw15_number.s0 (by rw [s0]; simp)
    refine ⟨o, Ev.congr (fun k => vernierlaw15_number_eq k q) (Ev.pos (dT c) ?_), by rw [g2, s0]; unfold numT; rw [if_pos c]; rfl⟩
    rw [show IntKind.i64.wrap (0 - q) = ((q.natAbs : Nat) : Int) by rw [wrapI (by omega) (by omega)]; omega]
    exact g1
  · obtain ⟨o, g1, g2⟩ := fin vernierlaw15_number.s1 (by rw [s1]; simp)
    rw [show ((q.natAbs : Nat) : Int) = q by omega] at g1
    exact ⟨o, Ev.congr (fun k => vernierlaw15_number_eq k q) (Ev.neg (dF c) g1), by rw [g2, s1]; unfold numT; rw [if_neg c]; rfl⟩

/-! ### Texts -/
theorem hexD_hexc : ∀ d : Fin 16, hexD (hexc d.val) = (d.val : Int) := by decide
theorem hexD_in (x : Int) : hexD (hexc (in16 x)) = ((in16 x : Nat) : Int) := hexD_hexc ⟨in16 x, in16_lt x⟩
theorem rdF_dcs (pt : Bool) : ∀ (l ds : List Int) (bh : Nat) (tl : List Int), rdF (dcs l ++ tl) pt ds bh = rdF tl pt (ds ++ dgs l) (if pt then bh + l.length else bh)
  | [], ds, bh, tl => by cases pt <;> simp [dcs, dgs]
  | x :: l, ds, bh, tl => by
    show rdF (hexc (in16 x) :: (dcs l ++ tl)) pt ds bh = _
    rw [rdF, hexD_in, if_pos (by omega), rdF_dcs pt l]
    have e : ds ++ [((in16 x : Nat) : Int)] ++ dgs l = ds ++ dgs (x :: l) := by rw [List.append_assoc]; rfl
    rw [e]
    cases pt
    · rfl
    · simp only [if_true, List.length_cons]
      congr 1; omega
theorem rdF_zeros (pt : Bool) : ∀ (n : Nat) (ds : List Int) (bh : Nat) (tl : List Int), rdF (List.replicate n 48 ++ tl) pt ds bh = rdF tl pt (ds ++ List.replicate n 0) (if pt then bh + n else bh)
  | 0, ds, bh, tl => by cases pt <;> simp
  | n + 1, ds, bh, tl => by
    show rdF (48 :: (List.replicate n 48 ++ tl)) pt ds bh = _
    rw [rdF, show hexD 48 = 0 by decide, if_pos (by omega), rdF_zeros pt n]
    have e : ds ++ [(0 : Int)] ++ List.replicate n 0 = ds ++ List.replicate (n + 1) 0 := by rw [List.append_assoc]; rfl
    rw [e]
    cases pt
    · rfl
    · simp only [if_true]
      congr 1; omega
theorem rdF_p {c : Int} (h : c = 112 ∨ c = 80) (tl : List Int) (pt : Bool) (ds : List Int) (bh : Nat) : rdF (c :: tl) pt ds bh = some (ds, bh, some tl) := by
  have h1 : hexD c < 0 ∧ c ≠ 46 := by rcases h with rfl | rfl <;> decide
  rw [rdF, if_neg (by omega), if_neg (fun g => h1.2 g.1), if_pos h]
theorem rdF_dot (tl ds : List Int) (bh : Nat) : rdF (46 :: tl) false ds bh = rdF tl true ds bh := by
  rw [rdF, show hexD 46 = -1 by decide, if_neg (by decide), if_pos ⟨rfl, rfl⟩]
/-- Behind 0x. -/
theorem sd_0x {c : Int} (hc : c = 120 ∨ c = 88) {l d : List Int} {b : Nat} {q : Int} {cap : Nat} (hq : q.natAbs ≤ cap) (hr : rdF l false [] 0 = some (d, b, some (numT q))) (hd : d ≠ []) : sdF cap (48 :: c :: l) = .num d b q := by
  unfold sdF
  have w1 : isW (48 :: c :: l) nanL = false := by unfold nanL; rw [isW]; rfl
  have w2 : isW (48 :: c :: l) infL = false := by unfold infL; rw [isW]; rfl
  have w3 : pre0x (48 :: c :: l) = true := by
    unfold pre0x
    rw [decide_eq_true (by simp)]
    rcases hc with rfl | rfl <;> rfl
  rw [w1, w2, w3]
  simp only [Bool.false_eq_true, if_false, if_true]
  rw [show (48 :: c :: l).drop 2 = l from rfl]
  unfold readF
  rw [hr]
  simp only
  rw [expF_numT hq]
  simp only
  rw [if_neg hd]

/-! ### The answer -/
theorem finR_up (W P : Nat) (em m : Int) (neg : Bool) (N t : Nat) (E : Int) : finR W P em m neg (N * 2 ^ t) E = finR W P em m neg N (E + (t : Int)) := by
  unfold finR
  have hp := Nat.two_pow_pos t
  by_cases c : N = 0
  · rw [c, Nat.zero_mul, if_pos rfl, if_pos rfl]
  · rw [if_neg c, if_neg (fun z => (Nat.mul_eq_zero.1 z).elim c (by omega))]
    exact (rnOut_cross W P m neg (qB_pos _ _ _) (qB_pos _ _ _) (r_shift (A := N) (B := 1) (A' := N * 2 ^ t) (B' := 1) (e := E + (t : Int)) (e' := E) (em - (P : Int) + 1) t rfl (by rw [Nat.mul_one]))).symm
theorem hexN_zeros (n : Nat) : hexN (List.replicate n 0) = 0 := by
  induction n with
  | zero => rfl
  | succ n ih => rw [List.replicate_succ', hexN_snoc, ih]; rfl
theorem hexN_pads (a b : Nat) (l : List Int) : hexN (List.replicate a 0 ++ (l ++ List.replicate b 0)) = hexN l * 2 ^ (4 * b) := by
  rw [hexN_append, hexN_zeros, hexN_append, hexN_zeros, Nat.zero_mul, Nat.zero_add, Nat.add_zero, List.length_replicate, Nat.pow_mul]
end Go.Proofs.YtmoeaeflljpboaaDoor.X
