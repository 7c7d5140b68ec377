/- Plain law: WholeOrders answers true. Conditions: what the reading says of the list. -/
import Derived.Test.YtoeedodjldlalaaX
import Derived.Test.YtoeedodjldlalaaR2
namespace Go.Proofs.Ytoeedodjldlalaa.X
open Go Go.Rex
set_option linter.unusedVariables false

theorem dT {p : Prop} [Decidable p] (h : p) : decide p = true := decide_eq_true h
theorem dF {p : Prop} [Decidable p] (h : ¬ p) : ¬ (decide p = true) := fun e => h (of_decide_eq_true e)
theorem bT {x y : Int} (h : x = y) : (x == y) = true := by rw [h]; exact beq_self_eq_true y
theorem bF {x y : Int} (h : x ≠ y) : ¬ ((x == y) = true) := fun e => h (eq_of_beq e)
theorem nT {x y : Int} (h : x ≠ y) : (x != y) = true := by simpa using h
theorem nF {x y : Int} (h : x = y) : ¬ ((x != y) = true) := by simpa using h
theorem succ_i (n : Nat) (h : n < 9223372036854775807) : IntKind.i64.wrap ((n : Int) + 1) = ((n + 1 : Nat) : Int) := by rw [wrapI] <;> omega

/-! ### floats -/
theorem of_ev (x : Int) : Ev (fun k => math_Float64frombits k x) (fOf x) := Ev.of fun _ => rfl
theorem bits_ev {x : Int} (h : 0 ≤ x) : Ev (fun k => math_Float64bits k x) x := Ev.of fun _ => if_pos h
theorem fCmp_self {x : Int} (h : ¬ fCmp .neq .f64 x x = true) : 0 ≤ x := by
  by_cases h0 : 0 ≤ x
  · exact h0
  · refine absurd ?_ h
    have : fOrd .f64 x x = none := by unfold fOrd; rw [if_neg (by omega)]
    simp [fCmp, this]
/-- A Double's bits, the canonical NaN for every NaN. -/
def toldV (x : Int) : Int := if fCmp .neq .f64 x x then 9221120237041090560 else x
theorem told_ev (x : Int) : Ev (fun k => verniertop_told k x) (toldV x) := by
  refine Ev.congr (fun k => verniertop_told_eq k x) ?_
  unfold toldV
  by_cases h : fCmp .neq .f64 x x = true
  · rw [if_pos h]; exact Ev.pos h (Ev.some _)
  · rw [if_neg h]; exact Ev.neg h (Ev.bind (bits_ev (fCmp_self h)) (Ev.some _))
theorem told2_ev (x : Int) : Ev (fun k => sums_told k x) (toldV x) := by
  refine Ev.congr (fun k => sums_told_eq k x) ?_
  unfold toldV
  by_cases h : fCmp .neq .f64 x x = true
  · rw [if_pos h]; exact Ev.pos h (Ev.some _)
  · rw [if_neg h]; exact Ev.neg h (Ev.bind (bits_ev (fCmp_self h)) (Ev.some _))

/-! ### the program's sum -/
theorem floats_l0 (a : List Int) (ha : a.length ≤ 65536) : ∀ (n i : Nat) (p : List Int), i + n = a.length → p.length = n →
    Ev2 (fun k m => sums_floats.l0 k m a (a.length : Int) (i : Int) ((a.take i).map fOf ++ p)) (a.map fOf, 0)
  | 0, i, p, hi, hp => by
    obtain rfl := List.length_eq_zero_iff.1 hp
    refine Ev2.step (fun k m => sums_floats.l0_eq k m _ _ _ _) (Ev2.neg (dF (by omega)) (Ev2.eq (Ev2.some _) ?_))
    rw [List.take_of_length_le (by omega), List.append_nil]
  | n + 1, i, p, hi, hp => by
    cases p with
    | nil => simp at hp
    | cons y p =>
      refine Ev2.step (fun k m => sums_floats.l0_eq k m _ _ _ _) (Ev2.pos (dT (by omega)) (Ev2.pos ⟨by omega, by omega⟩ ?_))
      rw [Int.toNat_natCast, succ_i i (by omega)]
      refine Ev2.call (of_ev _) (Ev2.pos ⟨by omega, by simp at hp ⊢; omega⟩ ?_)
      have h1 := floats_l0 a ha n (i + 1) p (by omega) (by simpa using hp)
      have h2 : ((a.take i).map fOf ++ y :: p).set i (fOf (a.getD i 0)) = (a.take (i + 1)).map fOf ++ p := by
        have hl : i = ((a.take i).map fOf).length := by simp; omega
        rw [List.set_append_right _ _ (by omega), show i - ((a.take i).map fOf).length = 0 by omega, List.take_add_one, List.getD_eq_getElem?_getD, List.getElem?_eq_getElem (show i < a.length by omega)]
        simp only [List.set_cons_zero, Option.getD_some, Option.toList_some, List.map_append, List.map_cons, List.map_nil, List.append_assoc, List.singleton_append]
      rw [h2]
      exact h1
theorem floats_ev {a : List Int} (ha : a.length ≤ 65536) : Ev (fun k => sums_floats k a) (a.map fOf, 0) := by
  refine Ev.congr (fun k => sums_floats_eq k a) (Ev.neg (dF (by omega)) (Ev.pos ⟨by omega, by omega⟩ ?_))
  have := (floats_l0 a ha a.length 0 (List.replicate a.length 0) (by omega) (by simp)).ev
  simpa using this

theorem naive_l0 (x0 : Int) (a : List Int) (ha : a.length ≤ 65536) : ∀ (n i : Nat) (s : Int), i + n = a.length →
    Ev2 (fun k m => sums_Naive.l0 k m s (a.length : Int) (i : Int) a) (toldV ((a.drop i).foldl (fArith .add .f64) s), 0)
  | 0, i, s, hi => by
    refine Ev2.step (fun k m => sums_Naive.l0_eq k m _ _ _ _) (Ev2.neg (dF (by omega)) (Ev2.call (told2_ev _) (Ev2.eq (Ev2.some _) ?_)))
    rw [List.drop_of_length_le (by omega)]; rfl
  | n + 1, i, s, hi => by
    refine Ev2.step (fun k m => sums_Naive.l0_eq k m _ _ _ _) (Ev2.pos (dT (by omega)) (Ev2.pos ⟨by omega, by omega⟩ ?_))
    rw [Int.toNat_natCast, succ_i i (by omega)]
    have h1 := naive_l0 x0 a ha n (i + 1) (fArith .add .f64 s (a.getD i 0)) (by omega)
    rw [List.drop_eq_getElem_cons (show i < a.length by omega), List.foldl_cons]
    rw [List.getD_eq_getElem?_getD, List.getElem?_eq_getElem (show i < a.length by omega)] at h1 ⊢
    exact h1
/-- The sum in the order of the list. -/
def sumV : List Int → Int
  | [] => 0
  | x :: r => toldV ((r.map fOf).foldl (fArith .add .f64) (fOf x))
theorem naive_ev {a : List Int} (ha : a.length ≤ 65536) : Ev (fun k => sums_Naive k a) (sumV a, 0) := by
  refine Ev.congr (fun k => sums_Naive_eq k a) (Ev.bind (floats_ev ha) (Ev.neg (nF rfl) ?_))
  cases a with
  | nil => exact Ev.pos (bT rfl) (Ev.some _)
  | cons x r =>
    refine Ev.neg (bF (by simp; omega)) (Ev.pos ⟨by omega, by simp⟩ (Ev.pos ⟨by omega, by simp; omega⟩ ?_))
    have := (naive_l0 0 (r.map fOf) (by simp at ha ⊢; omega) (r.map fOf).length 0 (fOf x) (by omega)).ev
    simpa [sumV] using this

/-! ### the law -/
/-- What is so far. -/
def soFar (a : List Int) (i : Nat) : Int :=
  match a.take i with
  | [] => 0
  | x :: r => (r.map fOf).foldl (fArith .add .f64) (fOf x)
theorem soFar_succ {a : List Int} {i : Nat} (hi : i < a.length) (h0 : i ≠ 0) : soFar a (i + 1) = fArith .add .f64 (soFar a i) (fOf (a.getD i 0)) := by
  unfold soFar
  cases a with
  | nil => simp at hi
  | cons x r =>
    cases i with
    | zero => exact absurd rfl h0
    | succ i =>
      have hr : i < r.length := by simpa using hi
      simp only [List.take_succ_cons]
      rw [List.take_add_one]
      simp only [List.getElem?_eq_getElem hr, Option.toList_some, List.map_append, List.map_cons, List.map_nil, List.foldl_append, List.foldl_cons, List.foldl_nil, List.getD_eq_getElem?_getD, List.getElem?_cons_succ, Option.getD_some]
theorem soFar_one {a : List Int} (hi : 0 < a.length) : soFar a 1 = fOf (a.getD 0 0) := by
  cases a with
  | nil => simp at hi
  | cons x r => simp [soFar]
theorem soFar_all {a : List Int} (hi : 0 < a.length) : toldV (soFar a a.length) = sumV a := by
  unfold soFar sumV
  rw [List.take_length]
  cases a with
  | nil => simp at hi
  | cons x r => rfl
theorem law_l1 (a : List Int) (ha : a.length ≤ 65536) : ∀ (n i : Nat), i + n = a.length →
    Ev2 (fun k m => verniertop_WholeOrders.l1 k m a (soFar a i) a (a.length : Int) (i : Int)) true
  | 0, i, hi => by
    refine Ev2.step (fun k m => verniertop_WholeOrders.l1_eq k m _ _ _ _ _) (Ev2.neg (dF (by omega)) (Ev2.call (naive_ev ha) (Ev2.pos (bT rfl) (Ev2.call (told_ev _) (Ev2.eq (Ev2.some _) ?_)))))
    refine bT ?_
    obtain rfl : i = a.length := by omega
    cases a with
    | nil => decide +kernel
    | cons x r => exact (soFar_all (a := x :: r) (by simp)).symm
  | n + 1, i, hi => by
    have h1 := law_l1 a ha n (i + 1) (by omega)
    refine Ev2.step (fun k m => verniertop_WholeOrders.l1_eq k m _ _ _ _ _) (Ev2.pos (dT (by omega)) (Ev2.pos ⟨by omega, by omega⟩ ?_))
    rw [Int.toNat_natCast, succ_i i (by omega)]
    by_cases h0 : i = 0
    · subst h0
      rw [soFar_one (by omega)] at h1
      exact Ev2.pos (bT rfl) (Ev2.call (of_ev _) h1)
    · rw [soFar_succ (by omega) h0] at h1
      exact Ev2.neg (bF (by omega)) (Ev2.call (of_ev _) h1)

theorem first_at (m : Nat) : sums_Naive (m + 40) [4845873199050653696, 4607182418800017408, 4607182418800017408] = some (4845873199050653696, 0) := by kernel_rfl

namespace Pure
/-- For all lists: true. -/
theorem WholeOrders (a : List Int) (wa : WFt (.sl (.int .u64)) a) : Ev (fun k => verniertop_WholeOrders k a) true := by
  refine Ev.congr (fun k => verniertop_WholeOrders_eq k a) (Ev.bind (a := (4845873199050653696, 0)) ⟨40, fun k hk => ?_⟩ (Ev.neg (nF rfl) (Ev.neg (nF rfl) ?_)))
  · obtain ⟨m, rfl⟩ := Nat.exists_eq_add_of_le hk
    rw [Nat.add_comm]
    exact first_at m
  · refine Ev.congr (fun k => verniertop_WholeOrders.j0_eq k a) ?_
    by_cases h : a.length ≤ 65536
    · exact Ev.neg (dF (by omega)) (law_l1 a h a.length 0 (by omega)).ev
    · exact Ev.pos (dT (by omega)) (Ev.some _)
end Pure
end Go.Proofs.Ytoeedodjldlalaa.X
