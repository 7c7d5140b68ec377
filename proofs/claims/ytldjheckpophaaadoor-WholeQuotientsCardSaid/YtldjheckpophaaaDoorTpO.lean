/- Plain law: verniertop's own question whether a float is the rounding of an amount answers true for what the rounding answers. Conditions: the format is one of the four, the mode one of the six; the amount is not zero. -/
import Derived.Test.YtldjheckpophaaaDoorTpN
namespace Go.Proofs.YtldjheckpophaaaDoor.X
open Go Go.Rex
set_option linter.unusedVariables false

/-- Sizes: of values, and of products. -/
def xB : Nat := 2300
def xC : Nat := 6000
theorem xB_is : xB = 2300 := rfl
theorem xC_is : xC = 6000 := rfl
/-- An amount that lies to V units of 2^L as A lies to V * B. -/
def AtT (L c : Int) (b1 : Bool) (l1 : List Int) (e1 : Int) (b2 : Bool) (l2 : List Int) (e2 : Int) (A B : Nat) : Prop :=
  ∀ (s : Bool) (l : List Int) (e V : Int), RepT L s l e V → e ≤ L + 5000 → V.natAbs < 2 ^ xB → Ev (fun k => verniertop_at k c b1 l1 e1 b2 l2 e2 s l e) (sgn ((A : Int) - V * (B : Int)))
theorem natAbs_mul_lt {V : Int} {p d x : Nat} (h : V.natAbs < 2 ^ p) (hx : x ≤ 2 ^ d) : (V * (x : Int)).natAbs < 2 ^ (p + d) := by
  rw [Int.natAbs_mul, Int.natAbs_natCast, Nat.pow_add]
  have hp := Nat.two_pow_pos d
  calc V.natAbs * x ≤ V.natAbs * 2 ^ d := Nat.mul_le_mul_left _ hx
    _ < 2 ^ p * 2 ^ d := Nat.mul_lt_mul_of_pos_right h hp
/-- An exact number. -/
theorem at_exact {L B0 : Int} {d A : Nat} (hd : L - (d : Int) = B0) (hd2 : d ≤ 3000) (hB : -5000 ≤ B0 ∧ B0 ≤ 5000) {l : List Int} {e : Int} (h : RepT B0 false l e (A : Int)) (hA : A < 2 ^ xC) (b2 : Bool) (l2 : List Int) (e2 : Int) : AtT L 0 false l e b2 l2 e2 A (2 ^ d) := by
  intro s l' e' V hV he hv
  have hV' := hV.base d (by omega)
  rw [hd] at hV'
  have hb : (V * ((2 ^ d : Nat) : Int)).natAbs < 2 ^ xC := Nat.lt_of_lt_of_le (natAbs_mul_lt hv (Nat.le_refl _)) (Nat.pow_le_pow_right (by decide) (by rw [xC_is, xB_is]; omega))
  have g := versusT hB h hV' (p := xC) (by rw [xC_is]; omega) (by rw [Int.natAbs_natCast]; exact hA) hb
  refine Ev.congr (fun k => verniertop_at_eq k _ _ _ _ _ _ _ _ _ _) (Ev.neg (by decide) (Ev.neg (by decide) (Ev.neg (by decide) (Ev.bind g (Ev.some _)))))
/-- A quotient. -/
theorem at_ratio {L B1 : Int} {d X Y : Nat} (hd : L = -(d : Int)) (hd2 : d ≤ 3000) (hB : -2000 ≤ B1 ∧ B1 ≤ 2000) {l m : List Int} {e f : Int} (h : RepT B1 false l e (X : Int)) (h' : RepT B1 false m f (Y : Int)) (hX : X < 2 ^ xB) (hY : Y < 2 ^ xB) (he1 : e ≤ B1 + 5000) (hf1 : f ≤ B1 + 5000) : AtT L 1 false l e false m f (X * 2 ^ d) Y := by
  intro s l' e' V hV he hv
  obtain ⟨l1, r1, r2⟩ := prodT hV h' (by omega) (by omega) (by omega) (p := xB) (by rw [xB_is]; omega) hv (by rw [Int.natAbs_natCast]; exact hY)
  have hx := h.base d (by omega)
  rw [show B1 - (d : Int) = L + B1 by omega] at hx
  have b1 : ((X : Int) * ((2 ^ d : Nat) : Int)).natAbs < 2 ^ xC := Nat.lt_of_lt_of_le (natAbs_mul_lt (p := xB) (by rw [Int.natAbs_natCast]; exact hX) (Nat.le_refl _)) (Nat.pow_le_pow_right (by decide) (by rw [xC_is, xB_is]; omega))
  have b2 : (V * (Y : Int)).natAbs < 2 ^ xC := Nat.lt_of_lt_of_le (natAbs_mul_lt (p := xB) (d := xB) hv (by omega)) (Nat.pow_le_pow_right (by decide) (by rw [xC_is, xB_is]; omega))
  have g := versusT (by omega) hx r2 (p := xC) (by rw [xC_is]; omega) b1 b2
  refine Ev.congr (fun k => verniertop_at_eq k _ _ _ _ _ _ _ _ _ _) (Ev.pos (by decide) (Ev.bind r1 (Ev.bind g (Ev.eq (Ev.some _) ?_))))
  rw [Int.natCast_mul]
theorem RepT.half {L : Int} {s : Bool} {l : List Int} {e v : Int} (h : RepT (L + 2) s l e v) (he : e ≤ L + 15000) : RepT L s l (e - 1) (v * 2) := by
  obtain ⟨n, h1, h2, h3, h4⟩ := h
  refine ⟨n, h1, by omega, by omega, ?_⟩
  rw [← h4, show (e - 1 - L).toNat = (e - (L + 2)).toNat + 1 by omega, Nat.pow_succ, ← Nat.mul_assoc]
  generalize n * 2 ^ (e - (L + 2)).toNat = z
  unfold sg; cases s <;> simp [Int.neg_mul]
theorem tsgn_le {x : Int} : sgn x ≤ 0 ↔ x ≤ 0 := by unfold sgn; split <;> (try split) <;> omega
theorem tsgn_ge {x : Int} : 0 ≤ sgn x ↔ 0 ≤ x := by unfold sgn; split <;> (try split) <;> omega
theorem d_le {x : Int} (h : x ≤ 0) : ¬ (decide (x > 0) = true) := by simpa using h
/-- How an amount lies to the middle of two neighbours. -/
theorem lft_mid {r d : Nat} (hr : r ≠ 0) : (lft r d = 1 ∧ 2 * r < d) ∨ (lft r d = 2 ∧ 2 * r = d) ∨ (lft r d = 3 ∧ d < 2 * r) := by
  unfold lft
  rw [if_neg hr]
  by_cases c1 : 2 * r < d
  · rw [if_pos c1]; exact .inl ⟨rfl, c1⟩
  · rw [if_neg c1]
    by_cases c2 : 2 * r = d
    · rw [if_pos c2]; exact .inr (.inl ⟨rfl, c2⟩)
    · rw [if_neg c2]; exact .inr (.inr ⟨rfl, by omega⟩)

section
variable {f : Int} {W P : Nat} {em ex : Int} (h : Fm f W P em ex)
include h
/-- Tininess, by what is left. -/
theorem tiny_cut {A B : Nat} (hB : 0 < B) (hA : A < 2 ^ (P + 1) * B) {m : Int} (hm : Md m) : (cutN m false (2 * A) (4 * B) < 2 ^ P) ↔ (if m = 2 ∨ m = 4 ∨ m = 5 then True else if m = 3 then A ≤ (2 ^ (P + 1) - 2) * B else A < (2 ^ (P + 1) - 1) * B) := by
  have h8 := h.p8
  have hP : 2 ^ (P + 1) = 2 * 2 ^ P := by rw [Nat.pow_succ, Nat.mul_comm]
  have hP2 := pow_half (P := P) (by omega)
  have hPp := Nat.two_pow_pos (P - 1)
  have hd := Nat.div_add_mod (2 * A) (4 * B)
  have hl := Nat.mod_lt (2 * A) (show 0 < 4 * B by omega)
  have hq : 2 * A / (4 * B) < 2 ^ P := by
    have e : 4 * B * 2 ^ P = 2 * (2 * 2 ^ P * B) := by grind
    rw [hP] at hA
    exact Nat.div_lt_of_lt_mul (by omega)
  rw [hP] at *
  unfold cutN
  generalize hQ : 2 * A / (4 * B) = q at *
  generalize hR : 2 * A % (4 * B) = r at *
  generalize hT : 2 ^ P = T at *
  have e1 : (2 * T - 2) * B = 2 * T * B - 2 * B := Nat.sub_mul _ _ _
  have e2 : (2 * T - 1) * B = 2 * T * B - B := by rw [Nat.sub_mul, Nat.one_mul]
  -- the number of places by B
  have eq : 4 * B * q + 4 * B * (T - q) = 4 * B * T := by rw [← Nat.mul_add]; congr 1; omega
  have e4 : 4 * B * T = 2 * (2 * T * B) := by grind
  have hm0 := hm.1; have hm5 := hm.2
  have up : ∀ u : Bool, ups m false (q % 2 == 1) (lft r (4 * B)) = u → ((chs m false q (lft r (4 * B)) < T) ↔ ¬ (r ≠ 0 ∧ u = true ∧ q + 1 = T)) := fun u hu => by
    unfold chs
    rw [hu]
    have z : 0 < lft r (4 * B) ↔ r ≠ 0 := by have := lft_zero (r := r) (d := 4 * B); omega
    by_cases c : 0 < lft r (4 * B) ∧ u = true
    · rw [if_pos c]
      have := z.1 c.1
      have := c.2
      constructor
      · intro g ⟨_, _, g2⟩; omega
      · intro g
        have : q + 1 ≠ T := fun e => g ⟨by assumption, by assumption, e⟩
        omega
    · rw [if_neg c]
      constructor
      · intro g ⟨g0, g1, g2⟩; exact c ⟨z.2 g0, g1⟩
      · intro _; exact hq
  rw [up _ rfl]
  have hodd : q + 1 = T → q % 2 = 1 := by intro e; omega
  have htop : q + 1 = T → 4 * B * (T - q) = 4 * B := by intro e; rw [show T - q = 1 by omega, Nat.mul_one]
  have hnt : q + 1 ≠ T → 2 * (4 * B) ≤ 4 * B * (T - q) := by
    intro e
    have : 4 * B * 2 ≤ 4 * B * (T - q) := Nat.mul_le_mul_left _ (by omega)
    omega
  have hm' : m = 0 ∨ m = 1 ∨ m = 2 ∨ m = 3 ∨ m = 4 ∨ m = 5 := by omega
  rcases hm' with rfl | rfl | rfl | rfl | rfl | rfl
  · rw [if_neg (by decide), if_neg (by decide)]
    by_cases c : q + 1 = T
    · have ho := hodd c
      have ht := htop c
      have : (¬ (r ≠ 0 ∧ ups 0 false (q % 2 == 1) (lft r (4 * B)) = true ∧ q + 1 = T)) ↔ 2 * r < 4 * B := by
        unfold ups
        rw [if_pos rfl, ho]
        by_cases c0 : r = 0
        · simp [c0]; omega
        · rcases lft_mid (d := 4 * B) c0 with ⟨a, b⟩ | ⟨a, b⟩ | ⟨a, b⟩ <;> rw [a] <;> simp [c0, c] <;> omega
      rw [this]
      omega
    · have := hnt c
      constructor
      · intro _; omega
      · intro _ ⟨_, _, g⟩; exact c g
  · rw [if_neg (by decide), if_neg (by decide)]
    by_cases c : q + 1 = T
    · have ht := htop c
      have : (¬ (r ≠ 0 ∧ ups 1 false (q % 2 == 1) (lft r (4 * B)) = true ∧ q + 1 = T)) ↔ 2 * r < 4 * B := by
        unfold ups
        rw [if_neg (by decide), if_pos rfl]
        by_cases c0 : r = 0
        · simp [c0]; omega
        · rcases lft_mid (d := 4 * B) c0 with ⟨a, b⟩ | ⟨a, b⟩ | ⟨a, b⟩ <;> rw [a] <;> simp [c0, c] <;> omega
      rw [this]
      omega
    · have := hnt c
      constructor
      · intro _; omega
      · intro _ ⟨_, _, g⟩; exact c g
  · rw [if_pos (by decide)]
    exact iff_of_true (fun ⟨_, g, _⟩ => by simp [ups] at g) trivial
  · rw [if_neg (by decide), if_pos rfl]
    by_cases c : q + 1 = T
    · have ht := htop c
      have : (¬ (r ≠ 0 ∧ ups 3 false (q % 2 == 1) (lft r (4 * B)) = true ∧ q + 1 = T)) ↔ r = 0 := by
        simp [ups, c]
      rw [this]
      omega
    · have := hnt c
      constructor
      · intro _; omega
      · intro _ ⟨_, _, g⟩; exact c g
  · rw [if_pos (by decide)]
    exact iff_of_true (fun ⟨_, g, _⟩ => by simp [ups] at g) trivial
  · rw [if_pos (by decide)]
    exact iff_of_true (fun ⟨_, g, g2⟩ => by simp [ups, hodd g2] at g) trivial
variable {L c : Int} {b1 : Bool} {l1 : List Int} {e1 : Int} {b2 : Bool} {l2 : List Int} {e2 : Int} {A B : Nat} (hat : AtT L c b1 l1 e1 b2 l2 e2 A B) (hL : L = em - (P : Int) - 1) (hB : 0 < B)
include hat hL hB
theorem tinyT {m : Int} (hm : Md m) : Ev (fun k => verniertop_tiny k (P : Int) em m c b1 l1 e1 b2 l2 e2) (tinyB P m false A (4 * B)) := by
  have h8 := h.p8; have h53 := h.p53; have m0 := h.m0; have m1 := h.m1
  have hP : 2 ^ (P + 1) = 2 * 2 ^ P := by rw [Nat.pow_succ, Nat.mul_comm]
  have hPp := Nat.two_pow_pos P
  have hP2 := pow_half (P := P) (by omega)
  have small : ∀ x : Nat, x ≤ 2 ^ (P + 1) → x < 2 ^ xB := fun x hx => Nat.lt_of_le_of_lt hx (Nat.pow_lt_pow_right (by decide) (by rw [xB_is]; omega))
  have r1 : RepT L false (d32 1) em ((2 ^ (P + 1) : Nat) : Int) := RepT.pow (by omega) (by omega)
  have r2 : RepT L false (d32 1) (em - (P : Int)) ((2 ^ 1 : Nat) : Int) := RepT.pow (by omega) (by omega)
  have r3 : RepT L false (d32 1) (em - (P : Int) - 1) ((2 ^ 0 : Nat) : Int) := RepT.pow (by omega) (by omega)
  have a1 := hat _ _ _ _ r1 (by omega) (by rw [Int.natAbs_natCast]; exact small _ (Nat.le_refl _))
  have small2 : ((2 ^ (P + 1) : Nat) : Int).natAbs < 2 ^ xB := by rw [Int.natAbs_natCast]; exact small _ (Nat.le_refl _)
  obtain ⟨s2, l2', g2, q2, f2, v2⟩ := sumB (by omega) r1 r2.neg (p := xB) (by rw [xB_is]; omega) small2 (by rw [Int.natAbs_neg, Int.natAbs_natCast]; exact small _ (by omega))
  obtain ⟨s3, l3', g3, q3, f3, v3⟩ := sumB (by omega) r1 r3.neg (p := xB) (by rw [xB_is]; omega) small2 (by rw [Int.natAbs_neg, Int.natAbs_natCast]; exact small _ (by omega))
  have x2 : ((2 ^ (P + 1) : Nat) : Int) + -((2 ^ 1 : Nat) : Int) = ((2 ^ (P + 1) - 2 : Nat) : Int) := by omega
  have x3 : ((2 ^ (P + 1) : Nat) : Int) + -((2 ^ 0 : Nat) : Int) = ((2 ^ (P + 1) - 1 : Nat) : Int) := by omega
  rw [x2] at v2
  rw [x3] at v3
  have a2 := hat _ _ _ _ v2 (by omega) (by rw [Int.natAbs_natCast]; exact small _ (by omega))
  have a3 := hat _ _ _ _ v3 (by omega) (by rw [Int.natAbs_natCast]; exact small _ (by omega))
  rw [← Int.natCast_mul] at a1 a2 a3
  have iP : IntKind.i64.wrap (em - (P : Int)) = em - (P : Int) := wrapI (by omega) (by omega)
  have iP1 : IntKind.i64.wrap (em - (P : Int) - 1) = em - (P : Int) - 1 := wrapI (by omega) (by omega)
  have eA : A < 4 * B * 2 ^ (P - 1) ↔ A < 2 ^ (P + 1) * B := by rw [hP, hP2]; rw [show 4 * B * 2 ^ (P - 1) = 2 * (2 * 2 ^ (P - 1)) * B by grind]
  refine Ev.congr (fun k => verniertop_tiny_eq k _ _ _ _ _ _ _ _ _ _) (Ev.bind (powT _) (Ev.bind a1 ?_))
  unfold tinyB
  by_cases cA : A < 2 ^ (P + 1) * B
  · rw [decide_eq_true (eA.2 cA), Bool.true_and]
    have tc := tiny_cut h hB cA hm
    refine Ev.neg (dF (by rw [ge_iff_le, tsgn_ge]; omega)) (Ev.bind (powT _) ?_)
    rw [iP]
    refine Ev.bind (powT _) (Ev.bind (Ev.of fun k => oppT k _ _ _) (Ev.bind q2 ?_))
    have half : Ev (fun k => verniertop_tiny.j0 k (P : Int) em c b1 l1 e1 b2 l2 e2) (decide (A < (2 ^ (P + 1) - 1) * B)) := by
      refine Ev.congr (fun k => verniertop_tiny.j0_eq k _ _ _ _ _ _ _ _ _) (Ev.bind (powT _) ?_)
      rw [iP, iP1]
      refine Ev.bind (powT _) (Ev.bind (Ev.of fun k => oppT k _ _ _) (Ev.bind q3 (Ev.bind a3 (Ev.eq (Ev.some _) ?_))))
      rw [tsgn_neg]
      congr 1
      exact propext ⟨fun g => by omega, fun g => by omega⟩
    have hm0 := hm.1; have hm5 := hm.2
    have hm' : m = 0 ∨ m = 1 ∨ m = 2 ∨ m = 3 ∨ m = 4 ∨ m = 5 := by omega
    rcases hm' with rfl | rfl | rfl | rfl | rfl | rfl
    · rw [if_neg (by decide), if_neg (by decide)] at tc
      refine Ev.neg (by decide) (Ev.neg (by decide) (Ev.neg (by decide) (Ev.neg (by decide) (Ev.eq half ?_))))
      rw [decide_eq_decide]; exact tc.symm
    · rw [if_neg (by decide), if_neg (by decide)] at tc
      refine Ev.neg (by decide) (Ev.neg (by decide) (Ev.neg (by decide) (Ev.neg (by decide) (Ev.eq half ?_))))
      rw [decide_eq_decide]; exact tc.symm
    · rw [if_pos (by decide)] at tc
      refine Ev.pos (by decide) (Ev.pos (by decide) (Ev.eq (Ev.some _) ?_))
      exact (decide_eq_true (tc.2 trivial)).symm
    · rw [if_neg (by decide), if_pos rfl] at tc
      refine Ev.neg (by decide) (Ev.neg (by decide) (Ev.neg (by decide) (Ev.pos (by decide) (Ev.bind a2 (Ev.eq (Ev.some _) ?_)))))
      rw [decide_eq_decide, tsgn_le, tc]
      constructor <;> intro g <;> omega
    · rw [if_pos (by decide)] at tc
      refine Ev.neg (by decide) (Ev.pos (by decide) (Ev.pos (by decide) (Ev.eq (Ev.some _) ?_)))
      exact (decide_eq_true (tc.2 trivial)).symm
    · rw [if_pos (by decide)] at tc
      refine Ev.neg (by decide) (Ev.neg (by decide) (Ev.pos (by decide) (Ev.eq (Ev.some _) ?_)))
      exact (decide_eq_true (tc.2 trivial)).symm
  · rw [decide_eq_false (fun g => cA (eA.1 g)), Bool.false_and]
    exact Ev.pos (dT (by rw [ge_iff_le, tsgn_ge]; omega)) (Ev.some _)
end
end Go.Proofs.YtldjheckpophaaaDoor.X
