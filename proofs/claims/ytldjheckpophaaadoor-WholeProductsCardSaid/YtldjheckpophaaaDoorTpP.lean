/- Plain law: verniertop's question whether a float is the rounding of an amount, whole. Conditions: the format is one of the four, the mode one of the six; the amount is not zero. -/
import Derived.Test.YtldjheckpophaaaDoorTpO
namespace Go.Proofs.YtldjheckpophaaaDoor.X
open Go Go.Rex
set_option linter.unusedVariables false

def xA : Nat := 2290
def xZ : Nat := 2200
theorem xA_is : xA = 2290 := rfl
theorem xZ_is : xZ = 2200 := rfl
theorem xA_eq : xA = xZ + 90 := rfl
theorem xB_eq : xB = xA + 10 := rfl
/-! One equation is left out of the printed text (it runs without end where the next join stands on its right side): told by cases, with the results. -/
theorem rounded_j8_t (x0 : Int) (k : Nat) (x1 : Int) (x2 : Int) (x3 : Int) (x4 : Int) (x5 : Int) (x6 : Int) (x7 : Int) (x9 : Int) (b10 : Bool) (l11 : (List Int)) (x12 : Int) (b13 : Bool) (l14 : (List Int)) (x15 : Int) : verniertop_rounded.j8 k x0 x1 x2 x3 x4 x5 x6 x7 true x9 b10 l11 x12 b13 l14 x15 = verniertop_rounded.j7 k x0 x1 x2 x3 x4 x5 x7 true x9 b10 l11 x12 b13 l14 x15 := by kernel_rfl
theorem rounded_j8_2 (k : Nat) (x1 : Int) (x2 : Int) (x3 : Int) (x4 : Int) (x5 : Int) (x6 : Int) (x7 : Int) (x9 : Int) (b10 : Bool) (l11 : (List Int)) (x12 : Int) (b13 : Bool) (l14 : (List Int)) (x15 : Int) : verniertop_rounded.j8 k 2 x1 x2 x3 x4 x5 x6 x7 false x9 b10 l11 x12 b13 l14 x15 = verniertop_rounded.j7 k 2 x1 x2 x3 x4 x5 x7 false x9 b10 l11 x12 b13 l14 x15 := by kernel_rfl
theorem rounded_j8_4 (k : Nat) (x1 : Int) (x2 : Int) (x3 : Int) (x4 : Int) (x5 : Int) (x6 : Int) (x7 : Int) (x9 : Int) (b10 : Bool) (l11 : (List Int)) (x12 : Int) (b13 : Bool) (l14 : (List Int)) (x15 : Int) : verniertop_rounded.j8 k 4 x1 x2 x3 x4 x5 x6 x7 false x9 b10 l11 x12 b13 l14 x15 = verniertop_rounded.j7 k 4 x1 x2 x3 x4 x5 x7 false x9 b10 l11 x12 b13 l14 x15 := by kernel_rfl
theorem rounded_j8_5 (k : Nat) (x1 : Int) (x2 : Int) (x3 : Int) (x4 : Int) (x5 : Int) (x6 : Int) (x7 : Int) (x9 : Int) (b10 : Bool) (l11 : (List Int)) (x12 : Int) (b13 : Bool) (l14 : (List Int)) (x15 : Int) : verniertop_rounded.j8 k 5 x1 x2 x3 x4 x5 x6 x7 false x9 b10 l11 x12 b13 l14 x15 = verniertop_rounded.j7 k 5 x1 x2 x3 x4 x5 x7 false x9 b10 l11 x12 b13 l14 x15 := by kernel_rfl
theorem rounded_j8_0 (k : Nat) (x1 : Int) (x2 : Int) (x3 : Int) (x4 : Int) (x5 : Int) (x6 : Int) (x7 : Int) (x9 : Int) (b10 : Bool) (l11 : (List Int)) (x12 : Int) (b13 : Bool) (l14 : (List Int)) (x15 : Int) : verniertop_rounded.j8 k 0 x1 x2 x3 x4 x5 x6 x7 false x9 b10 l11 x12 b13 l14 x15 = (if decide (x6 > 0) then verniertop_rounded.j7 k 0 x1 x2 x3 x4 x5 x7 (decide (x6 > 0)) x9 b10 l11 x12 b13 l14 x15 else (if x6 == 0 then verniertop_rounded.j7 k 0 x1 x2 x3 x4 x5 x7 ((andK IntKind.u64 x5 1) == 1) x9 b10 l11 x12 b13 l14 x15 else verniertop_rounded.j7 k 0 x1 x2 x3 x4 x5 x7 false x9 b10 l11 x12 b13 l14 x15)) := by kernel_rfl
theorem rounded_j8_1 (k : Nat) (x1 : Int) (x2 : Int) (x3 : Int) (x4 : Int) (x5 : Int) (x6 : Int) (x7 : Int) (x9 : Int) (b10 : Bool) (l11 : (List Int)) (x12 : Int) (b13 : Bool) (l14 : (List Int)) (x15 : Int) : verniertop_rounded.j8 k 1 x1 x2 x3 x4 x5 x6 x7 false x9 b10 l11 x12 b13 l14 x15 = (if decide (x6 > 0) then verniertop_rounded.j7 k 1 x1 x2 x3 x4 x5 x7 (decide (x6 > 0)) x9 b10 l11 x12 b13 l14 x15 else (if x6 == 0 then verniertop_rounded.j7 k 1 x1 x2 x3 x4 x5 x7 (x6 == 0) x9 b10 l11 x12 b13 l14 x15 else verniertop_rounded.j7 k 1 x1 x2 x3 x4 x5 x7 false x9 b10 l11 x12 b13 l14 x15)) := by kernel_rfl
section
variable {f : Int} {W P : Nat} {em ex : Int} (h : Fm f W P em ex)
variable {L c : Int} {b1 : Bool} {l1 : List Int} {e1 : Int} {b2 : Bool} {l2 : List Int} {e2 : Int} {A B : Nat} (hat : AtT L c b1 l1 e1 b2 l2 e2 A B) (hL : L = em - (P : Int) - 1) (hB : 0 < B)
include h
theorem plV_small {k : Nat} (hk : k ≤ infP W P) : 4 * plV P k < 2 ^ xA := by
  have h8 := h.p8; have h53 := h.p53
  have ht := (eTop_le h).1
  have h1 := (plV_le (P := P) (by omega)).2 hk
  rw [plV_inf h, ← Nat.pow_add] at h1
  have h2 : 2 ^ (P - 1 + (eTop W P - 1)) ≤ 2 ^ xZ := pow_mono2 (by rw [xZ_is]; omega)
  have h3 : (2 : Nat) ^ xA = 2 ^ xZ * 2 ^ 90 := by rw [← Nat.pow_add, ← xA_eq]
  have h4 := Nat.two_pow_pos xZ
  rw [h3]
  generalize (2 : Nat) ^ xZ = z at *
  have : (2 : Nat) ^ 90 = 1237940039285380274899124224 := rfl
  omega
include hL
theorem floatT {k : Nat} (hk : k < infP W P) : ∃ (l : List Int) (e : Int), Ev (fun n => verniertop_parts n f (k : Int)) (false, ((0 : Int), (false, (l, e)))) ∧ RepT (L + 2) false l e ((plV P k : Nat) : Int) ∧ RepT L false l e ((4 * plV P k : Nat) : Int) ∧ e ≤ L + 4000 := by
  have h8 := h.p8; have h53 := h.p53; have m0 := h.m0; have m1 := h.m1
  have hi := infP_le h
  have hp := Nat.two_pow_pos (P - 1)
  have e1 := pow_half (P := W) (by have := h.wp; omega)
  have q1 : pk W k = k := by unfold pk; exact Nat.mod_eq_of_lt (by omega)
  have q2 : ps W k = false := by unfold ps; exact decide_eq_false (by omega)
  obtain ⟨p1, -⟩ := partsK h (a := k) (by omega)
  rw [q1, q2] at p1
  obtain ⟨l, e, a1, a2, a3⟩ := p1 hk
  have eL : em - (P : Int) + 1 = L + 2 := by omega
  rw [eL] at a2 a3
  have a2' : RepT (L + 2) false l e ((plV P k : Nat) : Int) := a2
  have a4 := a2'.base 2 (by omega)
  refine ⟨l, e, a1, a2', ?_, by omega⟩
  rw [show L + 2 - ((2 : Nat) : Int) = L by omega, ← Int.natCast_mul, Nat.mul_comm] at a4
  exact a4
theorem topT : ∃ e : Int, e = em + ((2 ^ (W - P) : Nat) : Int) - 2 ∧ RepT (L + 2) false (d32 1) e ((plV P (infP W P) : Nat) : Int) ∧ RepT L false (d32 1) e ((4 * plV P (infP W P) : Nat) : Int) ∧ e ≤ L + 4000 := by
  have h8 := h.p8; have h53 := h.p53; have m0 := h.m0; have m1 := h.m1
  have ht := eTop_le h
  have he : eTop W P = 2 ^ (W - P) - 1 := rfl
  have hwp := Nat.two_pow_pos (W - P)
  have hwp2 : 2 ^ (W - P) ≤ 2 ^ 11 := pow_mono2 (by have := h.wp11; omega)
  have h211 : (2 : Nat) ^ 11 = 2048 := rfl
  refine ⟨_, rfl, ?_, ?_, by omega⟩
  · have := RepT.pow (B := L + 2) (e := em + ((2 ^ (W - P) : Nat) : Int) - 2) (t := P - 1 + (eTop W P - 1)) (by omega) (by omega)
    rw [Nat.pow_add] at this
    rw [plV_inf h]; exact this
  · have := RepT.pow (B := L) (e := em + ((2 ^ (W - P) : Nat) : Int) - 2) (t := 2 + (P - 1 + (eTop W P - 1))) (by omega) (by omega)
    rw [Nat.pow_add, Nat.pow_add 2 (P - 1)] at this
    rw [plV_inf h]; exact this
include hat
/-- The amount against a float's value. -/
theorem atF {k : Nat} (hk : k ≤ infP W P) {l : List Int} {e : Int} (hr : RepT L false l e ((4 * plV P k : Nat) : Int)) (he : e ≤ L + 4000) : Ev (fun n => verniertop_at n c b1 l1 e1 b2 l2 e2 false l e) (sgn ((A : Int) - ((plV P k * (4 * B) : Nat) : Int))) := by
  have g := hat _ _ _ _ hr (by omega) (by rw [Int.natAbs_natCast]; exact Nat.lt_trans (plV_small h hk) (Nat.pow_lt_pow_right (by decide) (by rw [xA_is, xB_is]; decide)))
  rw [← Int.natCast_mul, show 4 * plV P k * B = plV P k * (4 * B) by grind] at g
  exact g
/-- The amount against the middle of two neighbours. -/
theorem atM {k j : Nat} (hk : k ≤ infP W P) (hj : j ≤ infP W P) {l l' : List Int} {e e' : Int} (hr : RepT (L + 2) false l e ((plV P k : Nat) : Int)) (he : e ≤ L + 4000) (hr' : RepT (L + 2) false l' e' ((plV P j : Nat) : Int)) (he' : e' ≤ L + 4000) {y : Bool} (F : Nat → Int → Option Bool)
    (hF : Ev (fun n => F n (sgn ((A : Int) - (((plV P k + plV P j) * (2 * B) : Nat) : Int)))) y) : Ev (fun n => (verniertop_sum n false l e false l' e').bind fun o => (verniertop_at n c b1 l1 e1 b2 l2 e2 o.1 o.2.1 (IntKind.i64.wrap (o.2.2 - 1))).bind fun o' => F n o') y := by
  have h8 := h.p8; have h53 := h.p53; have m0 := h.m0; have m1 := h.m1
  have s1 := plV_small h hk
  have s2 := plV_small h hj
  have hb : ∀ x : Nat, 4 * x < 2 ^ xA → x < 2 ^ xA := fun x hx => by omega
  obtain ⟨s, l1', g, q1, q2, q3⟩ := sumB (by omega) hr hr' (p := xA) (by rw [xA_is]; omega) (by rw [Int.natAbs_natCast]; exact hb _ s1) (by rw [Int.natAbs_natCast]; exact hb _ s2)
  have hg : g ≤ L + 4000 := by omega
  have q4 := q3.half (by omega)
  have lo : L + 2 ≤ g := by obtain ⟨_, _, z, _⟩ := q3; exact z
  rw [← Int.natCast_add] at q4
  have bd : (((plV P k + plV P j : Nat) : Int) * 2).natAbs < 2 ^ xB := by
    have e1 : (2 : Nat) ^ xB = 2 ^ xA * 2 ^ 10 := by rw [← Nat.pow_add, ← xB_eq]
    have e2 : (2 : Nat) ^ 10 = 1024 := rfl
    rw [e1, e2]
    generalize (2 : Nat) ^ xA = z at *
    omega
  have a := hat _ _ _ _ q4 (by omega) bd
  rw [show ((plV P k + plV P j : Nat) : Int) * 2 * (B : Int) = (((plV P k + plV P j) * (2 * B) : Nat) : Int) by rw [Int.natCast_mul, Int.natCast_mul 2 B, ← Int.mul_assoc]; rfl] at a
  refine Ev.bind q1 ?_
  dsimp only
  rw [wrapI (x := g - 1) (by omega) (by omega)]
  exact Ev.bind a hF
end

section
variable {f : Int} {W P : Nat} {em ex : Int} (h : Fm f W P em ex)
variable {L c : Int} {b1 : Bool} {l1 : List Int} {e1 : Int} {b2 : Bool} {l2 : List Int} {e2 : Int} {A B : Nat} (hat : AtT L c b1 l1 e1 b2 l2 e2 A B) (hL : L = em - (P : Int) - 1) (hB : 0 < B)
variable {m fl : Int} (hm : Md m) {F r lf : Nat} (hr : r = if ups m false (F % 2 == 1) lf = true then F + 1 else F) (hF : F < 2 ^ 63) (hfl : fl = if tinyB P m false A (4 * B) then 24 else 16)
include h hat hL hB hm hr hF hfl
theorem j7T {u : Bool} (hu : ups m false (F % 2 == 1) lf = u) : Ev (fun k => verniertop_rounded.j7 k m (r : Int) fl (P : Int) em (F : Int) (F : Int) u c b1 l1 e1 b2 l2 e2) true := by
  have h63 : (2 : Nat) ^ 63 = 9223372036854775808 := rfl
  have ht := tinyT h hat hL hB hm
  have fin : ∀ w : Int, w = (r : Int) → Ev (fun k => verniertop_rounded.j9 k m (r : Int) fl (P : Int) em w c b1 l1 e1 b2 l2 e2) true := fun w hw => by
    refine Ev.congr (fun k => verniertop_rounded.j9_eq k _ _ _ _ _ _ _ _ _ _ _ _ _) (Ev.pos (bT hw.symm) (Ev.bind ht ?_))
    rw [hfl]
    cases tinyB P m false A (4 * B) <;> exact Ev.pos (by decide) (Ev.eq (Ev.some _) (by decide))
  refine Ev.congr (fun k => verniertop_rounded.j7_eq k _ _ _ _ _ _ _ _ _ _ _ _ _ _ _) ?_
  rw [hu] at hr
  cases u
  · rw [if_neg (by decide)] at hr
    exact Ev.neg (by decide) (fin _ (by rw [hr]))
  · rw [if_pos rfl] at hr
    refine Ev.pos rfl (fin _ ?_)
    rw [show (F : Int) + 1 = ((F + 1 : Nat) : Int) by omega, wrapUn (by omega), hr]
theorem j6T {l l' : List Int} {e e' : Int} (hk : F < infP W P) (r1 : RepT (L + 2) false l e ((plV P F : Nat) : Int)) (g1 : e ≤ L + 4000) (r2 : RepT (L + 2) false l' e' ((plV P (F + 1) : Nat) : Int)) (g2 : e' ≤ L + 4000)
    (hc : (lf = 1 ∧ A < (plV P F + plV P (F + 1)) * (2 * B)) ∨ (lf = 2 ∧ A = (plV P F + plV P (F + 1)) * (2 * B)) ∨ (lf = 3 ∧ (plV P F + plV P (F + 1)) * (2 * B) < A)) :
    Ev (fun k => verniertop_rounded.j6 k m (r : Int) fl (P : Int) em (F : Int) c b1 l1 e1 b2 l2 e2 false l e false l' e') true := by
  have h63 : (2 : Nat) ^ 63 = 9223372036854775808 := rfl
  refine Ev.congr (fun k => verniertop_rounded.j6_eq k _ _ _ _ _ _ _ _ _ _ _ _ _ _ _ _ _ _ _) ?_
  have ho : andK IntKind.u64 (F : Int) 1 = ((F % 2 : Nat) : Int) := andK_one _ (by omega)
  have j7 := fun {u : Bool} (hu : ups m false (F % 2 == 1) lf = u) => j7T h hat hL hB hm hr hF hfl hu
  refine atM h hat hL (by omega) (by omega) r1 g1 r2 g2 (fun n o => _) ?_
  rw [ho]
  have hcc : (lf = 1 ∧ sgn ((A : Int) - (((plV P F + plV P (F + 1)) * (2 * B) : Nat) : Int)) = -1) ∨ (lf = 2 ∧ sgn ((A : Int) - (((plV P F + plV P (F + 1)) * (2 * B) : Nat) : Int)) = 0) ∨ (lf = 3 ∧ sgn ((A : Int) - (((plV P F + plV P (F + 1)) * (2 * B) : Nat) : Int)) = 1) := by
    generalize (plV P F + plV P (F + 1)) * (2 * B) = z at *
    unfold sgn
    rcases hc with ⟨x1, x2⟩ | ⟨x1, x2⟩ | ⟨x1, x2⟩
    · exact .inl ⟨x1, if_pos (by omega)⟩
    · exact .inr (.inl ⟨x1, by rw [if_neg (by omega), if_pos (by omega)]⟩)
    · exact .inr (.inr ⟨x1, by rw [if_neg (by omega), if_neg (by omega)]⟩)
  generalize sgn ((A : Int) - (((plV P F + plV P (F + 1)) * (2 * B) : Nat) : Int)) = z at *
  have hm0 := hm.1; have hm5 := hm.2
  have hm' : m = 0 ∨ m = 1 ∨ m = 2 ∨ m = 3 ∨ m = 4 ∨ m = 5 := by omega
  have hev : ∀ x : Nat, x % 2 = 0 ∨ x % 2 = 1 := fun x => by omega
  rcases hm' with rfl | rfl | rfl | rfl | rfl | rfl
  · refine Ev.neg (by decide) (Ev.neg (by decide) (Ev.congr (fun k => rounded_j8_0 k _ _ _ _ _ _ _ _ _ _ _ _ _ _) ?_))
    rw [ho]
    rcases hcc with ⟨x1, x2⟩ | ⟨x1, x2⟩ | ⟨x1, x2⟩
    · rw [x2]; exact Ev.neg (by decide) (Ev.neg (by decide) (j7 (by rw [x1]; simp [ups])))
    · rw [x2]; refine Ev.neg (by decide) (Ev.pos (by decide) (j7 ?_))
      rw [x1]; rcases hev F with g | g <;> rw [g] <;> rfl
    · rw [x2]; exact Ev.pos (by decide) (j7 (by rw [x1]; simp [ups]))
  · refine Ev.neg (by decide) (Ev.neg (by decide) (Ev.congr (fun k => rounded_j8_1 k _ _ _ _ _ _ _ _ _ _ _ _ _ _) ?_))
    rcases hcc with ⟨x1, x2⟩ | ⟨x1, x2⟩ | ⟨x1, x2⟩
    · rw [x2]; exact Ev.neg (by decide) (Ev.neg (by decide) (j7 (by rw [x1]; simp [ups])))
    · rw [x2]; exact Ev.neg (by decide) (Ev.pos (by decide) (j7 (by rw [x1]; simp [ups])))
    · rw [x2]; exact Ev.pos (by decide) (j7 (by rw [x1]; simp [ups]))
  · exact Ev.neg (by decide) (Ev.neg (by decide) (Ev.congr (fun k => rounded_j8_2 k _ _ _ _ _ _ _ _ _ _ _ _ _ _) (j7 (by simp [ups]))))
  · exact Ev.pos (by decide) (j7 (by simp [ups]))
  · exact Ev.neg (by decide) (Ev.neg (by decide) (Ev.congr (fun k => rounded_j8_4 k _ _ _ _ _ _ _ _ _ _ _ _ _ _) (j7 (by simp [ups]))))
  · refine Ev.neg (by decide) (Ev.pos (by decide) ?_)
    generalize hq : (((F % 2 : Nat) : Int) == 0) = q
    cases q
    · have g : F % 2 = 1 := by have : ((F % 2 : Nat) : Int) ≠ 0 := by simpa using hq
                               omega
      refine Ev.congr (fun k => rounded_j8_5 k _ _ _ _ _ _ _ _ _ _ _ _ _ _) (j7 (u := false) ?_)
      rw [g]; simp [ups]
    · have g : F % 2 = 0 := by have : ((F % 2 : Nat) : Int) = 0 := by simpa using hq
                               omega
      refine Ev.congr (fun k => rounded_j8_t 5 k _ _ _ _ _ _ _ _ _ _ _ _ _ _) (j7 (u := true) ?_)
      rw [g]; simp [ups]
end
section
variable {f : Int} {W P : Nat} {em ex : Int} (h : Fm f W P em ex)
variable {L c : Int} {b1 : Bool} {l1 : List Int} {e1 : Int} {b2 : Bool} {l2 : List Int} {e2 : Int} {A B : Nat} (hat : AtT L c b1 l1 e1 b2 l2 e2 A B) (hL : L = em - (P : Int) - 1) (hB : 0 < B)
include h hat hL hB
theorem roundedT {m : Int} (hm : Md m) : Ev (fun k => verniertop_rounded k f m (rnOut W P m false A (4 * B)).1 (rnOut W P m false A (4 * B)).2 c b1 l1 e1 b2 l2 e2) true := by
  have h8 := h.p8; have h53 := h.p53; have h3 := h.wp; have h64 := h.w64; have m0 := h.m0; have m1 := h.m1; have h11 := h.wp11
  have hi := infP_le h
  have hpp := Nat.two_pow_pos (P - 1)
  have hw := pow_half (P := W) (by omega)
  have h63 : (2 : Nat) ^ 63 = 9223372036854775808 := rfl
  have hw63 : 2 ^ (W - 1) ≤ 2 ^ 63 := pow_mono2 (by omega)
  have hB4 : 0 < 4 * B := by omega
  obtain ⟨hF1, hF2⟩ := flr_facts (P := P) (A := A) (B := 4 * B) (by omega) hB4
  have hrnd := rnd_flr (P := P) (by omega) m false A (4 * B)
  have hz := lftP_zero (P := P) (A := A) (B := 4 * B) (by omega) hB4
  have hv := lftP_val (P := P) (A := A) (B := 4 * B) (by omega) hB4
  have hmono : ∀ k : Nat, A ≤ plV P k * (4 * B) → rnd P m false A (4 * B) ≤ k := fun k hk => by
    have := rnd_mono (P := P) (by omega) hB4 hB4 m false (Nat.mul_le_mul_right (4 * B) hk)
    rwa [(rnd_exact (P := P) (by omega) hB4 m false).1] at this
  have er1 : infP W P ≤ rnd P m false A (4 * B) → rnOut W P m false A (4 * B) = (((if toInf m false = true then infP W P else infP W P - 1 : Nat) : Int), 20) := fun g => by
    unfold rnOut beyN sgB
    rw [if_pos g]
    simp
  have er2 : ¬ (infP W P ≤ rnd P m false A (4 * B)) → rnOut W P m false A (4 * B) = (((rnd P m false A (4 * B) : Nat) : Int), if lftP P A (4 * B) = 0 then 0 else if tinyB P m false A (4 * B) = true then 24 else 16) := fun g => by
    unfold rnOut sgB
    rw [if_neg g]
    simp
  have hlt := plV_lt_succ (P := P) (by omega) (flr P A (4 * B))
  have hlt4 := Nat.mul_lt_mul_of_pos_right hlt hB4
  generalize flr P A (4 * B) = F at *
  generalize lftP P A (4 * B) = lf at *
  obtain ⟨eT, heT, top2, top0, topB⟩ := topT h hL
  have hwp := Nat.two_pow_pos (W - P)
  have hwp2 : 2 ^ (W - P) ≤ 2 ^ 11 := pow_mono2 (by omega)
  have h211 : (2 : Nat) ^ 11 = 2048 := rfl
  have i1 : IntKind.i64.wrap ((W : Int) - 1) = ((W - 1 : Nat) : Int) := by rw [wrapI (by omega) (by omega)]; omega
  have i3 : IntKind.i64.wrap ((W : Int) - (P : Int)) = ((W - P : Nat) : Int) := by rw [wrapI (by omega) (by omega)]; omega
  have i5 : IntKind.i64.wrap (IntKind.i64.wrap (em + ((2 ^ (W - P) : Nat) : Int)) - 2) = eT := by rw [wrapI (x := em + _) (by omega) (by omega), wrapI (by omega) (by omega), heT]
  have iu : ∀ x : Nat, x < 2 ^ 63 → IntKind.u64.wrap ((x : Int) + 1) = ((x + 1 : Nat) : Int) := fun x hx => by rw [show (x : Int) + 1 = ((x + 1 : Nat) : Int) by omega, wrapUn (by omega)]
  have id : ∀ x : Nat, x < 2 ^ 63 → IntKind.u64.wrap (((x + 1 : Nat) : Int) - 1) = (x : Int) := fun x hx => by rw [show ((x + 1 : Nat) : Int) - 1 = (x : Int) by omega, wrapUn (by omega)]
  have ht31 := (eTop_le h).2
  have hinf : 1 ≤ infP W P := by
    have : 1 * 1 ≤ eTop W P * 2 ^ (P - 1) := Nat.mul_le_mul (by omega) hpp
    exact this
  have heven : infP W P % 2 = 0 := by
    unfold infP
    rw [show P - 1 = (P - 2) + 1 by omega, Nat.pow_succ, ← Nat.mul_assoc, Nat.mul_mod_left]
  have pinf : Ev (fun n => verniertop_parts n f ((infP W P : Nat) : Int)) (false, ((1 : Int), (false, (([] : List Int), (0 : Int))))) := by
    have q1 : pk W (infP W P) = infP W P := by unfold pk; exact Nat.mod_eq_of_lt (by omega)
    have q2 : ps W (infP W P) = false := by unfold ps; exact decide_eq_false (by omega)
    have p2 := (partsK h (a := infP W P) (by omega)).2
    rw [q1, q2] at p2
    have := p2 (Nat.le_refl _)
    unfold kindT at this
    rwa [if_neg (by omega), if_pos rfl] at this
  have pow : Ev (fun n => verniertop_power n eT) (false, (d32 1, eT)) := powT eT
  have start : ∀ {r : Nat} {fl kd : Int} {l : List Int} {e : Int}, r < 2 ^ (W - 1) → Ev (fun n => verniertop_parts n f (r : Int)) (false, (kd, (false, (l, e)))) → ¬ (kd > 1) → andK IntKind.i64 fl 3 = 0 →
      Ev (fun k => verniertop_rounded.j0 k f m (r : Int) fl (W : Int) (P : Int) em kd ((infP W P : Nat) : Int) c b1 l1 e1 b2 l2 e2 false l e) true → Ev (fun k => verniertop_rounded k f m (r : Int) fl c b1 l1 e1 b2 l2 e2) true := fun hr hp hk hfl g => by
    refine Ev.congr (fun k => verniertop_rounded_eq k _ _ _ _ _ _ _ _ _ _ _) (Ev.bind (Ev.of fun k => layT h k) (Ev.bind hp (Ev.bind (Ev.of fun k => infT h k false) ?_)))
    dsimp only
    rw [i1, shrK_nat _ (W - 1) (by omega), Nat.div_eq_of_lt hr]
    exact Ev.pos (by omega) (Ev.neg (by decide) (Ev.neg (dF hk) (Ev.neg (nF hfl) g)))
  have atv := fun {k : Nat} (hk : k ≤ infP W P) {l : List Int} {e : Int} (hr : RepT L false l e ((4 * plV P k : Nat) : Int)) (he : e ≤ L + 4000) => atF h hat hL hk hr he
  -- from the second question on
  have second : ∀ {r : Nat} {fl : Int} {l : List Int} {e : Int}, r < infP W P → RepT L false l e ((4 * plV P r : Nat) : Int) → e ≤ L + 4000 → A ≠ plV P r * (4 * B) → ¬ (andK IntKind.i64 fl 16 = 0) →
      Ev (fun k => ((verniertop_parts k f (IntKind.u64.wrap ((r : Int) + 1)))).bind fun o8 => (if (IntKind.u64.wrap ((r : Int) + 1)) == ((infP W P : Nat) : Int) then verniertop_rounded.j1 k f m (r : Int) fl (P : Int) em ((infP W P : Nat) : Int) c b1 l1 e1 b2 l2 e2 false l e false (d32 1) eT false (d32 1) eT else verniertop_rounded.j1 k f m (r : Int) fl (P : Int) em ((infP W P : Nat) : Int) c b1 l1 e1 b2 l2 e2 false l e false (d32 1) eT o8.2.2.1 o8.2.2.2.1 o8.2.2.2.2)) true →
      Ev (fun k => verniertop_rounded.j0 k f m (r : Int) fl (W : Int) (P : Int) em 0 ((infP W P : Nat) : Int) c b1 l1 e1 b2 l2 e2 false l e) true := fun {r fl l e} hr h1 h2 hne hfl g => by
    refine Ev.congr (fun k => verniertop_rounded.j0_eq k _ _ _ _ _ _ _ _ _ _ _ _ _ _ _ _ _ _ _) ?_
    rw [i3, shl_i64 h, i5]
    refine Ev.pos (by omega) (Ev.bind pow (Ev.neg (by decide) (Ev.bind (atv (by omega) h1 h2) (Ev.neg (bF ?_) (Ev.neg (bF hfl) g)))))
    intro e
    have := sgn_zero.1 e
    omega
  by_cases c0 : infP W P ≤ rnd P m false A (4 * B)
  · rw [er1 c0]
    obtain ⟨G, hG⟩ : ∃ G, infP W P = G + 1 := ⟨infP W P - 1, by omega⟩
    obtain ⟨lG, eG, pG, rG2, rG0, bG⟩ := floatT h hL (k := G) (by omega)
    have hGA : plV P G * (4 * B) < A := by
      rcases Nat.lt_or_ge (plV P G * (4 * B)) A with g | g
      · exact g
      · have := hmono G g; omega
    have hm0 := hm.1; have hm5 := hm.2
    have hm' : m = 0 ∨ m = 1 ∨ m = 2 ∨ m = 3 ∨ m = 4 ∨ m = 5 := by omega
    rw [hG] at top2 top0
    have far : infP W P ≤ F → plV P (G + 1) * (4 * B) ≤ A := fun g => by
      have := (plV_le (P := P) (by omega)).2 (show G + 1 ≤ F by omega)
      exact Nat.le_trans (Nat.mul_le_mul_right _ this) hF1
    by_cases ct : toInf m false = true
    · rw [if_pos ct]
      dsimp only
      have mid : (m = 0 ∨ m = 1) → (plV P G + plV P (G + 1)) * (2 * B) ≤ A := fun hm01 => by
        have e1 : (plV P G + plV P (G + 1)) * (2 * B) * 2 = plV P G * (4 * B) + plV P (G + 1) * (4 * B) := by grind
        rcases Nat.lt_or_ge F (infP W P) with g | g
        · rw [hrnd] at c0
          unfold chs at c0
          split at c0
          · rename_i hu
            have hFG : F = G := by omega
            subst hFG
            have hl2 : 2 ≤ lf := by
              rcases hm01 with rfl | rfl
              · have := hu.2
                unfold ups at this
                rw [if_pos rfl] at this
                simp only [Bool.or_eq_true, Bool.and_eq_true, beq_iff_eq] at this
                omega
              · have := hu.2
                unfold ups at this
                rw [if_neg (by decide), if_pos rfl] at this
                exact of_decide_eq_true this
            have hr0 : A - plV P F * (4 * B) ≠ 0 := by omega
            rcases lft_mid (d := plV P (F + 1) * (4 * B) - plV P F * (4 * B)) hr0 with ⟨x1, x2⟩ | ⟨x1, x2⟩ | ⟨x1, x2⟩ <;> omega
          · omega
        · have := far g
          omega
      have iG : IntKind.u64.wrap (((G + 1 : Nat) : Int) - 1) = (G : Int) := id G (by omega)
      have bey : Ev (fun k => verniertop_beyond k f m c b1 l1 e1 b2 l2 e2 false (d32 1) eT) true := by
        refine Ev.congr (fun k => verniertop_beyond_eq k _ _ _ _ _ _ _ _ _ _ _ _) (Ev.bind (Ev.of fun k => infT h k false) ?_)
        rw [show infP W P + sgB false W = G + 1 by rw [hG]; rfl, iG]
        refine Ev.bind pG ?_
        dsimp only
        by_cases c3 : m = 3
        · refine Ev.pos (bT c3) (Ev.bind (atv (by omega) rG0 bG) (Ev.eq (Ev.some _) (decide_eq_true (sgn_gt.2 ?_))))
          omega
        · refine Ev.neg (bF c3) (atM h hat hL (by omega) (by omega) rG2 bG top2 topB (fun n o => _) (Ev.eq (Ev.some _) (decide_eq_true (tsgn_ge.2 ?_))))
          have : m = 0 ∨ m = 1 := by rcases hm' with rfl | rfl | rfl | rfl | rfl | rfl <;> simp_all [toInf]
          have := mid this
          omega
      refine start (by omega) pinf (by decide) (by decide) (Ev.congr (fun k => verniertop_rounded.j0_eq k _ _ _ _ _ _ _ _ _ _ _ _ _ _ _ _ _ _ _) ?_)
      rw [i3, shl_i64 h, i5]
      refine Ev.pos (by omega) (Ev.bind pow (Ev.pos (by decide) (Ev.pos (by decide) ?_)))
      rcases hm' with rfl | rfl | rfl | rfl | rfl | rfl
      · exact Ev.pos (by decide) (Ev.bind bey (Ev.some _))
      · exact Ev.neg (by decide) (Ev.pos (by decide) (Ev.bind bey (Ev.some _)))
      · exact absurd ct (by decide)
      · exact Ev.neg (by decide) (Ev.neg (by decide) (Ev.pos (by decide) (Ev.bind bey (Ev.some _))))
      · exact absurd ct (by decide)
      · exact absurd ct (by decide)
    · rw [if_neg ct, show infP W P - 1 = G by omega]
      dsimp only
      have hFi : infP W P ≤ F := by
        rw [hrnd] at c0
        unfold chs at c0
        split at c0
        · rename_i hu
          have h2 := hu.2
          rcases hm' with rfl | rfl | rfl | rfl | rfl | rfl
          · exact absurd rfl ct
          · exact absurd rfl ct
          · simp [ups] at h2
          · exact absurd rfl ct
          · simp [ups] at h2
          · simp [ups] at h2
            omega
        · exact c0
      have hfar := far hFi
      have a0 := atv (k := G) (by omega) rG0 bG
      have aT := atv (k := G + 1) (by omega) top0 topB
      have s0 : sgn ((A : Int) - ((plV P G * (4 * B) : Nat) : Int)) > 0 := sgn_gt.2 (by omega)
      have sT : sgn ((A : Int) - ((plV P (G + 1) * (4 * B) : Nat) : Int)) ≥ 0 := tsgn_ge.2 (by omega)
      refine start (by omega) pG (by decide) (by decide) (second (by omega) rG0 bG (by omega) (by decide) ?_)
      rw [iu G (by omega)]
      refine Ev.bind (by rw [hG] at pinf; exact pinf) (Ev.pos (bT (by rw [hG])) (Ev.congr (fun k => verniertop_rounded.j1_eq k _ _ _ _ _ _ _ _ _ _ _ _ _ _ _ _ _ _ _ _ _ _ _) (Ev.bind a0 (Ev.neg (dF (by omega)) (Ev.congr (fun k => verniertop_rounded.j2_eq k _ _ _ _ _ _ _ _ _ _ _ _ _ _ _ _ _ _ _ _ _ _ _ _) (Ev.bind pG (Ev.bind a0 (Ev.pos (dT s0) (Ev.bind aT ?_)))))))))
      refine Ev.congr (fun k => verniertop_rounded.j3_eq k _ _ _ _ _ _ _ _ _ _ _ _ _ _ _ _ _ _ _ _ _ _ _ _ _ _ _) (Ev.pos (dT sT) ?_)
      rw [iu G (by omega)]
      refine Ev.pos (bT (by rw [hG])) (Ev.pos (by decide) ?_)
      rcases hm' with rfl | rfl | rfl | rfl | rfl | rfl
      · exact absurd rfl ct
      · exact absurd rfl ct
      · exact Ev.pos (by decide) (Ev.bind aT (Ev.eq (Ev.some _) (dT sT)))
      · exact absurd rfl ct
      · exact Ev.neg (by decide) (Ev.pos (by decide) (Ev.bind aT (Ev.eq (Ev.some _) (dT sT))))
      · exact Ev.neg (by decide) (Ev.neg (by decide) (Ev.pos (by decide) (Ev.bind aT (Ev.eq (Ev.some _) (dT sT)))))
  · rw [er2 c0]
    dsimp only
    have hchs := hrnd
    generalize hR : rnd P m false A (4 * B) = r at *
    have hrF : F ≤ r := by rw [hrnd]; exact chs_ge _ _ _ _
    obtain ⟨lr, eR, pR, rR2, rR0, bR⟩ := floatT h hL (k := r) (by omega)
    by_cases cl : lf = 0
    · rw [if_pos cl]
      have hrF' : r = F := by rw [hrnd, cl, chs_zero]
      refine start (by omega) pR (by decide) (by decide) (Ev.congr (fun k => verniertop_rounded.j0_eq k _ _ _ _ _ _ _ _ _ _ _ _ _ _ _ _ _ _ _) ?_)
      rw [i3, shl_i64 h, i5]
      refine Ev.pos (by omega) (Ev.bind pow (Ev.neg (by decide) (Ev.bind (atv (by omega) rR0 bR) (Ev.pos (bT ?_) (Ev.some _)))))
      have := hz.1 cl
      rw [sgn_zero, hrF']; omega
    · rw [if_neg cl]
      have hA1 : plV P F * (4 * B) < A := by
        have : A ≠ plV P F * (4 * B) := fun e => cl (hz.2 e)
        omega
      have hr : r = if ups m false (F % 2 == 1) lf = true then F + 1 else F := by
        rw [hrnd]
        unfold chs
        by_cases cu : ups m false (F % 2 == 1) lf = true
        · rw [if_pos ⟨by omega, cu⟩, if_pos cu]
        · rw [if_neg (fun g => cu g.2), if_neg cu]
      generalize hfl : (if tinyB P m false A (4 * B) = true then (24 : Int) else 16) = fl
      have hfl3 : andK IntKind.i64 fl 3 = 0 := by rw [← hfl]; split <;> decide
      have hfl16 : ¬ (andK IntKind.i64 fl 16 = 0) := by rw [← hfl]; split <;> decide
      have hfl4 : andK IntKind.i64 fl 4 = 0 := by rw [← hfl]; split <;> decide
      have hc : (lf = 1 ∧ A < (plV P F + plV P (F + 1)) * (2 * B)) ∨ (lf = 2 ∧ A = (plV P F + plV P (F + 1)) * (2 * B)) ∨ (lf = 3 ∧ (plV P F + plV P (F + 1)) * (2 * B) < A) := by
        have e1 : (plV P F + plV P (F + 1)) * (2 * B) * 2 = plV P F * (4 * B) + plV P (F + 1) * (4 * B) := by grind
        have hr0 : A - plV P F * (4 * B) ≠ 0 := by omega
        rcases lft_mid (d := plV P (F + 1) * (4 * B) - plV P F * (4 * B)) hr0 with ⟨x1, x2⟩ | ⟨x1, x2⟩ | ⟨x1, x2⟩
        · exact .inl ⟨by omega, by omega⟩
        · exact .inr (.inl ⟨by omega, by omega⟩)
        · exact .inr (.inr ⟨by omega, by omega⟩)
      obtain ⟨lF, eF, pF, rF2, rF0, bF'⟩ := floatT h hL (k := F) (by omega)
      have aF := atv (k := F) (by omega) rF0 bF'
      have sF : sgn ((A : Int) - ((plV P F * (4 * B) : Nat) : Int)) > 0 := sgn_gt.2 (by omega)
      -- from the fourth question on
      have fourth : ∀ {lv ln : List Int} {ev en : Int}, (r ≠ F → RepT (L + 2) false lv ev ((plV P (F + 1) : Nat) : Int) ∧ ev ≤ L + 4000) → (r = F → RepT (L + 2) false ln en ((plV P (F + 1) : Nat) : Int) ∧ en ≤ L + 4000) →
          Ev (fun k => verniertop_rounded.j4 k m (r : Int) fl (P : Int) em (F : Int) c b1 l1 e1 b2 l2 e2 false lv ev false ln en false lF eF) true := fun {lv ln ev en} g1 g2 => by
        refine Ev.congr (fun k => verniertop_rounded.j4_eq k _ _ _ _ _ _ _ _ _ _ _ _ _ _ _ _ _ _ _ _ _ _) (Ev.bind aF (Ev.neg (dF (by omega)) (Ev.neg (nF hfl4) (Ev.congr (fun k => verniertop_rounded.j5_eq k _ _ _ _ _ _ _ _ _ _ _ _ _ _ _ _ _ _ _ _ _ _) ?_))))
        by_cases cr : r = F
        · obtain ⟨y1, y2⟩ := g2 cr
          exact Ev.neg (nF (by omega)) (j6T h hat hL hB hm hr (by omega) hfl.symm (by omega) rF2 bF' y1 y2 hc)
        · obtain ⟨y1, y2⟩ := g1 cr
          exact Ev.pos (nT (by omega)) (j6T h hat hL hB hm hr (by omega) hfl.symm (by omega) rF2 bF' y1 y2 hc)
      have hrF1 : r = F ∨ r = F + 1 := by rw [hr]; split <;> omega
      -- with the next float told
      have first : ∀ {ln : List Int} {en : Int}, RepT (L + 2) false ln en ((plV P (r + 1) : Nat) : Int) → RepT L false ln en ((4 * plV P (r + 1) : Nat) : Int) → en ≤ L + 4000 →
          Ev (fun k => verniertop_rounded.j1 k f m (r : Int) fl (P : Int) em ((infP W P : Nat) : Int) c b1 l1 e1 b2 l2 e2 false lr eR false (d32 1) eT false ln en) true := fun {ln en} n2 n0 nb => by
        refine Ev.congr (fun k => verniertop_rounded.j1_eq k _ _ _ _ _ _ _ _ _ _ _ _ _ _ _ _ _ _ _ _ _ _ _) (Ev.bind (atv (by omega) rR0 bR) ?_)
        rcases hrF1 with cr | cr
        · subst cr
          refine Ev.neg (dF (by omega)) (Ev.congr (fun k => verniertop_rounded.j2_eq k _ _ _ _ _ _ _ _ _ _ _ _ _ _ _ _ _ _ _ _ _ _ _ _) (Ev.bind pF (Ev.bind (atv (by omega) rR0 bR) (Ev.pos (dT sF) (Ev.bind (atv (by omega) n0 nb) ?_)))))
          refine Ev.congr (fun k => verniertop_rounded.j3_eq k _ _ _ _ _ _ _ _ _ _ _ _ _ _ _ _ _ _ _ _ _ _ _ _ _ _ _) (Ev.neg (dF ?_) (fourth (fun g => absurd rfl g) (fun _ => ⟨n2, nb⟩)))
          intro g
          have := tsgn_ge.1 g
          omega
        · have sr : sgn ((A : Int) - ((plV P r * (4 * B) : Nat) : Int)) < 0 := sgn_lt.2 (by rw [cr]; omega)
          rw [cr] at rR2
          refine Ev.pos (dT sr) (Ev.neg (bF (by omega)) ?_)
          rw [show ((r : Nat) : Int) - 1 = ((F + 1 : Nat) : Int) - 1 by omega, id F (by omega)]
          refine Ev.congr (fun k => verniertop_rounded.j2_eq k _ _ _ _ _ _ _ _ _ _ _ _ _ _ _ _ _ _ _ _ _ _ _ _) (Ev.bind pF (Ev.bind (atv (by omega) rR0 bR) (Ev.neg (dF (by omega)) ?_)))
          exact Ev.congr (fun k => verniertop_rounded.j3_eq k _ _ _ _ _ _ _ _ _ _ _ _ _ _ _ _ _ _ _ _ _ _ _ _ _ _ _) (Ev.neg (by decide) (fourth (fun _ => ⟨rR2, bR⟩) (fun g => by omega)))
      refine start (by omega) pR (by decide) hfl3 (second (by omega) rR0 bR ?_ hfl16 ?_)
      · rcases hrF1 with cr | cr <;> rw [cr] <;> omega
      · rw [iu r (by omega)]
        by_cases ci : r + 1 = infP W P
        · refine Ev.bind (by rw [ci]; exact pinf) (Ev.pos (bT (by rw [ci])) (first ?_ ?_ topB))
          · rw [ci]; exact top2
          · rw [ci]; exact top0
        · obtain ⟨ln, en, pn, rn2, rn0, bn⟩ := floatT h hL (k := r + 1) (by omega)
          exact Ev.bind pn (Ev.neg (bF (by omega)) (first rn2 rn0 bn))
end
end Go.Proofs.YtldjheckpophaaaDoor.X
