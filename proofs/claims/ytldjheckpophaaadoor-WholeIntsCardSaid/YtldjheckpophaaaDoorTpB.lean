/- Plain law: verniertop's own exact numbers, in units of a power of two: sum, versus, sign; a float's parts. Conditions: the numbers are short; the format is one of the four, the pattern of its width. -/
import Derived.Test.YtldjheckpophaaaDoorTpA
import Derived.Test.YtldjheckpophaaaDoorDyB
import Derived.Test.YtldjheckpophaaaDoorRnD
namespace Go.Proofs.YtldjheckpophaaaDoor.X
open Go Go.Rex
set_option linter.unusedVariables false

/-- An exact number of verniertop's own that is v units of 2^B. -/
def RepT (B : Int) (s : Bool) (l : List Int) (e v : Int) : Prop := ∃ n : Nat, l = d32 n ∧ B ≤ e ∧ e ≤ B + 20000 ∧ sg s (n * 2 ^ (e - B).toNat) = v
theorem tsg_zero (s : Bool) : sg s 0 = 0 := by cases s <;> rfl
theorem tsg_abs (s : Bool) (n : Nat) : (sg s n).natAbs = n := by unfold sg; cases s <;> simp
theorem tsg_neg (s : Bool) (n : Nat) : sg (!s) n = -(sg s n) := by unfold sg; cases s <;> simp
theorem RepT.neg {B : Int} {s : Bool} {l : List Int} {e v : Int} (h : RepT B s l e v) : RepT B (!s) l e (-v) := by
  obtain ⟨n, h1, h2, h3, h4⟩ := h
  exact ⟨n, h1, h2, h3, by rw [tsg_neg, h4]⟩
theorem RepT.abs {B : Int} {s : Bool} {l : List Int} {e v : Int} (h : RepT B s l e v) : RepT B false l e (v.natAbs : Int) := by
  obtain ⟨n, h1, h2, h3, h4⟩ := h
  exact ⟨n, h1, h2, h3, by rw [← h4, tsg_abs]; rfl⟩
theorem RepT.short {n p x : Nat} {s : Bool} {v : Int} (h4 : sg s (n * 2 ^ x) = v) (hv : v.natAbs < 2 ^ p) : n * 2 ^ x < 2 ^ p ∧ n < 2 ^ p := by
  have : n * 2 ^ x < 2 ^ p := by rw [← h4, tsg_abs] at hv; exact hv
  have h2 := Nat.le_mul_of_pos_right n (Nat.two_pow_pos x)
  omega
theorem RepT.nil {n x : Nat} {s : Bool} {v : Int} (h4 : sg s (n * 2 ^ x) = v) : n = 0 ↔ v = 0 := by
  constructor
  · intro e; rw [← h4, e, Nat.zero_mul, tsg_zero]
  · intro e
    have := congrArg Int.natAbs h4
    rw [tsg_abs, e] at this
    rcases Nat.mul_eq_zero.1 this with g | g
    · exact g
    · have := Nat.two_pow_pos x; omega
theorem signT {B : Int} {s : Bool} {l : List Int} {e v : Int} (h : RepT B s l e v) : Ev (fun k => verniertop_sign k s l e) (sgn v) := by
  obtain ⟨n, rfl, h2, h3, h4⟩ := h
  have hn := RepT.nil h4
  refine Ev.congr (fun k => verniertop_sign_eq k _ _ _) ?_
  by_cases c : n = 0
  · rw [hn.1 c, c, d32_zero]
    exact Ev.pos (bT rfl) (Ev.eq (Ev.some _) rfl)
  · have := d32_len_pos.2 c
    have hv : v ≠ 0 := fun e => c (hn.2 e)
    refine Ev.neg (bF (by omega)) ?_
    rw [← h4] at hv ⊢
    generalize n * 2 ^ (e - B).toNat = z at *
    unfold sg at *
    cases s
    · simp at hv ⊢
      exact Ev.eq (Ev.some _) (by unfold sgn; rw [if_neg (by omega), if_neg (by omega)])
    · simp at hv ⊢
      exact Ev.eq (Ev.some _) (by unfold sgn; rw [if_pos (by omega)])
theorem sumT {B : Int} (hB : -5000 ≤ B ∧ B ≤ 5000) {s t : Bool} {l m : List Int} {e f v w : Int} (h : RepT B s l e v) (h' : RepT B t m f w) {p : Nat} (hp : p ≤ 20000) (hv : v.natAbs < 2 ^ p) (hw : w.natAbs < 2 ^ p) :
    ∃ (s1 : Bool) (l1 : List Int) (e1 : Int), Ev (fun k => verniertop_sum k s l e t m f) (s1, (l1, e1)) ∧ RepT B s1 l1 e1 (v + w) := by
  obtain ⟨n, rfl, n2, n3, n4⟩ := h
  obtain ⟨q, rfl, q2, q3, q4⟩ := h'
  have zn := RepT.nil n4
  have zq := RepT.nil q4
  have sn := RepT.short n4 hv
  have sq := RepT.short q4 hw
  by_cases c1 : n = 0
  · refine ⟨t, d32 q, f, Ev.congr (fun k => verniertop_sum_eq k _ _ _ _ _ _) (Ev.pos (bT (by rw [c1, d32_zero]; rfl)) (Ev.some _)), q, rfl, q2, q3, ?_⟩
    rw [zn.1 c1, Int.zero_add]; exact q4
  by_cases c2 : q = 0
  · refine ⟨s, d32 n, e, Ev.congr (fun k => verniertop_sum_eq k _ _ _ _ _ _) (Ev.neg (bF (by have := d32_len_pos.2 c1; omega)) (Ev.pos (bT (by rw [c2, d32_zero]; rfl)) (Ev.some _))), n, rfl, n2, n3, ?_⟩
    rw [zq.1 c2, Int.add_zero]; exact n4
  have ln : (d32 n).length ≤ 625 := d32_short sn.2 (by omega)
  have lq : (d32 q).length ≤ 625 := d32_short sq.2 (by omega)
  -- both at the lower place
  have al : ∃ (X Y : Nat) (g : Int), Ev (fun k => verniertop_aligned k s (d32 n) e t (d32 q) f) (d32 X, (d32 Y, g)) ∧ B ≤ g ∧ g ≤ B + 20000 ∧ X * 2 ^ (g - B).toNat = n * 2 ^ (e - B).toNat ∧ Y * 2 ^ (g - B).toNat = q * 2 ^ (f - B).toNat := by
    by_cases c : e > f
    · have e1 : IntKind.i64.wrap (e - f) = ((e - f).toNat : Int) := by rw [wrapI (by omega) (by omega)]; omega
      have lf := tleft_ev (n := n) (t := (e - f).toNat) (by omega) (by omega)
      refine ⟨n * 2 ^ (e - f).toNat, q, f, Ev.congr (fun k => verniertop_aligned_eq k _ _ _ _ _ _) (Ev.pos (dT c) ?_), q2, by omega, ?_, rfl⟩
      · rw [e1]; exact Ev.bind lf (Ev.some _)
      · rw [Nat.mul_assoc, ← Nat.pow_add]; congr 2; omega
    · have e1 : IntKind.i64.wrap (f - e) = ((f - e).toNat : Int) := by rw [wrapI (by omega) (by omega)]; omega
      have lf := tleft_ev (n := q) (t := (f - e).toNat) (by omega) (by omega)
      refine ⟨n, q * 2 ^ (f - e).toNat, e, Ev.congr (fun k => verniertop_aligned_eq k _ _ _ _ _ _) (Ev.neg (dF c) ?_), n2, by omega, rfl, ?_⟩
      · rw [e1]; exact Ev.bind lf (Ev.some _)
      · rw [Nat.mul_assoc, ← Nat.pow_add]; congr 2; omega
  obtain ⟨X, Y, g, a1, g0, g1, x1, y1⟩ := al
  have lX : (d32 X).length ≤ 625 := d32_short (p := p) (by have := Nat.le_mul_of_pos_right X (Nat.two_pow_pos (g - B).toNat); omega) (by omega)
  have lY : (d32 Y).length ≤ 625 := d32_short (p := p) (by have := Nat.le_mul_of_pos_right Y (Nat.two_pow_pos (g - B).toNat); omega) (by omega)
  have start : ∀ {r}, Ev (fun k => (if s == t then ((verniertop_plus k (d32 X) (d32 Y))).bind fun o1 => some (s, (o1, g)) else ((verniertop_compare k (d32 X) (d32 Y))).bind fun o2 => (if decide (o2 ≥ 0) then ((verniertop_minus k (d32 X) (d32 Y))).bind fun o3 => some (s, (o3, g)) else ((verniertop_minus k (d32 Y) (d32 X))).bind fun o4 => some (t, (o4, g))))) r → Ev (fun k => verniertop_sum k s (d32 n) e t (d32 q) f) r := fun g => Ev.congr (fun k => verniertop_sum_eq k _ _ _ _ _ _) (Ev.neg (bF (by have := d32_len_pos.2 c1; omega)) (Ev.neg (bF (by have := d32_len_pos.2 c2; omega)) (Ev.bind a1 g)))
  rw [← x1] at n4
  rw [← y1] at q4
  by_cases hs : s = t
  · subst hs
    refine ⟨s, d32 (X + Y), g, start (Ev.pos (by simp) (Ev.bind (tplus_ev (by omega) (by omega)) (Ev.some _))), X + Y, rfl, g0, g1, ?_⟩
    rw [← n4, ← q4, Nat.add_mul]
    generalize X * 2 ^ (g - B).toNat = x' at *
    generalize Y * 2 ^ (g - B).toNat = y' at *
    unfold sg; cases s <;> simp <;> omega
  · have hne : ¬ ((s == t) = true) := by simpa using hs
    have ht : t = !s := by cases s <;> cases t <;> simp_all
    by_cases c : Y ≤ X
    · refine ⟨s, d32 (X - Y), g, start (Ev.neg hne (Ev.bind (tcmp_ev (by omega) (by omega)) (Ev.pos (dT (by unfold cmpN; rw [if_neg (by omega)]; split <;> omega)) (Ev.bind (tminus_ev (by omega) c) (Ev.some _))))), X - Y, rfl, g0, g1, ?_⟩
      have := Nat.mul_le_mul_right (2 ^ (g - B).toNat) c
      rw [← n4, ← q4, ht, tsg_neg, Nat.sub_mul]
      generalize X * 2 ^ (g - B).toNat = x' at *
      generalize Y * 2 ^ (g - B).toNat = y' at *
      unfold sg; cases s <;> simp <;> omega
    · refine ⟨t, d32 (Y - X), g, start (Ev.neg hne (Ev.bind (tcmp_ev (by omega) (by omega)) (Ev.neg (dF (by unfold cmpN; rw [if_pos (by omega)]; decide)) (Ev.bind (tminus_ev (by omega) (by omega)) (Ev.some _))))), Y - X, rfl, g0, g1, ?_⟩
      have := Nat.mul_le_mul_right (2 ^ (g - B).toNat) (show X ≤ Y by omega)
      rw [← n4, ← q4, ht, tsg_neg, tsg_neg, Nat.sub_mul]
      generalize X * 2 ^ (g - B).toNat = x' at *
      generalize Y * 2 ^ (g - B).toNat = y' at *
      unfold sg; cases s <;> simp <;> omega
theorem oppT (k : Nat) (s : Bool) (l : List Int) (e : Int) : verniertop_opposite k s l e = some (!s, (l, e)) := verniertop_opposite_eq k s l e
theorem versusT {B : Int} (hB : -5000 ≤ B ∧ B ≤ 5000) {s t : Bool} {l m : List Int} {e f v w : Int} (h : RepT B s l e v) (h' : RepT B t m f w) {p : Nat} (hp : p ≤ 20000) (hv : v.natAbs < 2 ^ p) (hw : w.natAbs < 2 ^ p) :
    Ev (fun k => verniertop_versus k s l e t m f) (sgn (v - w)) := by
  obtain ⟨s1, l1, e1, r1, r2⟩ := sumT hB h h'.neg hp hv (by rw [Int.natAbs_neg]; exact hw)
  have g := signT r2
  rw [← Int.sub_eq_add_neg] at g
  exact Ev.congr (fun k => verniertop_versus_eq k _ _ _ _ _ _) (Ev.bind (Ev.of fun k => oppT k _ _ _) (Ev.bind r1 (Ev.bind g (Ev.some _))))
section
variable {f : Int} {W P : Nat} {em ex : Int} (h : Fm f W P em ex)
include h
theorem layT (k : Nat) : verniertop_layout k f = some ((W : Int), ((P : Int), em)) := by
  rcases fm_cases h with ⟨rfl, rfl, rfl, rfl, rfl⟩ | ⟨rfl, rfl, rfl, rfl, rfl⟩ | ⟨rfl, rfl, rfl, rfl, rfl⟩ | ⟨rfl, rfl, rfl, rfl, rfl⟩ <;> rfl
theorem shl_i64 : shlK IntKind.i64 1 ((W - P : Nat) : Int) = ((2 ^ (W - P) : Nat) : Int) := by
  rcases fm_cases h with ⟨rfl, rfl, rfl, rfl, rfl⟩ | ⟨rfl, rfl, rfl, rfl, rfl⟩ | ⟨rfl, rfl, rfl, rfl, rfl⟩ | ⟨rfl, rfl, rfl, rfl, rfl⟩ <;> decide +kernel
omit h in
theorem maskT {n : Nat} (hn : n < 64) : IntKind.u64.wrap (shlK .u64 1 (n : Int) - 1) = ((2 ^ n - 1 : Nat) : Int) := by
  have hp := Nat.two_pow_pos n
  have hl : 2 ^ n < 2 ^ 64 := Nat.pow_lt_pow_right (by decide) hn
  have h64 : (2 : Nat) ^ 64 = 18446744073709551616 := rfl
  have e := shlK_exact 1 n (by omega) (by omega)
  rw [Nat.one_mul, show ((1 : Nat) : Int) = 1 from rfl] at e
  rw [e, show ((2 ^ n : Nat) : Int) - 1 = ((2 ^ n - 1 : Nat) : Int) by omega, u64n _ (by omega)]
theorem partsT {a : Nat} (ha : a < 2 ^ W) : (pk W a < infP W P → ∃ (l : List Int) (e : Int), Ev (fun k => verniertop_parts k f (a : Int)) (ps W a, ((0 : Int), (ps W a, (l, e)))) ∧ RepT (em - (P : Int) + 1) (ps W a) l e (sg (ps W a) (plV P (pk W a)))) ∧
    (infP W P ≤ pk W a → ∃ c : Int, c ≠ 0 ∧ Ev (fun k => verniertop_parts k f (a : Int)) (ps W a, (c, (false, (([] : List Int), (0 : Int)))))) := by
  have h1 := h.w64; have h8 := h.p8; have h3 := h.wp; have h53 := h.p53; have m0 := h.m0; have m1 := h.m1; have h11 := h.wp11
  obtain ⟨p1, p2, p3, p4, p5, p6⟩ := pat_parts h ha
  obtain ⟨f1, f2, f3⟩ := field_top h ha
  have hwp : 2 ^ (W - P) ≤ 2 ^ 11 := pow_mono2 (by omega)
  have h211 : (2 : Nat) ^ 11 = 2048 := rfl
  have hw5 := Nat.two_pow_pos (W - P)
  have hF := Nat.mod_lt (pk W a) (Nat.two_pow_pos (P - 1))
  have h52 : 2 ^ (P - 1) ≤ 2 ^ 52 := pow_mono2 (by omega)
  have h52' : (2 : Nat) ^ 52 = 4503599627370496 := rfl
  have eT : eTop W P = 2 ^ (W - P) - 1 := rfl
  have i1 : IntKind.i64.wrap ((W : Int) - 1) = ((W - 1 : Nat) : Int) := by rw [wrapI (by omega) (by omega)]; omega
  have i2 : IntKind.i64.wrap ((P : Int) - 1) = ((P - 1 : Nat) : Int) := by rw [wrapI (by omega) (by omega)]; omega
  have i3 : IntKind.i64.wrap ((W : Int) - (P : Int)) = ((W - P : Nat) : Int) := by rw [wrapI (by omega) (by omega)]; omega
  have i4 : IntKind.i64.wrap ((P : Int) - 2) = ((P - 2 : Nat) : Int) := by rw [wrapI (by omega) (by omega)]; omega
  have e1 : (andK IntKind.u64 (shrK IntKind.u64 (a : Int) ((W - 1 : Nat) : Int)) 1 == 1) = ps W a := by
    rw [shrK_nat a (W - 1) (by omega), andK_one _ (by have := Nat.div_le_self a (2 ^ (W - 1)); omega)]
    have hl : a / 2 ^ (W - 1) < 2 := Nat.div_lt_of_lt_mul (by rw [Nat.mul_comm, ← pow_half (P := W) (by omega)]; exact ha)
    rw [← p3, Nat.mod_eq_of_lt hl]
    generalize a / 2 ^ (W - 1) = z at *
    by_cases c : z = 0
    · rw [c]; rfl
    · rw [show z = 1 by omega]; rfl
  have e2 : andK IntKind.u64 (a : Int) (IntKind.u64.wrap (shlK IntKind.u64 1 ((P - 1 : Nat) : Int) - 1)) = ((pk W a % 2 ^ (P - 1) : Nat) : Int) := by
    rw [maskT (by omega), andK_mask a (P - 1) (by omega) p6, p2]
  have e3 : IntKind.i64.wrap (andK IntKind.u64 (shrK IntKind.u64 (a : Int) ((P - 1 : Nat) : Int)) (IntKind.u64.wrap (shlK IntKind.u64 1 ((W - P : Nat) : Int) - 1))) = ((pk W a / 2 ^ (P - 1) : Nat) : Int) := by
    rw [maskT (by omega), shrK_nat a (P - 1) (by omega), andK_mask _ (W - P) (by omega) (by have := Nat.div_le_self a (2 ^ (P - 1)); omega), p1, wrapI (by have := Int.natCast_nonneg (pk W a / 2 ^ (P - 1)); omega) (by omega)]
  have e4 : IntKind.i64.wrap (shlK IntKind.i64 1 ((W - P : Nat) : Int) - 1) = ((eTop W P : Nat) : Int) := by
    rw [shl_i64 h, eT, wrapI (by omega) (by omega)]; omega
  have e5 : IntKind.i64.wrap (IntKind.i64.wrap (em - (P : Int)) + 1) = em - (P : Int) + 1 := by rw [wrapI (x := em - (P : Int)) (by omega) (by omega), wrapI (by omega) (by omega)]
  have hv := plV_pat (P := P) (by omega) (pk W a)
  have start : ∀ {r}, Ev (fun k => verniertop_parts.j0 k (W : Int) (P : Int) em (ps W a) ((pk W a % 2 ^ (P - 1) : Nat) : Int) ((pk W a / 2 ^ (P - 1) : Nat) : Int) (decide (pk W a / 2 ^ (P - 1) = eTop W P) && (((pk W a % 2 ^ (P - 1) : Nat) : Int) == 0)) false 0) r → Ev (fun k => verniertop_parts k f (a : Int)) r := fun g => by
    refine Ev.congr (fun k => verniertop_parts_eq k _ _) (Ev.bind (Ev.of fun k => layT h k) ?_)
    dsimp only
    rw [i1, i2, i3, e1, e2, e3, e4]
    refine Ev.pos (by omega) (Ev.pos (by omega) (Ev.pos (by omega) (Ev.pos (by omega) (Ev.pos (by omega) ?_))))
    by_cases c : pk W a / 2 ^ (P - 1) = eTop W P
    · rw [decide_eq_true c, Bool.true_and] at g
      exact Ev.pos (bT (by rw [c])) g
    · rw [decide_eq_false c, Bool.false_and] at g
      exact Ev.neg (bF (by omega)) g
  generalize pk W a % 2 ^ (P - 1) = Fr at *
  generalize pk W a / 2 ^ (P - 1) = E at *
  refine ⟨fun hi => ?_, fun hi => ?_⟩
  · have hE : E ≠ eTop W P := fun e => by have := f1.1 e; omega
    rw [decide_eq_false hE, Bool.false_and] at start
    unfold fN fQ at hv
    by_cases c : E = 0
    · rw [if_pos c, if_pos c, Nat.pow_zero, Nat.mul_one] at hv
      refine ⟨d32 Fr, em - (P : Int) + 1, start (Ev.congr (fun k => verniertop_parts.j0_eq k _ _ _ _ _ _ _ _ _) ?_), Fr, rfl, by omega, by omega, ?_⟩
      · rw [i3, e4]
        refine Ev.neg (by simp) (Ev.pos (by omega) (Ev.neg (bF (by omega)) (Ev.congr (fun k => verniertop_parts.j1_eq k _ _ _ _ _ _ _ _ _) ?_)))
        rw [i3, e4, e5]
        exact Ev.neg (by simp) (Ev.pos (by omega) (Ev.neg (bF (by omega)) (Ev.pos (bT (by omega)) (Ev.bind (tnat_ev (by omega)) (Ev.some _)))))
      · rw [Int.sub_self, Int.toNat_zero, Nat.pow_zero, Nat.mul_one, hv]
    · rw [if_neg c, if_neg c] at hv
      have eo : orK IntKind.u64 (Fr : Int) (shlK IntKind.u64 1 ((P - 1 : Nat) : Int)) = ((Fr + 2 ^ (P - 1) : Nat) : Int) := by
        have e := shlK_exact 1 (P - 1) (by omega) (by omega)
        rw [Nat.one_mul, show ((1 : Nat) : Int) = 1 from rfl] at e
        rw [e, orK_add' _ _ (P - 1) hF (Nat.mod_self _) (by omega)]
      have e6 : IntKind.i64.wrap (IntKind.i64.wrap (em - (P : Int)) + (E : Int)) = em - (P : Int) + (E : Int) := by rw [wrapI (x := em - (P : Int)) (by omega) (by omega), wrapI (by omega) (by omega)]
      refine ⟨d32 (Fr + 2 ^ (P - 1)), em - (P : Int) + (E : Int), start (Ev.congr (fun k => verniertop_parts.j0_eq k _ _ _ _ _ _ _ _ _) ?_), Fr + 2 ^ (P - 1), rfl, by omega, by omega, ?_⟩
      · rw [i3, e4]
        refine Ev.neg (by simp) (Ev.pos (by omega) (Ev.neg (bF (by omega)) (Ev.congr (fun k => verniertop_parts.j1_eq k _ _ _ _ _ _ _ _ _) ?_)))
        rw [i3, e4]
        refine Ev.neg (by simp) (Ev.pos (by omega) (Ev.neg (bF (by omega)) (Ev.neg (bF (by omega)) (Ev.congr (fun k => verniertop_parts.j2_eq k _ _ _ _ _ _ _) ?_))))
        rw [i2, eo, e6]
        exact Ev.pos (by omega) (Ev.bind (tnat_ev (by omega)) (Ev.some _))
      · rw [← hv]; congr 3; omega
  · have hE : E = eTop W P := f1.2 hi
    rw [decide_eq_true hE, Bool.true_and] at start
    by_cases c : Fr = 0
    · exact ⟨1, by decide, start (Ev.congr (fun k => verniertop_parts.j0_eq k _ _ _ _ _ _ _ _ _) (Ev.pos (bT (by omega)) (Ev.some _)))⟩
    · have es := shrK_nat Fr (P - 2) (by omega)
      by_cases c2 : Fr / 2 ^ (P - 2) = 1
      · refine ⟨2, by decide, start (Ev.congr (fun k => verniertop_parts.j0_eq k _ _ _ _ _ _ _ _ _) (Ev.neg (bF (by omega)) ?_))⟩
        rw [i3, e4, i4, es]
        refine Ev.pos (by omega) (Ev.pos (bT (by omega)) (Ev.pos (by omega) (Ev.congr (fun k => verniertop_parts.j1_eq k _ _ _ _ _ _ _ _ _) (Ev.pos (bT (by rw [c2]; rfl)) (Ev.some _)))))
      · refine ⟨3, by decide, start (Ev.congr (fun k => verniertop_parts.j0_eq k _ _ _ _ _ _ _ _ _) (Ev.neg (bF (by omega)) ?_))⟩
        rw [i3, e4, i4, es]
        refine Ev.pos (by omega) (Ev.pos (bT (by omega)) (Ev.pos (by omega) (Ev.congr (fun k => verniertop_parts.j1_eq k _ _ _ _ _ _ _ _ _) ?_)))
        rw [i3, e4]
        exact Ev.neg (bF (by omega)) (Ev.pos (by omega) (Ev.pos (bT (by omega)) (Ev.some _)))
end
end Go.Proofs.YtldjheckpophaaaDoor.X
