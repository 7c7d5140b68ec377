/- Plain law: the reference's formats and its Round: the bits and the flags are the plain rounding's. Conditions: the format is one of the four, the lists are short, the exponent is moderate. -/
import Derived.Test.YtbaaggmicpigeaaGreatDoorRfB
import Derived.Test.YtbaaggmicpigeaaGreatDoorRoC
namespace Go.Proofs.YtbaaggmicpigeaaGreatDoor.X
open Go Go.Rex
set_option linter.unusedVariables false

/-! ### Where a quotient's first bit stands -/
theorem r_cross (A B : Nat) (e : Int) {q l : Int} (h : l ≤ q) : rA A e q * (rB B e l * p2 (q - l)) = rA A e l * rB B e q := by
  have h1 := p2_cross e q l
  rw [p2_neg (z := l - q) (by omega), Nat.mul_one] at h1
  unfold rA rB
  have e1 : A * p2 (e - q) * (B * p2 (l - e) * p2 (q - l)) = A * B * (p2 (e - q) * (p2 (l - e) * p2 (q - l))) := by grind
  have e2 : A * p2 (e - l) * (B * p2 (q - e)) = A * B * (p2 (e - l) * p2 (q - e)) := by grind
  rw [e1, e2, h1]
/-- The greatest T with 2^T at most the number. -/
structure TopAt (A B : Nat) (e T : Int) : Prop where
  lo : rB B e T ≤ rA A e T
  hi : rA A e T < 2 * rB B e T
theorem TopAt.blen {A B : Nat} {e T : Int} (hB : 0 < B) (h : TopAt A B e T) (l : Int) : blen (rA A e l / rB B e l) = (T + 1 - l).toNat := by
  have bl := rB_pos hB e l
  have bT := rB_pos hB e T
  rcases Int.lt_or_le T l with c | c
  · have hc := r_cross A B e (q := l) (l := T) (by omega)
    obtain ⟨x, hx⟩ : ∃ x : Nat, l - T = ((x + 1 : Nat) : Int) := ⟨(l - T - 1).toNat, by omega⟩
    rw [hx, p2_nat, Nat.pow_succ] at hc
    have h2 := Nat.mul_lt_mul_of_pos_right h.hi bl
    have hlt : rA A e l < rB B e l := by
      rcases Nat.lt_or_ge (rA A e l) (rB B e l) with g | g
      · exact g
      · exfalso
        have h3 : rB B e l * (rB B e T * 2) ≤ rA A e l * (rB B e T * (2 ^ x * 2)) := Nat.mul_le_mul g (Nat.mul_le_mul_left _ (by have := Nat.two_pow_pos x; omega))
        have e4 : rB B e l * (rB B e T * 2) = 2 * rB B e T * rB B e l := by grind
        omega
    rw [Nat.div_eq_of_lt hlt, blen_zero]; omega
  · have hc := r_cross A B e (q := T) (l := l) c
    obtain ⟨x, hx⟩ : ∃ x : Nat, T - l = (x : Int) := ⟨(T - l).toNat, by omega⟩
    rw [hx, p2_nat] at hc
    have lo : 2 ^ x ≤ rA A e l / rB B e l := by
      rw [Nat.le_div_iff_mul_le bl]
      have h1 := Nat.mul_le_mul_right (rB B e l * 2 ^ x) h.lo
      rw [hc, Nat.mul_comm (rB B e T)] at h1
      have := Nat.le_of_mul_le_mul_right h1 bT
      rw [Nat.mul_comm]; exact this
    have hi : rA A e l / rB B e l < 2 ^ (x + 1) := by
      rw [Nat.div_lt_iff_lt_mul bl]
      have h1 := Nat.mul_lt_mul_of_pos_right h.hi (Nat.mul_pos bl (Nat.two_pow_pos x))
      rw [hc] at h1
      have e2 : 2 * rB B e T * (rB B e l * 2 ^ x) = 2 ^ (x + 1) * rB B e l * rB B e T := by rw [Nat.pow_succ]; grind
      rw [e2] at h1
      exact Nat.lt_of_mul_lt_mul_right h1
    rw [blen_eq lo hi]; omega
theorem top_ex {A B : Nat} (hA : A ≠ 0) (hB : B ≠ 0) (e : Int) : (rB B e ((blen A : Int) - (blen B : Int) + e) ≤ rA A e ((blen A : Int) - (blen B : Int) + e) → TopAt A B e ((blen A : Int) - (blen B : Int) + e)) ∧
    (rA A e ((blen A : Int) - (blen B : Int) + e) < rB B e ((blen A : Int) - (blen B : Int) + e) → TopAt A B e ((blen A : Int) - (blen B : Int) + e - 1)) := by
  have a1 := blen_le hA
  have a2 := blen_lt A
  have a3 := blen_pos hA
  have b1 := blen_le hB
  have b2 := blen_lt B
  have b3 := blen_pos hB
  have key : ∀ z : Int, e - ((blen A : Int) - (blen B : Int) + e) = z → p2 z * 2 ^ blen A = p2 (-z) * 2 ^ blen B := by
    intro z hz
    unfold p2
    rw [← Nat.pow_add, ← Nat.pow_add]
    congr 1; omega
  have k := key _ rfl
  obtain ⟨x, hx⟩ : ∃ x, blen A = x + 1 := ⟨blen A - 1, by omega⟩
  obtain ⟨y, hy⟩ : ∃ y, blen B = y + 1 := ⟨blen B - 1, by omega⟩
  have k2 : p2 (e - ((blen A : Int) - (blen B : Int) + e)) * 2 ^ x = p2 (((blen A : Int) - (blen B : Int) + e) - e) * 2 ^ y := by
    rw [hx, hy, Nat.pow_succ, Nat.pow_succ, ← Nat.mul_assoc, ← Nat.mul_assoc] at k
    have := Nat.eq_of_mul_eq_mul_right (by decide) k
    rw [hx, hy, this]
    congr 2; omega
  have up : rA A e ((blen A : Int) - (blen B : Int) + e) < 2 * rB B e ((blen A : Int) - (blen B : Int) + e) := by
    unfold rA rB
    have h1 : A * p2 (e - ((blen A : Int) - (blen B : Int) + e)) < 2 ^ (x + 1) * p2 (e - ((blen A : Int) - (blen B : Int) + e)) := Nat.mul_lt_mul_of_pos_right (by rw [← hx]; exact a2) (p2_pos _)
    have h2 : 2 ^ y * p2 (((blen A : Int) - (blen B : Int) + e) - e) ≤ B * p2 (((blen A : Int) - (blen B : Int) + e) - e) := Nat.mul_le_mul_right _ (by rw [show y = blen B - 1 by omega]; exact b1)
    rw [Nat.pow_succ] at h1
    have e1 : 2 ^ x * 2 * p2 (e - ((blen A : Int) - (blen B : Int) + e)) = 2 * (p2 (e - ((blen A : Int) - (blen B : Int) + e)) * 2 ^ x) := by grind
    rw [e1, k2, Nat.mul_comm _ (2 ^ y)] at h1
    omega
  refine ⟨fun h => ⟨h, up⟩, fun h => ?_⟩
  -- one place lower
  have hc := r_cross A B e (q := (blen A : Int) - (blen B : Int) + e) (l := (blen A : Int) - (blen B : Int) + e - 1) (by omega)
  rw [show (blen A : Int) - (blen B : Int) + e - ((blen A : Int) - (blen B : Int) + e - 1) = ((1 : Nat) : Int) by omega, p2_nat, Nat.pow_one] at hc
  have lo0 : rB B e ((blen A : Int) - (blen B : Int) + e) ≤ 2 * rA A e ((blen A : Int) - (blen B : Int) + e) := by
    unfold rA rB
    have h1 : 2 ^ x * p2 (e - ((blen A : Int) - (blen B : Int) + e)) ≤ A * p2 (e - ((blen A : Int) - (blen B : Int) + e)) := Nat.mul_le_mul_right _ (by rw [show x = blen A - 1 by omega]; exact a1)
    have h2 : B * p2 (((blen A : Int) - (blen B : Int) + e) - e) ≤ 2 ^ (y + 1) * p2 (((blen A : Int) - (blen B : Int) + e) - e) := Nat.mul_le_mul_right _ (by rw [← hy]; exact Nat.le_of_lt b2)
    rw [Nat.pow_succ] at h2
    have e1 : 2 ^ y * 2 * p2 (((blen A : Int) - (blen B : Int) + e) - e) = 2 * (p2 (((blen A : Int) - (blen B : Int) + e) - e) * 2 ^ y) := by grind
    rw [e1, ← k2, Nat.mul_comm _ (2 ^ x)] at h2
    omega
  have bq := rB_pos (Nat.pos_of_ne_zero hB) e ((blen A : Int) - (blen B : Int) + e)
  have bl := rB_pos (Nat.pos_of_ne_zero hB) e ((blen A : Int) - (blen B : Int) + e - 1)
  generalize rA A e ((blen A : Int) - (blen B : Int) + e) = u at *
  generalize rB B e ((blen A : Int) - (blen B : Int) + e) = v at *
  constructor
  · generalize rA A e ((blen A : Int) - (blen B : Int) + e - 1) = u' at *
    generalize rB B e ((blen A : Int) - (blen B : Int) + e - 1) = v' at *
    have h1 : v' * v ≤ u' * v := by
      rw [← hc]
      have := Nat.mul_le_mul_left v' lo0
      have e3 : u * (v' * 2) = v' * (2 * u) := by grind
      omega
    exact Nat.le_of_mul_le_mul_right h1 bq
  · generalize rA A e ((blen A : Int) - (blen B : Int) + e - 1) = u' at *
    generalize rB B e ((blen A : Int) - (blen B : Int) + e - 1) = v' at *
    have h1 : u' * v < 2 * v' * v := by
      rw [← hc]
      have := Nat.mul_lt_mul_of_pos_right h (show 0 < v' * 2 by omega)
      have e3 : v * (v' * 2) = 2 * v' * v := by grind
      omega
    exact Nat.lt_of_mul_lt_mul_right h1
/-- Tiny, by the bits at the number's own last place. -/
theorem tiny_iff {A B : Nat} {e T em : Int} {P : Nat} (hP : 2 ≤ P) (hB : 0 < B) (h : TopAt A B e T) (m : Int) (neg : Bool) :
    ((blen (cutN m neg (rA A e (T - (P : Int) + 1)) (rB B e (T - (P : Int) + 1))) : Int) + (T - (P : Int) + 1) ≤ em) ↔ tinyB P m neg (rA A e (em - (P : Int) + 1)) (rB B e (em - (P : Int) + 1)) = true := by
  have hq := h.blen hB (em - (P : Int) + 1)
  have hqb := h.blen hB (T - (P : Int) + 1)
  have bl := rB_pos hB e (em - (P : Int) + 1)
  have bq := rB_pos hB e (T - (P : Int) + 1)
  have h2 := pow_half (P := P) (by omega)
  have hp := Nat.two_pow_pos (P - 1)
  have hAB : rA A e (em - (P : Int) + 1) < rB B e (em - (P : Int) + 1) * 2 ^ (P - 1) ↔ T < em := by
    rw [Nat.mul_comm, ← Nat.div_lt_iff_lt_mul bl, ← blen_le_iff, hq]; omega
  rw [show (T + 1 - (T - (P : Int) + 1)).toNat = P by omega] at hqb
  have hu1 : 2 ^ (P - 1) ≤ rA A e (T - (P : Int) + 1) / rB B e (T - (P : Int) + 1) := by
    have := blen_le (n := rA A e (T - (P : Int) + 1) / rB B e (T - (P : Int) + 1)) (by rintro e0; rw [e0, blen_zero] at hqb; omega)
    rwa [hqb] at this
  have hu2 : rA A e (T - (P : Int) + 1) / rB B e (T - (P : Int) + 1) < 2 ^ P := blen_le_iff.1 (by omega)
  have hv1 := chs_ge m neg (rA A e (T - (P : Int) + 1) / rB B e (T - (P : Int) + 1)) (lft (rA A e (T - (P : Int) + 1) % rB B e (T - (P : Int) + 1)) (rB B e (T - (P : Int) + 1)))
  have hv2 := chs_le m neg (rA A e (T - (P : Int) + 1) / rB B e (T - (P : Int) + 1)) (lft (rA A e (T - (P : Int) + 1) % rB B e (T - (P : Int) + 1)) (rB B e (T - (P : Int) + 1)))
  have hcr : T + 1 = em → cutN m neg (rA A e (T - (P : Int) + 1)) (rB B e (T - (P : Int) + 1)) = cutN m neg (2 * rA A e (em - (P : Int) + 1)) (rB B e (em - (P : Int) + 1)) := by
    intro g
    have hc := r_cross A B e (q := em - (P : Int) + 1) (l := T - (P : Int) + 1) (by omega)
    rw [show em - (P : Int) + 1 - (T - (P : Int) + 1) = ((1 : Nat) : Int) by omega, p2_nat, Nat.pow_one] at hc
    refine cutN_cross m neg bq bl ?_
    rw [← hc]; grind
  have hlow : T + 1 < em → cutN m neg (2 * rA A e (em - (P : Int) + 1)) (rB B e (em - (P : Int) + 1)) < 2 ^ P := by
    intro g
    have : 2 * rA A e (em - (P : Int) + 1) / rB B e (em - (P : Int) + 1) < 2 ^ (P - 1) := by
      have g1 : rA A e (em - (P : Int) + 1) / rB B e (em - (P : Int) + 1) < 2 ^ (P - 2) := by
        rw [← blen_le_iff, hq]; omega
      rw [Nat.div_lt_iff_lt_mul bl] at g1 ⊢
      rw [show P - 1 = (P - 2) + 1 by omega, Nat.pow_succ, Nat.mul_comm (2 ^ (P - 2)) 2, Nat.mul_assoc]
      omega
    have c1 := chs_le m neg (2 * rA A e (em - (P : Int) + 1) / rB B e (em - (P : Int) + 1)) (lft (2 * rA A e (em - (P : Int) + 1) % rB B e (em - (P : Int) + 1)) (rB B e (em - (P : Int) + 1)))
    unfold cutN
    omega
  have hv1' : 2 ^ (P - 1) ≤ cutN m neg (rA A e (T - (P : Int) + 1)) (rB B e (T - (P : Int) + 1)) := by unfold cutN; omega
  have hv2' : cutN m neg (rA A e (T - (P : Int) + 1)) (rB B e (T - (P : Int) + 1)) ≤ 2 ^ P := by unfold cutN; omega
  clear hv1 hv2
  unfold tinyB
  rw [Bool.and_eq_true, decide_eq_true_eq, decide_eq_true_eq, hAB]
  generalize cutN m neg (rA A e (T - (P : Int) + 1)) (rB B e (T - (P : Int) + 1)) = v at *
  generalize cutN m neg (2 * rA A e (em - (P : Int) + 1)) (rB B e (em - (P : Int) + 1)) = v' at *
  have hbv : (blen v = P ∧ v < 2 ^ P) ∨ (blen v = P + 1 ∧ v = 2 ^ P) := by
    rcases Nat.lt_or_ge v (2 ^ P) with g | g
    · left
      have := blen_eq (n := v) (k := P - 1) hv1' (by rw [show P - 1 + 1 = P by omega]; exact g)
      exact ⟨by omega, g⟩
    · right
      have g2 : v = 2 ^ P := by omega
      exact ⟨by rw [g2]; exact blen_eq (Nat.le_refl _) (Nat.pow_lt_pow_right (by decide) (by omega)), g2⟩
  constructor
  · intro g
    refine ⟨by omega, ?_⟩
    by_cases g2 : T + 1 = em
    · rw [← hcr g2]; omega
    · exact hlow (by omega)
  · rintro ⟨g1, g2⟩
    by_cases g3 : T + 1 = em
    · rw [← hcr g3] at g2; omega
    · omega

/-! ### The reference's formats -/
section
variable {f : Int} {W P : Nat} {em ex : Int} (h : Fm f W P em ex)
include h
theorem row_at (k : Nat) : vernierref04_Row k f = some ((W : Int), ((P : Int), (em, (ex, true)))) := by
  rw [vernierref04_Row_eq]
  rcases fm_cases h with ⟨rfl, rfl, rfl, rfl, rfl⟩ | ⟨rfl, rfl, rfl, rfl, rfl⟩ | ⟨rfl, rfl, rfl, rfl, rfl⟩ | ⟨rfl, rfl, rfl, rfl, rfl⟩ <;> rfl
theorem make_at (k : Nat) (neg : Bool) {E F : Nat} (hE : E < 2 ^ (W - P)) (hF : F < 2 ^ (P - 1)) : vernierref04_Make k f (if neg then 1 else 0) (E : Int) (F : Int) = some ((E * 2 ^ (P - 1) + F + sgB neg W : Nat) : Int) := by
  have h1 := h.w64; have h2 := h.p8; have h3 := h.wp; have h4 := h.p53
  obtain ⟨w1, w2, w3, w4⟩ := wW h
  have e1 : IntKind.u64.wrap (IntKind.i64.wrap ((W : Int) - 1)) = ((W - 1 : Nat) : Int) := by rw [wrapI (by omega) (by omega), wrap_u64]; omega
  have e2 : IntKind.u64.wrap (IntKind.i64.wrap ((P : Int) - 1)) = ((P - 1 : Nat) : Int) := by rw [wrapI (by omega) (by omega), wrap_u64]; omega
  have hpw : 2 ^ (W - 1) = 2 ^ (W - P) * 2 ^ (P - 1) := by rw [← Nat.pow_add]; congr 1; omega
  have hm : E * 2 ^ (P - 1) + 2 ^ (P - 1) ≤ 2 ^ (W - 1) := by
    have := Nat.mul_le_mul_right (2 ^ (P - 1)) (show E + 1 ≤ 2 ^ (W - P) from hE)
    rw [Nat.add_mul, Nat.one_mul] at this; omega
  have s1 := shlK_exact E (P - 1) (by omega) (by omega)
  have hs : shlK .u64 (if neg then 1 else 0) ((W - 1 : Nat) : Int) = ((sgB neg W : Nat) : Int) := by
    cases neg
    · have := shlK_exact 0 (W - 1) (by omega) (by omega)
      rw [Nat.zero_mul] at this
      exact this
    · have := shlK_exact 1 (W - 1) (by omega) (by omega)
      rw [Nat.one_mul] at this
      exact this
  have hsg : sgB neg W % 2 ^ (W - 1) = 0 := by cases neg; exact Nat.zero_mod _; exact Nat.mod_self _
  have hsl := sgB_le W neg
  have hpd : 2 ^ (P - 1) ∣ 2 ^ (W - 1) := ⟨2 ^ (W - P), by rw [hpw, Nat.mul_comm]⟩
  have o1 := orK_add (sgB neg W) (E * 2 ^ (P - 1)) (W - 1) (by omega) hsg (by omega)
  have o2 := orK_add (sgB neg W + E * 2 ^ (P - 1)) F (P - 1) hF (by
    rw [Nat.add_mod, Nat.mul_mod_left]
    have : sgB neg W % 2 ^ (P - 1) = 0 := by
      have := Nat.mod_mod_of_dvd (sgB neg W) hpd
      rw [hsg] at this; rw [← this]; exact Nat.zero_mod _
    rw [this]; exact Nat.zero_mod _) (by omega)
  rw [vernierref04_Make_eq, row_at h, Option.bind_some]
  show (if 0 ≤ IntKind.u64.wrap (IntKind.i64.wrap ((W : Int) - 1)) then (if 0 ≤ IntKind.u64.wrap (IntKind.i64.wrap ((P : Int) - 1)) then some (orK IntKind.u64 (orK IntKind.u64 (shlK IntKind.u64 (if neg then 1 else 0) (IntKind.u64.wrap (IntKind.i64.wrap ((W : Int) - 1)))) (shlK IntKind.u64 (E : Int) (IntKind.u64.wrap (IntKind.i64.wrap ((P : Int) - 1))))) (F : Int)) else none) else none) = _
  rw [e1, e2, if_pos (by omega), if_pos (by omega), hs, s1, o1, o2]
  congr 2; omega
omit h in
theorem rsign_at (k : Nat) (neg : Bool) : vernierref05_sign k neg = some (if neg then 1 else 0) := by
  rw [vernierref05_sign_eq]; cases neg <;> rfl
theorem rzero_at (k : Nat) (neg : Bool) : vernierref04_Zero k f (if neg then 1 else 0) = some ((sgB neg W : Nat) : Int) := by
  have := make_at h k neg (E := 0) (F := 0) (Nat.two_pow_pos _) (Nat.two_pow_pos _)
  rw [show ((0 : Nat) : Int) = 0 from rfl] at this
  rw [vernierref04_Zero_eq, this, Option.bind_some, Nat.zero_mul, Nat.zero_add]
theorem rinf_at (k : Nat) (neg : Bool) : vernierref04_Inf k f (if neg then 1 else 0) = some ((infP W P + sgB neg W : Nat) : Int) := by
  obtain ⟨x1, x2, x3⟩ := fm_ex h
  have m0 := h.m0
  have m1 := h.m1
  have := make_at h k neg (E := eTop W P) (F := 0) (eTop_lt W P) (Nat.two_pow_pos _)
  rw [show ((0 : Nat) : Int) = 0 from rfl] at this
  rw [vernierref04_Inf_eq, row_at h, Option.bind_some]
  have e1 : IntKind.u64.wrap (IntKind.i64.wrap ((IntKind.i64.wrap (2 * ex)) + 1)) = ((eTop W P : Nat) : Int) := by
    rw [wrapI (x := 2 * ex) (by omega) (by omega), wrapI (by omega) (by omega), wrap_u64, x3]; omega
  show ((vernierref04_Make k f (if neg then 1 else 0) (IntKind.u64.wrap (IntKind.i64.wrap ((IntKind.i64.wrap (2 * ex)) + 1))) 0)).bind (fun o1 => some o1) = _
  rw [e1, this, Option.bind_some, Nat.add_zero]
  rfl
theorem rgreat_at (k : Nat) (neg : Bool) : vernierref04_Greatest k f (if neg then 1 else 0) = some ((infP W P - 1 + sgB neg W : Nat) : Int) := by
  obtain ⟨x1, x2, x3⟩ := fm_ex h
  have m0 := h.m0
  have m1 := h.m1
  have h2 := h.p8
  have h4 := h.p53
  have hl := eTop_le h
  have hp := Nat.two_pow_pos (P - 1)
  have hq : 2 ^ (P - 1) < 18446744073709551616 := Nat.pow_lt_pow_right (m := P - 1) (n := 64) (by decide) (by omega)
  have s1 := shlK_exact 1 (P - 1) (by omega) (by omega)
  rw [show ((1 : Nat) : Int) = 1 from rfl, Nat.one_mul] at s1
  have mk := make_at h k neg (E := eTop W P - 1) (F := 2 ^ (P - 1) - 1) (by have := eTop_lt W P; omega) (by omega)
  rw [vernierref04_Greatest_eq, row_at h, Option.bind_some]
  have e1 : IntKind.u64.wrap (IntKind.i64.wrap (2 * ex)) = ((eTop W P - 1 : Nat) : Int) := by
    rw [wrapI (by omega) (by omega), wrap_u64, x3]; omega
  have e2 : IntKind.u64.wrap (IntKind.i64.wrap ((P : Int) - 1)) = ((P - 1 : Nat) : Int) := by rw [wrapI (by omega) (by omega), wrap_u64]; omega
  have e3 : IntKind.u64.wrap (((2 ^ (P - 1) : Nat) : Int) - 1) = ((2 ^ (P - 1) - 1 : Nat) : Int) := by rw [wrap_u64]; omega
  show (if 0 ≤ IntKind.u64.wrap (IntKind.i64.wrap ((P : Int) - 1)) then ((vernierref04_Make k f (if neg then 1 else 0) (IntKind.u64.wrap (IntKind.i64.wrap (2 * ex))) (IntKind.u64.wrap ((shlK IntKind.u64 1 (IntKind.u64.wrap (IntKind.i64.wrap ((P : Int) - 1)))) - 1)))).bind (fun o1 => some o1) else none) = _
  rw [e1, e2, if_pos (by omega), s1, e3, mk, Option.bind_some]
  have e4 : (eTop W P - 1) * 2 ^ (P - 1) + (2 ^ (P - 1) - 1) = infP W P - 1 := by
    unfold infP
    obtain ⟨x, hx⟩ : ∃ x, eTop W P = x + 1 := ⟨eTop W P - 1, by omega⟩
    rw [hx, show x + 1 - 1 = x by omega, Nat.add_mul]; omega
  rw [e4]
theorem rbeyond_at (k : Nat) (m : Int) (neg : Bool) : vernierref05_Beyond k f m neg = some ((beyN W P m neg : Nat) : Int) := by
  have j0 : ∀ b : Bool, vernierref05_Beyond.j0 k f neg b = some (((if b then infP W P else infP W P - 1) + sgB neg W : Nat) : Int) := by
    intro b
    rw [vernierref05_Beyond.j0_eq]
    cases b
    · rw [if_neg (by simp), rsign_at, Option.bind_some, rgreat_at h, Option.bind_some, if_neg (by simp)]
    · rw [if_pos rfl, rsign_at, Option.bind_some, rinf_at h, Option.bind_some, if_pos rfl]
  rw [vernierref05_Beyond_eq]
  unfold beyN toInf
  by_cases c0 : m = 0
  · subst c0; rw [if_pos (bT rfl), j0]; simp
  · rw [if_neg (bF c0)]
    by_cases c1 : m = 1
    · subst c1; rw [if_pos (bT rfl), j0]; simp
    · rw [if_neg (bF c1)]
      by_cases c3 : m = 3
      · subst c3
        rw [if_pos (bT rfl)]
        cases neg
        · rw [if_pos (show (!false) = true from rfl), j0]; simp
        · rw [if_neg (by simp), if_neg (bF (by decide)), j0]; simp
      · rw [if_neg (bF c3)]
        by_cases c4 : m = 4
        · subst c4; rw [if_pos (bT rfl), j0]; simp
        · rw [if_neg (bF c4), j0]; simp [c0, c1, c3, c4]
end
/-! ### places, Top, chosen, Round -/
theorem lft_cmp {r d : Nat} (hr : r ≠ 0) : IntKind.i64.wrap (2 + cmpN (r * 2) d) = ((lft r d : Nat) : Int) := by
  unfold cmpN lft
  rw [if_neg hr]
  by_cases c1 : 2 * r < d
  · rw [if_pos (show r * 2 < d by omega), if_pos c1]; rfl
  · rw [if_neg (show ¬ (r * 2 < d) by omega), if_neg c1]
    by_cases c2 : 2 * r = d
    · rw [if_neg (show ¬ (d < r * 2) by omega), if_pos c2]; rfl
    · rw [if_pos (show d < r * 2 by omega), if_neg c2]; rfl
section
variable {a b : List Int} (ha : WF a) (hb : WF b) (la : a.length ≤ 4000) (lb : b.length ≤ 4000) (hB : val b ≠ 0) {e : Int} (he : -300000 ≤ e ∧ e ≤ 300000)
include ha hb la lb hB he
theorem places_ev {q : Int} (hq : -800000 ≤ q ∧ q ≤ 800000) (neg : Bool) : Ev (fun k => vernierref05_places k neg a b e q) (digs (rA (val a) e q / rB (val b) e q), ((lftN (rA (val a) e q) (rB (val b) e q) : Nat) : Int)) := by
  have La : Lb a := by unfold Lb; omega
  have Lb' : Lb b := by unfold Lb; omega
  have sa := size_le a ha
  have sb := size_le b hb
  refine Ev.congr (fun k => vernierref05_places_eq k _ _ _ _ _) ?_
  -- what comes behind the division
  have tail : ∀ {A B : Nat} {bl : List Int}, WF bl → val bl = B → Lb bl → B ≠ 0 → (digs B).length ≤ 30000 → Ev (fun k => (if ((digs (A % B)).length : Int) == 0 then some (digs (A / B), (0 : Int)) else ((vernierref02_Up k (digs (A % B)) 1)).bind fun o2 => ((vernierref02_Cmp k o2 bl)).bind fun o3 => some (digs (A / B), (IntKind.i64.wrap (2 + o3))))) (digs (A / B), ((lftN A B : Nat) : Int)) := by
    intro A B bl hw hv hl h0 hlen
    unfold lftN
    have hm := Nat.mod_lt A (Nat.pos_of_ne_zero h0)
    generalize A / B = u
    generalize A % B = r at *
    by_cases c : r = 0
    · rw [c, digs_zero]
      exact Ev.pos (bT rfl) (Ev.eq (Ev.some _) (by unfold lft; rfl))
    · have hp := digs_len_pos.2 c
      have hrl : (digs r).length ≤ 30000 := Nat.le_trans (digs_len_mono (Nat.le_of_lt hm)) hlen
      have up := rUp_ev (a := digs r) (WF.digs _) (by unfold Lb; omega) (t := 1) (by decide) (by rw [val_digs]; omega)
      rw [val_digs, Nat.pow_one] at up
      have h2 : (digs (r * 2)).length ≤ 30001 := by
        have t := sum_len_ (x := r) (y := r) hrl hrl
        rw [show r + r = r * 2 by omega] at t
        exact t
      have cm := rCmp_ev (a := digs (r * 2)) (b := bl) (WF.digs _) hw (by unfold Lb; omega) hl
      rw [val_digs, hv] at cm
      refine Ev.neg (bF (by omega)) (Ev.bind up (Ev.bind cm (Ev.eq (Ev.some _) ?_)))
      rw [lft_cmp c]
  by_cases c : q ≤ e
  · obtain ⟨x, hx⟩ : ∃ x : Nat, e - q = (x : Int) := ⟨(e - q).toNat, by omega⟩
    have e1 : rA (val a) e q = val a * 2 ^ x := by unfold rA; rw [hx, p2_nat]
    have e2 : rB (val b) e q = val b := by unfold rB; rw [p2_neg (by omega), Nat.mul_one]
    rw [e1, e2, wrapI (x := e - q) (by omega) (by omega), hx]
    have up := rUp_ev (a := a) ha La (t := x) (by omega) (by omega)
    have hl := shl_len_ (n := x) sa
    have dv := rDivide_ev (a := digs (val a * 2 ^ x)) (b := b) (WF.digs _) hb (by unfold Lb; omega) Lb' hB (by omega)
    rw [val_digs] at dv
    exact Ev.pos (dT c) (Ev.bind up (Ev.bind dv (tail hb rfl Lb' hB (by omega))))
  · obtain ⟨x, hx⟩ : ∃ x : Nat, q - e = (x : Int) := ⟨(q - e).toNat, by omega⟩
    have e1 : rA (val a) e q = val a := by unfold rA; rw [p2_neg (by omega), Nat.mul_one]
    have e2 : rB (val b) e q = val b * 2 ^ x := by unfold rB; rw [hx, p2_nat]
    rw [e1, e2, wrapI (x := q - e) (by omega) (by omega), hx]
    have up := rUp_ev (a := b) hb Lb' (t := x) (by omega) (by omega)
    have hl := shl_len_ (n := x) sb
    have hne : val b * 2 ^ x ≠ 0 := by have := Nat.mul_pos (Nat.pos_of_ne_zero hB) (Nat.two_pow_pos x); omega
    have dv := rDivide_ev (a := a) (b := digs (val b * 2 ^ x)) ha (WF.digs _) La (by unfold Lb; omega) (by rw [val_digs]; exact hne) (by rw [val_digs]; omega)
    rw [val_digs] at dv
    exact Ev.neg (dF c) (Ev.bind up (Ev.bind dv (tail (WF.digs _) (val_digs _) (by unfold Lb; omega) hne (by omega))))
theorem top_ev (hA : val a ≠ 0) (neg : Bool) : ∃ T, TopAt (val a) (val b) e T ∧ -600000 ≤ T ∧ T ≤ 600000 ∧ Ev (fun k => vernierref05_Top k neg a b e) T := by
  have La : Lb a := by unfold Lb; omega
  have Lb' : Lb b := by unfold Lb; omega
  have sa := size_le a ha
  have sb := size_le b hb
  have ba := blen_len sa
  have bb := blen_len sb
  obtain ⟨t1, t2⟩ := top_ex hA hB e
  have e1 : IntKind.i64.wrap ((IntKind.i64.wrap ((blen (val a) : Int) - (blen (val b) : Int))) + e) = (blen (val a) : Int) - (blen (val b) : Int) + e := by
    rw [wrapI (x := (blen (val a) : Int) - (blen (val b) : Int)) (by omega) (by omega), wrapI (by omega) (by omega)]
  have pl := places_ev ha hb la lb hB he (q := (blen (val a) : Int) - (blen (val b) : Int) + e) (by omega) neg
  have bq := rB_pos (Nat.pos_of_ne_zero hB) e ((blen (val a) : Int) - (blen (val b) : Int) + e)
  have start : ∀ T : Int, Ev (fun k => (if ((digs (rA (val a) e ((blen (val a) : Int) - (blen (val b) : Int) + e) / rB (val b) e ((blen (val a) : Int) - (blen (val b) : Int) + e))).length : Int) == 0 then some (IntKind.i64.wrap ((blen (val a) : Int) - (blen (val b) : Int) + e - 1)) else some ((blen (val a) : Int) - (blen (val b) : Int) + e))) T → Ev (fun k => vernierref05_Top k neg a b e) T := by
    intro T hT
    refine Ev.congr (fun k => vernierref05_Top_eq k _ _ _ _) (Ev.bind (rLen_ev ha La) (Ev.bind (rLen_ev hb Lb') ?_))
    rw [e1]
    exact Ev.bind pl hT
  by_cases c : rA (val a) e ((blen (val a) : Int) - (blen (val b) : Int) + e) < rB (val b) e ((blen (val a) : Int) - (blen (val b) : Int) + e)
  · refine ⟨_, t2 c, by omega, by omega, start _ (Ev.pos (bT ?_) (Ev.eq (Ev.some _) ?_))⟩
    · rw [Nat.div_eq_of_lt c, digs_zero]; rfl
    · rw [wrapI (by omega) (by omega)]
  · have hd : rA (val a) e ((blen (val a) : Int) - (blen (val b) : Int) + e) / rB (val b) e ((blen (val a) : Int) - (blen (val b) : Int) + e) ≠ 0 := by
      have := Nat.div_pos (Nat.le_of_not_lt c) bq; omega
    have := digs_len_pos.2 hd
    exact ⟨_, t1 (Nat.le_of_not_lt c), by omega, by omega, start _ (Ev.neg (bF (by omega)) (Ev.some _))⟩
end
theorem chosen_ev {u l : Nat} (hu : (digs u).length ≤ 100000) (hl : l ≤ 3) (m : Int) (neg : Bool) : Ev (fun k => vernierref05_chosen k m neg (digs u) (l : Int)) (digs (chs m neg u l)) := by
  have bt := rBit_ev (a := digs u) (WF.digs _) 0 (by decide)
  rw [val_digs, Nat.pow_zero, Nat.div_one] at bt
  have h1w : val ((List.replicate 1 (0 : Int)).set 0 1) = 1 := rfl
  have l1 := one_len
  have ad := rAdd_ev (a := digs u) (b := (List.replicate 1 (0 : Int)).set 0 1) (WF.digs _) (WF.cons (by decide) (by decide) WF.nil) (by unfold Lb; omega) (by unfold Lb; simp) (by rw [val_digs]; omega) (by rw [h1w]; omega)
  rw [val_digs, h1w] at ad
  have j0 : ∀ b : Bool, b = ups m neg (u % 2 == 1) l ∨ l = 0 → Ev (fun k => vernierref05_chosen.j0 k (digs u) (l : Int) b) (digs (chs m neg u l)) := by
    intro b hb
    refine Ev.congr (fun k => vernierref05_chosen.j0_eq k _ _ _) ?_
    unfold chs
    by_cases c : l = 0
    · subst c
      rw [if_neg (show ¬ (0 < 0 ∧ _) from fun g => by omega)]
      exact Ev.neg (dF (by decide)) (Ev.some _)
    · have hb : b = ups m neg (u % 2 == 1) l := by rcases hb with g | g; exact g; exact absurd g c
      refine Ev.pos (dT (by omega)) ?_
      by_cases cu : ups m neg (u % 2 == 1) l = true
      · rw [if_pos (show 0 < l ∧ _ from ⟨by omega, cu⟩), hb, cu]
        exact Ev.pos rfl (Ev.bind ad (Ev.some _))
      · rw [if_neg (show ¬ (0 < l ∧ _) from fun g => cu g.2)]
        exact Ev.neg (by rw [hb]; exact cu) (Ev.some _)
  have eo : ((((u % 2 : Nat) : Int)) == 1) = (u % 2 == 1) := by
    by_cases c : u % 2 = 1
    · rw [c]; rfl
    · rw [show u % 2 = 0 by omega]; rfl
  refine Ev.congr (fun k => vernierref05_chosen_eq k _ _ _ _) (Ev.bind bt ?_)
  rw [eo]
  by_cases c0 : m = 0
  · subst c0
    refine Ev.pos (bT rfl) ?_
    by_cases l3 : l = 3
    · subst l3; exact Ev.pos (bT rfl) (j0 _ (.inl (by simp [ups])))
    · refine Ev.neg (bF (by omega)) ?_
      by_cases l2 : l = 2
      · subst l2; exact Ev.pos (bT rfl) (j0 _ (.inl (by simp [ups])))
      · refine Ev.neg (bF (by omega)) (j0 _ (.inl ?_))
        simp [ups, l3, l2]
  · refine Ev.neg (bF c0) ?_
    by_cases c1 : m = 1
    · subst c1
      refine Ev.pos (bT rfl) (j0 _ (.inl ?_))
      by_cases g : 2 ≤ l
      · rw [decide_eq_true (show (l : Int) ≥ 2 by omega)]; simp [ups, g]
      · rw [decide_eq_false (show ¬ ((l : Int) ≥ 2) by omega)]; simp [ups, g]
    · refine Ev.neg (bF c1) ?_
      by_cases c3 : m = 3
      · subst c3; exact Ev.pos (bT rfl) (j0 _ (.inl (by simp [ups])))
      · refine Ev.neg (bF c3) ?_
        by_cases c4 : m = 4
        · subst c4; exact Ev.pos (bT rfl) (j0 _ (.inl (by simp [ups])))
        · refine Ev.neg (bF c4) ?_
          by_cases c5 : m = 5
          · subst c5; exact Ev.pos (bT rfl) (j0 _ (.inl (by simp [ups])))
          · exact Ev.neg (bF c5) (j0 _ (.inl (by simp [ups, c0, c1, c3, c4, c5])))
section
variable {f : Int} {W P : Nat} {em ex : Int} (h : Fm f W P em ex) {a b : List Int} (ha : WF a) (hb : WF b) (la : a.length ≤ 4000) (lb : b.length ≤ 4000) (hB : val b ≠ 0) {e : Int} (he : -300000 ≤ e ∧ e ≤ 300000)
include h ha hb la lb hB he
theorem Round_ev (m : Int) (neg : Bool) : Ev (fun k => vernierref05_Round k f m neg a b e) (if val a = 0 then (((sgB neg W : Nat) : Int), (0 : Int)) else rnOut W P m neg (rA (val a) e (em - (P : Int) + 1)) (rB (val b) e (em - (P : Int) + 1))) := by
  have La : Lb a := by unfold Lb; omega
  have Lb' : Lb b := by unfold Lb; omega
  have h8 := h.p8
  have h5 := h.p53
  have hwp := h.wp
  have hw64 := h.w64
  have m0 := h.m0
  have m1 := h.m1
  obtain ⟨x1, x2, x3⟩ := fm_ex h
  refine Ev.congr (fun k => vernierref05_Round_eq k _ _ _ _ _ _) (Ev.bind (rTrim_ev ha La) ?_)
  by_cases c0 : val a = 0
  · rw [if_pos c0]
    exact Ev.pos (bT (by rw [c0, digs_zero]; rfl)) (Ev.bind (ev_of fun k => rsign_at k neg) (Ev.bind (ev_of fun k => rzero_at h k neg) (Ev.some _)))
  · have hpa := digs_len_pos.2 c0
    rw [if_neg c0]
    obtain ⟨T, hT, T0, T1, hTev⟩ := top_ev ha hb la lb hB he c0 neg
    have Bp := Nat.pos_of_ne_zero hB
    refine Ev.neg (bF (by omega)) (Ev.bind (ev_of fun k => row_at h k) (Ev.bind hTev ?_))
    have el : IntKind.i64.wrap ((IntKind.i64.wrap (em - (P : Int))) + 1) = em - (P : Int) + 1 := by
      rw [wrapI (x := em - (P : Int)) (by omega) (by omega), wrapI (by omega) (by omega)]
    have eT : IntKind.i64.wrap ((IntKind.i64.wrap (T - (P : Int))) + 1) = T - (P : Int) + 1 := by
      rw [wrapI (x := T - (P : Int)) (by omega) (by omega), wrapI (by omega) (by omega)]
    rw [el, eT]
    have bl := rB_pos Bp e (em - (P : Int) + 1)
    obtain ⟨c1, c2⟩ := cut_facts (A := rA (val a) e (em - (P : Int) + 1)) (show 1 ≤ P by omega) bl m neg
    have hsv : (shf P (rA (val a) e (em - (P : Int) + 1)) (rB (val b) e (em - (P : Int) + 1)) : Int) = max (T - em) 0 := by
      unfold shf; rw [hT.blen Bp]; omega
    have hti := tiny_iff (em := em) (P := P) (by omega) Bp hT m neg
    have hlp : lftN (rA (val a) e (em - (P : Int) + 1)) (rB (val b) e (em - (P : Int) + 1) * 2 ^ shf P (rA (val a) e (em - (P : Int) + 1)) (rB (val b) e (em - (P : Int) + 1))) = lftP P (rA (val a) e (em - (P : Int) + 1)) (rB (val b) e (em - (P : Int) + 1)) := rfl
    unfold rnOut rnd
    generalize shf P (rA (val a) e (em - (P : Int) + 1)) (rB (val b) e (em - (P : Int) + 1)) = s at *
    -- at the place q
    have j0 : Ev (fun k => vernierref05_Round.j0 k f m T (em - (P : Int) + 1) (em - (P : Int) + 1 + (s : Int)) neg a b e (W : Int) (P : Int) em ex) (if infP W P ≤ s * 2 ^ (P - 1) + cutN m neg (rA (val a) e (em - (P : Int) + 1)) (rB (val b) e (em - (P : Int) + 1) * 2 ^ s) then (((beyN W P m neg : Nat) : Int), 20) else (((s * 2 ^ (P - 1) + cutN m neg (rA (val a) e (em - (P : Int) + 1)) (rB (val b) e (em - (P : Int) + 1) * 2 ^ s) + sgB neg W : Nat) : Int), if lftP P (rA (val a) e (em - (P : Int) + 1)) (rB (val b) e (em - (P : Int) + 1)) = 0 then 0 else if tinyB P m neg (rA (val a) e (em - (P : Int) + 1)) (rB (val b) e (em - (P : Int) + 1)) then 24 else 16)) := by
      have pl := places_ev ha hb la lb hB he (q := em - (P : Int) + 1 + (s : Int)) (by omega) neg
      have hc := r_cross (val a) (val b) e (q := em - (P : Int) + 1 + (s : Int)) (l := em - (P : Int) + 1) (by omega)
      rw [show em - (P : Int) + 1 + (s : Int) - (em - (P : Int) + 1) = (s : Int) by omega, p2_nat] at hc
      have bq := rB_pos Bp e (em - (P : Int) + 1 + (s : Int))
      have bs := Nat.mul_pos bl (Nat.two_pow_pos s)
      have hdv := div_cross bq bs hc
      have hlf := lftN_cross bq bs hc
      rw [hlp] at hlf
      rw [hdv, hlf] at pl
      have hl3 : lftP P (rA (val a) e (em - (P : Int) + 1)) (rB (val b) e (em - (P : Int) + 1)) ≤ 3 := lft_le3 _ _
      have hcut : cutN m neg (rA (val a) e (em - (P : Int) + 1)) (rB (val b) e (em - (P : Int) + 1) * 2 ^ s) = chs m neg (rA (val a) e (em - (P : Int) + 1) / (rB (val b) e (em - (P : Int) + 1) * 2 ^ s)) (lftP P (rA (val a) e (em - (P : Int) + 1)) (rB (val b) e (em - (P : Int) + 1))) := by
        rw [← hlp]; rfl
      have hge := chs_ge m neg (rA (val a) e (em - (P : Int) + 1) / (rB (val b) e (em - (P : Int) + 1) * 2 ^ s)) (lftP P (rA (val a) e (em - (P : Int) + 1)) (rB (val b) e (em - (P : Int) + 1)))
      rw [← hcut] at hge
      obtain ⟨w1, w2, w3, w4⟩ := wW h
      have hp := Nat.two_pow_pos (P - 1)
      have hpp := pow_half (P := P) (by omega)
      have ch := chosen_ev (u := rA (val a) e (em - (P : Int) + 1) / (rB (val b) e (em - (P : Int) + 1) * 2 ^ s)) (by
        have : (digs (rA (val a) e (em - (P : Int) + 1) / (rB (val b) e (em - (P : Int) + 1) * 2 ^ s))).length ≤ 1 := digs_length_lt.2 (by rw [Nat.pow_one]; omega)
        omega) hl3 m neg
      rw [← hcut] at ch
      -- the lower place
      have pt := places_ev ha hb la lb hB he (q := T - (P : Int) + 1) (by omega) neg
      have hbt := hT.blen Bp (T - (P : Int) + 1)
      have hut : rA (val a) e (T - (P : Int) + 1) / rB (val b) e (T - (P : Int) + 1) < 2 ^ P := blen_le_iff.1 (by rw [hbt]; omega)
      have ct := chosen_ev (u := rA (val a) e (T - (P : Int) + 1) / rB (val b) e (T - (P : Int) + 1)) (by
        have : (digs (rA (val a) e (T - (P : Int) + 1) / rB (val b) e (T - (P : Int) + 1))).length ≤ 1 := digs_length_lt.2 (by rw [Nat.pow_one]; omega)
        omega) (lft_le3 _ _ : lftN (rA (val a) e (T - (P : Int) + 1)) (rB (val b) e (T - (P : Int) + 1)) ≤ 3) m neg
      have ct' : Ev (fun k => vernierref05_chosen k m neg (digs (rA (val a) e (T - (P : Int) + 1) / rB (val b) e (T - (P : Int) + 1))) ((lftN (rA (val a) e (T - (P : Int) + 1)) (rB (val b) e (T - (P : Int) + 1)) : Nat) : Int)) (digs (cutN m neg (rA (val a) e (T - (P : Int) + 1)) (rB (val b) e (T - (P : Int) + 1)))) := ct
      have hvt := chs_le m neg (rA (val a) e (T - (P : Int) + 1) / rB (val b) e (T - (P : Int) + 1)) (lft (rA (val a) e (T - (P : Int) + 1) % rB (val b) e (T - (P : Int) + 1)) (rB (val b) e (T - (P : Int) + 1)))
      have hvt' : cutN m neg (rA (val a) e (T - (P : Int) + 1)) (rB (val b) e (T - (P : Int) + 1)) ≤ 2 ^ P := by unfold cutN; omega
      have hip := infP_le h
      have hbey := ev_of (fun k => rbeyond_at h k m neg)
      have hover : infP W P ≤ s * 2 ^ (P - 1) + cutN m neg (rA (val a) e (em - (P : Int) + 1)) (rB (val b) e (em - (P : Int) + 1) * 2 ^ s) ↔ (blen (cutN m neg (rA (val a) e (em - (P : Int) + 1)) (rB (val b) e (em - (P : Int) + 1) * 2 ^ s)) : Int) + (em - (P : Int) + 1 + (s : Int)) > ex + 1 := by
        by_cases hse : (s : Int) ≤ ex - em
        · rw [← over_iff h c1 c2 hse]; omega
        · have hn := c2.resolve_left (by omega)
          constructor
          · intro _
            have : P - 1 < blen (cutN m neg (rA (val a) e (em - (P : Int) + 1)) (rB (val b) e (em - (P : Int) + 1) * 2 ^ s)) := by
              rcases Nat.lt_or_ge (P - 1) (blen (cutN m neg (rA (val a) e (em - (P : Int) + 1)) (rB (val b) e (em - (P : Int) + 1) * 2 ^ s))) with g | g
              · exact g
              · have := blen_le_iff.1 g; omega
            omega
          · intro _; exact over_top h hn (by omega)
      generalize cutN m neg (rA (val a) e (em - (P : Int) + 1)) (rB (val b) e (em - (P : Int) + 1) * 2 ^ s) = v at *
      generalize cutN m neg (rA (val a) e (T - (P : Int) + 1)) (rB (val b) e (T - (P : Int) + 1)) = vt at *
      generalize lftP P (rA (val a) e (em - (P : Int) + 1)) (rB (val b) e (em - (P : Int) + 1)) = lf at *
      generalize tinyB P m neg (rA (val a) e (em - (P : Int) + 1)) (rB (val b) e (em - (P : Int) + 1)) = tb at *
      have hvl : (digs v).length ≤ 1 := digs_length_lt.2 (by rw [Nat.pow_one]; omega)
      have hvtl : (digs vt).length ≤ 1 := digs_length_lt.2 (by rw [Nat.pow_one]; omega)
      have le := rLen_ev (a := digs v) (WF.digs _) (by unfold Lb; omega)
      have let' := rLen_ev (a := digs vt) (WF.digs _) (by unfold Lb; omega)
      rw [val_digs] at le let'
      have hbv := blen_len hvl
      have hbvt := blen_len hvtl
      refine Ev.congr (fun k => vernierref05_Round.j0_eq k _ _ _ _ _ _ _ _ _ _ _ _ _) (Ev.bind pl (Ev.bind ch (Ev.bind le ?_)))
      rw [wrapI (x := (blen v : Int) + (em - (P : Int) + 1 + (s : Int))) (by omega) (by omega), wrapI (x := ex + 1) (by omega) (by omega)]
      by_cases co : infP W P ≤ s * 2 ^ (P - 1) + v
      · rw [if_pos co]
        exact Ev.pos (dT (hover.1 co)) (Ev.bind hbey (Ev.some _))
      · rw [if_neg co]
        refine Ev.neg (dF (fun g => co (hover.2 g))) ?_
        -- the bits
        have j1 : ∀ fl : Int, Ev (fun k => vernierref05_Round.j1 k f (em - (P : Int) + 1) (em - (P : Int) + 1 + (s : Int)) (digs v) fl neg a b e (W : Int) (P : Int) em ex) (((s * 2 ^ (P - 1) + v + sgB neg W : Nat) : Int), fl) := by
          intro fl
          have e3 : IntKind.u64.wrap (IntKind.i64.wrap (em - (P : Int) + 1 + (s : Int) - (em - (P : Int) + 1))) = (s : Int) := by
            rw [wrapI (by omega) (by omega), wrap_u64]; omega
          have e2 : IntKind.u64.wrap (IntKind.i64.wrap ((P : Int) - 1)) = ((P - 1 : Nat) : Int) := by rw [wrapI (by omega) (by omega), wrap_u64]; omega
          have shl := shlK_exact s (P - 1) (by omega) (by omega)
          have mk := make_at h (E := 0) (F := 0)
          have mk' : ∀ k, vernierref04_Make k f (if neg then 1 else 0) 0 0 = some ((sgB neg W : Nat) : Int) := fun k => by
            have := mk k neg (Nat.two_pow_pos _) (Nat.two_pow_pos _)
            rw [show ((0 : Nat) : Int) = 0 from rfl, Nat.zero_mul, Nat.zero_add] at this
            exact this
          have hsl := sgB_le W neg
          have hsg : sgB neg W % 2 ^ (W - 1) = 0 := by cases neg; exact Nat.zero_mod _; exact Nat.mod_self _
          have o1 := orK_add (sgB neg W) (s * 2 ^ (P - 1) + v) (W - 1) (by omega) hsg (by omega)
          refine Ev.congr (fun k => vernierref05_Round.j1_eq k _ _ _ _ _ _ _ _ _ _ _ _ _) ?_
          rw [e3, e2, shl]
          have fin : IntKind.u64.wrap (((s * 2 ^ (P - 1) : Nat) : Int) + (v : Int)) = ((s * 2 ^ (P - 1) + v : Nat) : Int) := by
            rw [show (((s * 2 ^ (P - 1) : Nat) : Int) + (v : Int)) = ((s * 2 ^ (P - 1) + v : Nat) : Int) by omega, wrapUn (by omega)]
          by_cases hv0 : v = 0
          · refine Ev.neg (dF (by rw [hv0, digs_zero]; simp)) (Ev.bind (ev_of fun k => rsign_at k neg) (Ev.bind (ev_of mk') (Ev.pos (by omega) (Ev.eq (Ev.some _) ?_))))
            have : (0 : Int) = (v : Int) := by omega
            rw [this, fin, o1, Nat.add_comm]
          · have hlp2 := digs_len_pos.2 hv0
            refine Ev.pos (dT (by omega)) (Ev.pos ⟨by omega, by omega⟩ (Ev.bind (ev_of fun k => rsign_at k neg) (Ev.bind (ev_of mk') (Ev.pos (by omega) (Ev.eq (Ev.some _) ?_)))))
            rw [digs_word hv0 (by omega)]
            show (orK IntKind.u64 ((sgB neg W : Nat) : Int) (IntKind.u64.wrap (((s * 2 ^ (P - 1) : Nat) : Int) + (v : Int))), fl) = _
            rw [fin, o1, Nat.add_comm]
        by_cases hlf0 : lf = 0
        · rw [hlf0, if_pos rfl]
          exact Ev.neg (dF (show ¬ (((0 : Nat) : Int) > 0) by decide)) (j1 0)
        · rw [if_neg hlf0]
          refine Ev.pos (dT (by omega)) ?_
          rw [eT]
          refine Ev.bind pt (Ev.bind ct' (Ev.bind let' ?_))
          have e5 : IntKind.i64.wrap ((IntKind.i64.wrap ((IntKind.i64.wrap ((blen vt : Int) + T)) - (P : Int))) + 1) = (blen vt : Int) + (T - (P : Int) + 1) := by
            rw [wrapI (x := (blen vt : Int) + T) (by omega) (by omega), wrapI (x := (blen vt : Int) + T - (P : Int)) (by omega) (by omega), wrapI (by omega) (by omega)]; omega
          rw [e5]
          by_cases ct2 : (blen vt : Int) + (T - (P : Int) + 1) ≤ em
          · rw [if_pos (hti.1 ct2)]
            exact Ev.pos (dT ct2) (j1 24)
          · rw [if_neg (fun g => ct2 (hti.2 g))]
            exact Ev.neg (dF ct2) (j1 16)
    by_cases cq : T - (P : Int) + 1 < em - (P : Int) + 1
    · have : s = 0 := by omega
      rw [this] at j0 ⊢
      rw [show em - (P : Int) + 1 + ((0 : Nat) : Int) = em - (P : Int) + 1 by omega] at j0
      exact Ev.pos (dT cq) j0
    · refine Ev.neg (dF cq) ?_
      rw [show em - (P : Int) + 1 + (s : Int) = T - (P : Int) + 1 by omega] at j0
      exact j0
end
end Go.Proofs.YtbaaggmicpigeaaGreatDoor.X
