/- Plain law: what layer 4's Value answers, by the pattern's fields: a natural and an exponent; a pattern's place in the order. Conditions: the pattern is of the format. -/
import Derived.Test.YtbaaggmicpigeaaDoorFmA
import Derived.Test.YtbaaggmicpigeaaDoorDyB
namespace Go.Proofs.YtbaaggmicpigeaaDoor.X
open Go Go.Rex
set_option linter.unusedVariables false

/-- The natural of a finite pattern without its sign, at the format's lowest place. -/
def fN (P E F : Nat) : Nat := if E = 0 then F else F + 2 ^ (P - 1)
def fQ (E : Nat) : Nat := if E = 0 then 0 else E - 1
section
variable {f : Int} {W P : Nat} {em ex : Int} (h : Fm f W P em ex)
include h
theorem fN_lt {E F : Nat} (hF : F < 2 ^ (P - 1)) : fN P E F < 18446744073709551616 := by
  have h1 := h.w64; have h2 := h.p8; have h3 := h.wp
  have : 2 ^ (P - 1 + 1) ≤ 18446744073709551616 := pow_mono2 (b := 64) (by omega)
  rw [Nat.pow_succ] at this
  unfold fN
  split <;> omega
/-- From the natural and the exponent's field on. -/
theorem value_j0 (n q : Nat) (hn : n < 18446744073709551616) (hq : 1 ≤ q ∧ q ≤ 3000) (neg b3 : Bool) (x4 x5 x8 : Int) :
    (n = 0 → ∀ k, format_Value.j0 k neg (q : Int) (n : Int) b3 x4 x5 (P : Int) em x8 = some (false, (([] : List Int), ((0 : Int), (0 : Int))))) ∧
    (n ≠ 0 → ∃ z m : Nat, n = 2 ^ z * (2 * m + 1) ∧ z < 64 ∧ ∀ k, format_Value.j0 k neg (q : Int) (n : Int) b3 x4 x5 (P : Int) em x8 = some (neg, (digs (n / 2 ^ z), ((q : Int) - 1 + em - (P : Int) + 1 + (z : Int), (0 : Int))))) := by
  have h1 := h.w64; have h2 := h.p8; have h3 := h.wp; have m0 := h.m0; have m1 := h.m1; have h5 := h.p53
  refine ⟨fun e k => ?_, fun e => ?_⟩
  · subst e
    rw [format_Value.j0_eq, if_pos (bT (x := ((0 : Nat) : Int)) (y := 0) rfl)]
  · obtain ⟨z, m, k1, k2, k3⟩ := tz_ev e hn
    refine ⟨z, m, k1, k2, fun k => ?_⟩
    rw [format_Value.j0_eq, if_neg (bF (by omega)), k3]
    simp only [Option.bind_some]
    rw [if_pos (by omega), shrK_nat n z (by omega)]
    have ne : n / 2 ^ z ≠ 0 := by rw [k1, Nat.mul_div_cancel_left _ (Nat.two_pow_pos z)]; omega
    have hl : n / 2 ^ z ≤ n := Nat.div_le_self _ _
    have hdg : digs (n / 2 ^ z) = [((n / 2 ^ z : Nat) : Int)] := by
      rw [digs_pos ne, Nat.mod_eq_of_lt (Nat.lt_of_le_of_lt hl hn), Nat.div_eq_of_lt (Nat.lt_of_le_of_lt hl hn), digs_zero]
    rw [wrapS (x := (q : Int)) (by omega) (by omega), wrapS (x := (q : Int) - 1) (by omega) (by omega), wrapS (x := (q : Int) - 1 + em) (by omega) (by omega), wrapS (x := (q : Int) - 1 + em - (P : Int)) (by omega) (by omega), wrapS (x := (q : Int) - 1 + em - (P : Int) + 1) (by omega) (by omega), wrapS (x := (q : Int) - 1 + em - (P : Int) + 1 + (z : Int)) (by omega) (by omega), hdg]
    rfl
/-- A pattern's value: refused where the exponent's field is the greatest; else a natural with an exponent, both told by the fields. -/
theorem value_at {a E F : Nat} (ha : a < 2 ^ W) (eE : a / 2 ^ (P - 1) % 2 ^ (W - P) = E) (eF : a % 2 ^ (P - 1) = F) :
    (E = 2 ^ (W - P) - 1 → ∀ k, format_Value k f (a : Int) = some (false, (([] : List Int), ((0 : Int), (40 : Int))))) ∧
    (E ≠ 2 ^ (W - P) - 1 →
      (fN P E F = 0 → ∀ k, format_Value k f (a : Int) = some (false, (([] : List Int), ((0 : Int), (0 : Int))))) ∧
      (fN P E F ≠ 0 → ∃ z m : Nat, fN P E F = 2 ^ z * (2 * m + 1) ∧ z < 64 ∧
        ∀ k, format_Value k f (a : Int) = some ((((a / 2 ^ (W - 1) : Nat) : Int) != 0), (digs (fN P E F / 2 ^ z), ((fQ E : Int) + em - (P : Int) + 1 + (z : Int), (0 : Int)))))) := by
  have h1 := h.w64; have h2 := h.p8; have h3 := h.wp; have h4 := h.wp11; have h5 := h.p53
  have := h.f0; have := h.f4
  have h64 : 2 ^ W ≤ 18446744073709551616 := pow_mono2 (b := 64) h1
  have hE : E < 2 ^ (W - P) := by rw [← eE]; exact Nat.mod_lt _ (Nat.two_pow_pos _)
  have hE2 : 2 ^ (W - P) ≤ 2048 := pow_mono2 (b := 11) (by omega)
  have hF : F < 2 ^ (P - 1) := by rw [← eF]; exact Nat.mod_lt _ (Nat.two_pow_pos _)
  have hfn := fN_lt h (E := E) hF
  have e3 : IntKind.i64.wrap ((W : Int) - (P : Int)) = ((W - P : Nat) : Int) := by rw [wrapI] <;> omega
  have e2 : IntKind.i64.wrap ((P : Int) - 1) = ((P - 1 : Nat) : Int) := by rw [wrapI] <;> omega
  have hpw : 2 ^ (P - 1) < 18446744073709551616 := Nat.pow_lt_pow_right (m := P - 1) (n := 64) (by decide) (by omega)
  have hone := shlK_exact 1 (P - 1) (by omega) (by omega)
  rw [show ((1 : Nat) : Int) = 1 from rfl, Nat.one_mul] at hone
  have hor : orK IntKind.u64 (F : Int) ((2 ^ (P - 1) : Nat) : Int) = ((F + 2 ^ (P - 1) : Nat) : Int) := by
    have hp2 : 2 ^ (P - 1 + 1) ≤ 18446744073709551616 := pow_mono2 (b := 64) (by omega)
    rw [Nat.pow_succ] at hp2
    exact orK_add' _ _ (P - 1) hF (Nat.mod_self _) (by omega)
  have eqv : ∀ k, format_Value k f (a : Int) = (if ((E : Int) == ((2 ^ (W - P) - 1 : Nat) : Int)) = true then some (false, (([] : List Int), ((0 : Int), (40 : Int)))) else (if ((E : Int) == 0) = true then format_Value.j0 k (((a / 2 ^ (W - 1) : Nat) : Int) != 0) 1 (F : Int) false 0 (W : Int) (P : Int) em ex else format_Value.j0 k (((a / 2 ^ (W - 1) : Nat) : Int) != 0) (E : Int) ((F + 2 ^ (P - 1) : Nat) : Int) false 0 (W : Int) (P : Int) em ex)) := by
    intro k
    rw [format_Value_eq, check_at h k a (by omega), if_pos ha]
    simp only [Option.bind_some]
    rw [if_neg (nF rfl), if_pos ⟨by omega, by omega⟩, h.row]
    simp only
    rw [split_at h k a (by omega), eE, eF]
    simp only [Option.bind_some]
    rw [e3, ones_at k _ (by omega)]
    simp only [Option.bind_some]
    rw [e2, hone, if_pos (show (0 : Int) ≤ ((P - 1 : Nat) : Int) by omega), hor]
  generalize (((a / 2 ^ (W - 1) : Nat) : Int) != 0) = sgb at *
  refine ⟨fun c k => (eqv k).trans (if_pos (bT (by rw [c]))), fun c => ?_⟩
  have c' : ¬ (((E : Int) == ((2 ^ (W - P) - 1 : Nat) : Int)) = true) := bF (fun e => c (Int.natCast_inj.1 e))
  by_cases e0 : E = 0
  · have hN : fN P E F = F := by unfold fN; rw [if_pos e0]
    have hq : fQ E = 0 := by unfold fQ; rw [if_pos e0]
    obtain ⟨v1, v2⟩ := value_j0 h F 1 (by rw [hN] at hfn; exact hfn) (by omega) sgb false 0 (W : Int) ex
    have c0 : ((E : Int) == 0) = true := bT (by omega)
    rw [hN, hq]
    refine ⟨fun hn k => (eqv k).trans ((if_neg c').trans ((if_pos c0).trans (v1 hn k))), fun hn => ?_⟩
    obtain ⟨z, m, k1, k2, k3⟩ := v2 hn
    refine ⟨z, m, k1, k2, fun k => (eqv k).trans ((if_neg c').trans ((if_pos c0).trans ((k3 k).trans ?_)))⟩
    clear v1 v2; congr 4
  · have hN : fN P E F = F + 2 ^ (P - 1) := by unfold fN; rw [if_neg e0]
    have hq : fQ E = E - 1 := by unfold fQ; rw [if_neg e0]
    obtain ⟨v1, v2⟩ := value_j0 h (F + 2 ^ (P - 1)) E (by rw [hN] at hfn; exact hfn) (by omega) sgb false 0 (W : Int) ex
    have c0 : ¬ (((E : Int) == 0) = true) := bF (by omega)
    rw [hN, hq]
    refine ⟨fun hn k => (eqv k).trans ((if_neg c').trans ((if_neg c0).trans (v1 hn k))), fun hn => ?_⟩
    obtain ⟨z, m, k1, k2, k3⟩ := v2 hn
    refine ⟨z, m, k1, k2, fun k => (eqv k).trans ((if_neg c').trans ((if_neg c0).trans ((k3 k).trans ?_)))⟩
    clear v1 v2; congr 4; omega

/-- A pattern's number, at the format's lowest place. -/
def pM (P E F : Nat) : Nat := fN P E F * 2 ^ fQ E
/-- The same, with one exponent for all. -/
theorem value_num {a E F : Nat} (ha : a < 2 ^ W) (eE : a / 2 ^ (P - 1) % 2 ^ (W - P) = E) (eF : a % 2 ^ (P - 1) = F) (c : E ≠ 2 ^ (W - P) - 1) :
    ∃ (neg : Bool) (N : Nat) (e : Int), (∀ k, format_Value k f (a : Int) = some (neg, (digs N, (e, (0 : Int))))) ∧ Sm N e ∧ (digs N).length ≤ 10 ∧ e ≤ 38000 ∧ em - (P : Int) + 1 ≤ e ∧ N * 2 ^ (e - (em - (P : Int) + 1)).toNat = pM P E F ∧ (N ≠ 0 → neg = (((a / 2 ^ (W - 1) : Nat) : Int) != 0)) := by
  have h1 := h.w64; have h2 := h.p8; have h3 := h.wp; have h4 := h.wp11; have h5 := h.p53; have m0 := h.m0; have m1 := h.m1
  have hE : E < 2 ^ (W - P) := by rw [← eE]; exact Nat.mod_lt _ (Nat.two_pow_pos _)
  have hE2 : 2 ^ (W - P) ≤ 2048 := pow_mono2 (b := 11) (by omega)
  have hF : F < 2 ^ (P - 1) := by rw [← eF]; exact Nat.mod_lt _ (Nat.two_pow_pos _)
  have hfn := fN_lt h (E := E) hF
  have hq : fQ E ≤ 2048 := by unfold fQ; split <;> omega
  obtain ⟨v1, v2⟩ := (value_at h ha eE eF).2 c
  by_cases hn : fN P E F = 0
  · refine ⟨false, 0, 0, fun k => by rw [digs_zero]; exact v1 hn k, ⟨by rw [digs_zero]; simp, by omega, by omega⟩, by rw [digs_zero]; simp, by omega, by omega, ?_, fun e => absurd rfl e⟩
    rw [Nat.zero_mul, pM, hn, Nat.zero_mul]
  · obtain ⟨z, m, k1, k2, k3⟩ := v2 hn
    have hl : fN P E F / 2 ^ z ≤ fN P E F := Nat.div_le_self _ _
    have hlen : (digs (fN P E F / 2 ^ z)).length ≤ 1 := digs_length_lt.2 (by rw [Nat.pow_one]; omega)
    refine ⟨_, _, _, k3, ⟨by omega, by omega, by omega⟩, by omega, by omega, by omega, ?_, fun _ => rfl⟩
    rw [show ((fQ E : Int) + em - (P : Int) + 1 + (z : Int) - (em - (P : Int) + 1)).toNat = z + fQ E by omega]
    exact odd_place k1 (fQ E)

end
/-- The order of patterns without a sign is that of their numbers. -/
theorem order_lt {P x y : Nat} (hx : x < y) : fN P (x / 2 ^ (P - 1)) (x % 2 ^ (P - 1)) * 2 ^ fQ (x / 2 ^ (P - 1)) < fN P (y / 2 ^ (P - 1)) (y % 2 ^ (P - 1)) * 2 ^ fQ (y / 2 ^ (P - 1)) := by
  have hp : 0 < 2 ^ (P - 1) := Nat.two_pow_pos _
  have dx := Nat.div_add_mod x (2 ^ (P - 1))
  have dy := Nat.div_add_mod y (2 ^ (P - 1))
  have fx := Nat.mod_lt x hp
  have fy := Nat.mod_lt y hp
  have hE : x / 2 ^ (P - 1) ≤ y / 2 ^ (P - 1) := Nat.div_le_div_right (Nat.le_of_lt hx)
  unfold fN
  generalize x / 2 ^ (P - 1) = E at *
  generalize y / 2 ^ (P - 1) = G at *
  generalize x % 2 ^ (P - 1) = F at *
  generalize y % 2 ^ (P - 1) = H at *
  generalize 2 ^ (P - 1) = T at *
  have key : ∀ (E F : Nat), F < T → (if E = 0 then F else F + T) * 2 ^ fQ E < 2 * T * 2 ^ fQ E ∧ (E ≠ 0 → T * 2 ^ fQ E ≤ (if E = 0 then F else F + T) * 2 ^ fQ E) := by
    intro E F hF
    refine ⟨Nat.mul_lt_mul_of_pos_right (by split <;> omega) (Nat.two_pow_pos _), fun he => Nat.mul_le_mul_right _ (by rw [if_neg he]; omega)⟩
  rcases Nat.lt_or_ge E G with hlt | hge
  · have k1 := (key E F fx).1
    have k2 := (key G H fy).2 (by omega)
    have k3 : 2 * T * 2 ^ fQ E ≤ T * 2 ^ fQ G ∨ (E = 0) := by
      by_cases h0 : E = 0
      · exact .inr h0
      · left
        have : 2 ^ fQ E * 2 ≤ 2 ^ fQ G := by rw [← Nat.pow_succ]; exact pow_mono2 (by unfold fQ; rw [if_neg h0, if_neg (by omega)]; omega)
        have := Nat.mul_le_mul_left T this
        have e : T * (2 ^ fQ E * 2) = 2 * T * 2 ^ fQ E := by grind
        omega
    rcases k3 with k3 | k3
    · omega
    · subst k3
      have : fQ 0 = 0 := rfl
      rw [if_pos rfl, this, Nat.pow_zero, Nat.mul_one]
      have h1 : T * 1 ≤ T * 2 ^ fQ G := Nat.mul_le_mul_left _ (Nat.two_pow_pos _)
      omega
  · have : E = G := by omega
    subst this
    refine Nat.mul_lt_mul_of_pos_right ?_ (Nat.two_pow_pos _)
    split <;> omega
end Go.Proofs.YtbaaggmicpigeaaDoor.X
