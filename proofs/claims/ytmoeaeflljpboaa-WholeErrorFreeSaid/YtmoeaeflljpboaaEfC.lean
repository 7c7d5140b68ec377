/- Plain law: Dekker's product of two whole numbers by their halves: what the nearest float of the product lacks is reached by floats alone. Conditions: the product is long enough. -/
import Derived.Test.YtmoeaeflljpboaaEfB
namespace Go.Proofs.Ytmoeaeflljpboaa.X
open Go Go.Rex
set_option linter.unusedVariables false

theorem prod_bound {x y : Int} {X Y k m : Nat} (hx : k * x.natAbs ≤ X) (hy : m * y.natAbs ≤ Y) : k * m * (x * y).natAbs ≤ X * Y := by
  rw [Int.natAbs_mul]
  have := Nat.mul_le_mul hx hy
  rwa [show k * m * (x.natAbs * y.natAbs) = k * x.natAbs * (m * y.natAbs) by grind]
theorem mult_mul {x y c d : Int} {k m : Nat} (hx : x = c * ((2 ^ k : Nat) : Int)) (hy : y = d * ((2 ^ m : Nat) : Int)) : x * y = (c * d) * ((2 ^ (k + m) : Nat) : Int) := by
  rw [hx, hy, Nat.pow_add, Int.natCast_mul]; grind
theorem half_bound {a h l : Int} {X : Nat} (h1 : h + l = a) (ha : a.natAbs ≤ X) (hl : 134217728 * l.natAbs ≤ X) : 134217728 * h.natAbs ≤ 134217729 * X := by omega
/-- The sizes of the products of halves, in units of T; B = 2^106 T is above both numbers' product. -/
theorem half_sizes {a b h l i j : Int} {X Y T : Nat} (hXY : X * Y = 81129638414606681695789005144064 * T) (h1 : h + l = a) (h2 : i + j = b) (ha : a.natAbs ≤ X) (hb : b.natAbs ≤ Y) (hl : 134217728 * l.natAbs ≤ X) (hj : 134217728 * j.natAbs ≤ Y) :
    (l * j).natAbs ≤ 4503599627370496 * T ∧ (l * i).natAbs ≤ 604462914361686242066432 * T ∧ (h * j).natAbs ≤ 604462914361686242066432 * T ∧ (h * i).natAbs ≤ 162259276829213363391578010288128 * T := by
  have bh := half_bound h1 ha hl
  have bi := half_bound h2 hb hj
  have q1 := prod_bound hl hj
  have q2 := prod_bound hl bi
  have q3 := prod_bound bh hj
  have q4 := prod_bound bh bi
  rw [hXY] at q1
  rw [show X * (134217729 * Y) = 134217729 * (X * Y) by grind, hXY] at q2
  rw [show 134217729 * X * Y = 134217729 * (X * Y) by grind, hXY] at q3
  rw [show 134217729 * X * (134217729 * Y) = 134217729 * 134217729 * (X * Y) by grind, hXY] at q4
  refine ⟨?_, ?_, ?_, ?_⟩ <;> omega
/-- What is left. -/
theorem dekker_steps {W P hi hj li lj : Int} {T : Nat} (hW : W = hi + hj + li + lj) (hp : (P - W).natAbs ≤ 4503599627370496 * T) (b1 : lj.natAbs ≤ 4503599627370496 * T) (b2 : li.natAbs ≤ 604462914361686242066432 * T) (b3 : hj.natAbs ≤ 604462914361686242066432 * T) :
    (W - P).natAbs ≤ 9007199254740992 * T ∧ (hi - P + hj + li).natAbs ≤ 9007199254740992 * T ∧ (hi - P + hj).natAbs ≤ 604462923368885496807424 * T ∧ (hi - P).natAbs ≤ 1208925837730571738873856 * T := by
  refine ⟨?_, ?_, ?_, ?_⟩ <;> omega
/-- Dekker's product. -/
theorem dekker {a b h l i j P : Int} {β β' γ : Nat} (hB : β + β' = γ + 106) (ha : a.natAbs < 2 ^ β) (hb : b.natAbs < 2 ^ β') (ha' : 2 ^ β ≤ 2 * a.natAbs) (hb' : 2 ^ β' ≤ 2 * b.natAbs)
    (h1 : h + l = a) (h2 : i + j = b) {η μ ι ν : Int} (eh : h = η * ((2 ^ (β - 26) : Nat) : Int)) (el : l = μ * ((2 ^ (β - 53) : Nat) : Int)) (ei : i = ι * ((2 ^ (β' - 26) : Nat) : Int)) (ej : j = ν * ((2 ^ (β' - 53) : Nat) : Int))
    (hl : 2 ^ 27 * l.natAbs ≤ 2 ^ β) (hj : 2 ^ 27 * j.natAbs ≤ 2 ^ β') (hP : P = RN (a * b)) :
    (∃ c : Int, P = c * ((2 ^ γ : Nat) : Int)) ∧
    (Rep (h * i) ∧ ∃ c : Int, h * i = c * ((2 ^ γ : Nat) : Int)) ∧ (Rep (h * j) ∧ ∃ c : Int, h * j = c * ((2 ^ γ : Nat) : Int)) ∧ (Rep (l * i) ∧ ∃ c : Int, l * i = c * ((2 ^ γ : Nat) : Int)) ∧ (Rep (l * j) ∧ ∃ c : Int, l * j = c * ((2 ^ γ : Nat) : Int)) ∧
    Rep (h * i - P) ∧ Rep (h * i - P + h * j) ∧ Rep (h * i - P + h * j + l * i) ∧ Rep (a * b - P) := by
  have p27 : (2 : Nat) ^ 27 = 134217728 := by decide
  have p53 : (2 : Nat) ^ 53 = 9007199254740992 := by decide
  rw [p27] at hl hj
  have eW : a * b = h * i + h * j + l * i + l * j := by rw [← h1, ← h2]; grind
  obtain ⟨T, hT⟩ : ∃ T : Nat, T = 2 ^ γ := ⟨_, rfl⟩
  have hXY : 2 ^ β * 2 ^ β' = 81129638414606681695789005144064 * T := by
    rw [← Nat.pow_add, hB, Nat.pow_add, hT, Nat.mul_comm]
  obtain ⟨s1, s2, s3, s4⟩ := half_sizes hXY h1 h2 (Nat.le_of_lt ha) (Nat.le_of_lt hb) hl hj
  obtain ⟨q, c, r1, r2, r3, r4, r5, r6⟩ := RN_spec6 (a * b)
  rw [← hP] at r1 r2 r5
  have hWlt : (a * b).natAbs < 2 ^ (γ + 106) := by
    rw [Int.natAbs_mul, ← hB, Nat.pow_add]
    exact Nat.mul_lt_mul_of_lt_of_le ha (Nat.le_of_lt hb) (Nat.two_pow_pos _)
  have hWge : 2 ^ (γ + 106) ≤ 4 * (a * b).natAbs := by
    rw [Int.natAbs_mul, ← hB, Nat.pow_add]
    have := Nat.mul_le_mul ha' hb'
    rwa [show 2 * a.natAbs * (2 * b.natAbs) = 4 * (a.natAbs * b.natAbs) by grind] at this
  have p52 : (2 : Nat) ^ 52 = 4503599627370496 := by decide
  have p54 : (2 : Nat) ^ 54 = 18014398509481984 := by decide
  have q0 : γ + 52 ≤ q := by
    have z : 2 ^ (γ + 106) < 2 ^ (55 + q) := by
      have e : (2 : Nat) ^ (55 + q) = 4 * (2 ^ 53 * 2 ^ q) := by rw [Nat.pow_add]; grind
      omega
    have := (Nat.pow_lt_pow_iff_right (by decide : 1 < 2)).1 z
    omega
  have q1 : q ≤ γ + 53 := by
    have g := r3.resolve_left (by omega)
    rw [← Nat.pow_add] at g
    have := (Nat.pow_lt_pow_iff_right (by decide : 1 < 2)).1 (Nat.lt_of_le_of_lt g hWlt)
    omega
  have hp : (P - a * b).natAbs ≤ 4503599627370496 * T := by
    have z : 2 ^ q ≤ 2 ^ (γ + 53) := Nat.pow_le_pow_right (by decide) q1
    rw [Nat.pow_add, ← hT, p53] at z
    omega
  obtain ⟨t1, t2, t3, t4⟩ := dekker_steps eW hp s1 s2 s3
  obtain ⟨k1, m1⟩ := mult_down (show γ ≤ β - 53 + (β' - 53) by omega) (mult_mul el ej)
  obtain ⟨k2, m2⟩ := mult_down (show γ + 27 ≤ β - 53 + (β' - 26) by omega) (mult_mul el ei)
  obtain ⟨k3, m3⟩ := mult_down (show γ + 27 ≤ β - 26 + (β' - 53) by omega) (mult_mul eh ej)
  obtain ⟨k4, m4⟩ := mult_down (show γ + 54 ≤ β - 26 + (β' - 26) by omega) (mult_mul eh ei)
  obtain ⟨c', mP⟩ := mult_down q0 r1
  have e0 : 2 ^ 53 * 2 ^ γ = 9007199254740992 * T := by rw [p53, hT]
  have e27 : 2 ^ 53 * 2 ^ (γ + 27) = 1208925819614629174706176 * T := by rw [Nat.pow_add, ← hT, p53, p27]; omega
  have e52 : 2 ^ 53 * 2 ^ (γ + 52) = 40564819207303340847894502572032 * T := by rw [Nat.pow_add, ← hT, p53, p52]; omega
  have e54 : 2 ^ 53 * 2 ^ (γ + 54) = 162259276829213363391578010288128 * T := by rw [Nat.pow_add, ← hT, p53, p54]; omega
  obtain ⟨n2, w2⟩ := mult_down (show γ ≤ γ + 27 by omega) m2
  obtain ⟨n3, w3⟩ := mult_down (show γ ≤ γ + 27 by omega) m3
  obtain ⟨n4, w4⟩ := mult_down (show γ ≤ γ + 54 by omega) m4
  obtain ⟨nP, wP⟩ := mult_down (show γ ≤ γ + 52 by omega) mP
  obtain ⟨v4, u4⟩ := mult_down (show γ + 52 ≤ γ + 54 by omega) m4
  have d1 := mult_sub u4 mP
  obtain ⟨v5, u5⟩ := mult_down (show γ + 27 ≤ γ + 52 by omega) d1
  have d2 := mult_add u5 m3
  have d3 := mult_add d2 m2
  obtain ⟨v6, u6⟩ := mult_down (show γ ≤ γ + 27 by omega) d3
  have d4 := mult_add u6 m1
  rw [show h * i - P + h * j + l * i + l * j = a * b - P by rw [eW]; omega] at d4
  clear eh el ei ej eW
  refine ⟨⟨_, wP⟩, ⟨Rep.of m4 (by rw [e54]; exact s4), _, w4⟩, ⟨Rep.of m3 (by rw [e27]; exact Nat.le_trans s3 (Nat.mul_le_mul_right _ (by decide))), _, w3⟩, ⟨Rep.of m2 (by rw [e27]; exact Nat.le_trans s2 (Nat.mul_le_mul_right _ (by decide))), _, w2⟩, ⟨Rep.of m1 (by rw [e0]; exact Nat.le_trans s1 (Nat.mul_le_mul_right _ (by decide))), _, m1⟩,
    Rep.of d1 (by rw [e52]; exact Nat.le_trans t4 (Nat.mul_le_mul_right _ (by decide))), Rep.of d2 (by rw [e27]; exact Nat.le_trans t3 (Nat.mul_le_mul_right _ (by decide))), Rep.of d3 (by rw [e27]; exact Nat.le_trans t2 (Nat.mul_le_mul_right _ (by decide))), Rep.of d4 (by rw [e0]; exact t1)⟩
end Go.Proofs.Ytmoeaeflljpboaa.X
