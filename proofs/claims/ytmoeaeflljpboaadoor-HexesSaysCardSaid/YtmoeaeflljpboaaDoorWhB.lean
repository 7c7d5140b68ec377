/- Plain law: layer 12's calls, as plain functions; the reference's Open. Conditions: the format is one of the four, the patterns are of its width, the mode is one of the six. -/
import Derived.Test.YtmoeaeflljpboaaDoorWhA
namespace Go.Proofs.YtmoeaeflljpboaaDoor.X
open Go Go.Rex
set_option linter.unusedVariables false

theorem xor_top {K n : Nat} (hK : K < 2 ^ n) : (K ^^^ 2 ^ n = K + 2 ^ n) ∧ ((K + 2 ^ n) ^^^ 2 ^ n = K) := by
  have e : K ^^^ 2 ^ n = K + 2 ^ n := by
    rw [Nat.xor_comm, Nat.add_comm]
    apply Nat.eq_of_testBit_eq
    intro j
    have hor := Nat.two_pow_add_eq_or_of_lt hK 1
    rw [Nat.mul_one] at hor
    rw [hor, Nat.testBit_xor, Nat.testBit_or, Nat.testBit_two_pow]
    by_cases hj : n = j
    · subst hj
      rw [Nat.testBit_lt_two_pow hK]; simp
    · simp [hj]
  refine ⟨e, ?_⟩
  rw [← e, Nat.xor_assoc, Nat.xor_self, Nat.xor_zero]
theorem xorK_nat' (x y : Nat) (hx : x < 18446744073709551616) (hy : y < 18446744073709551616) : xorK .u64 (x : Int) (y : Int) = ((x ^^^ y : Nat) : Int) := by
  have hxy : x ^^^ y < 18446744073709551616 := Nat.xor_lt_two_pow (n := 64) hx hy
  unfold xorK
  show IntKind.u64.wrap ((BitVec.ofInt 64 (x : Int) ^^^ BitVec.ofInt 64 (y : Int)).toNat : Int) = _
  rw [BitVec.toNat_xor, ofInt_nat _ hx, ofInt_nat _ hy, wrapUn hxy]
section
variable {f : Int} {W P : Nat} {em ex : Int} (h : Fm f W P em ex)
include h
theorem params06 (k : Nat) : vernierref06_Params k f = some ((W : Int), ((P : Int), em)) := by
  rcases fm_cases h with ⟨rfl, rfl, rfl, rfl, rfl⟩ | ⟨rfl, rfl, rfl, rfl, rfl⟩ | ⟨rfl, rfl, rfl, rfl, rfl⟩ | ⟨rfl, rfl, rfl, rfl, rfl⟩ <;> rfl
omit h in
theorem shl_one {n : Nat} (hn : n < 64) : shlK .u64 1 (n : Int) = ((2 ^ n : Nat) : Int) := by
  have h1 : 2 ^ n ≤ 2 ^ 63 := pow_mono2 (by omega)
  have h63 : (2 : Nat) ^ 63 = 9223372036854775808 := rfl
  have := shlK_exact 1 n (by omega) (by omega)
  rwa [Nat.one_mul, show ((1 : Nat) : Int) = 1 from rfl] at this
/-- What the reference sees in a pattern. -/
theorem open06 {a : Nat} (ha : a < 2 ^ W) : ∃ (vn : Bool) (d : List Int) (e : Int), Ev (fun k => vernierref06_Open k f (a : Int)) (decide (infP W P < pk W a), (decide (infP W P < pk W a ∧ pk W a < infP W P + 2 ^ (P - 2)), (decide (pk W a = infP W P), (ps W a, (vn, (d, e)))))) ∧
    (pk W a < infP W P → vn = ps W a ∧ W32 d ∧ Neat d ∧ d.length ≤ 2 ∧ v32 d = fN P (pk W a / 2 ^ (P - 1)) (pk W a % 2 ^ (P - 1)) ∧ e = em - (P : Int) + 1 + (fQ (pk W a / 2 ^ (P - 1)) : Int)) := by
  have h1 := h.w64; have h2 := h.p8; have h3 := h.wp; have h53 := h.p53; have m0 := h.m0; have m1 := h.m1; have h11 := h.wp11
  obtain ⟨p1, p2, p3, p4, p5, p6⟩ := pat_parts h ha
  obtain ⟨f1, f2, f3⟩ := field_top h ha
  obtain ⟨w1, w2, w3, w4⟩ := wW h
  have hpp := Nat.two_pow_pos (P - 1)
  have hF := Nat.mod_lt (pk W a) hpp
  have hwp : 2 ^ (W - P) ≤ 2 ^ 11 := pow_mono2 (by omega)
  have h211 : (2 : Nat) ^ 11 = 2048 := rfl
  have q1 : IntKind.u64.wrap (IntKind.i64.wrap ((W : Int) - 1)) = ((W - 1 : Nat) : Int) := by rw [wrapI (by omega) (by omega), wrap_u64]; omega
  have q2 : IntKind.u64.wrap (IntKind.i64.wrap ((P : Int) - 1)) = ((P - 1 : Nat) : Int) := by rw [wrapI (by omega) (by omega), wrap_u64]; omega
  have q3 : IntKind.u64.wrap (IntKind.i64.wrap ((W : Int) - (P : Int))) = ((W - P : Nat) : Int) := by rw [wrapI (by omega) (by omega), wrap_u64]; omega
  have q4 : IntKind.u64.wrap (IntKind.i64.wrap ((P : Int) - 2)) = ((P - 2 : Nat) : Int) := by rw [wrapI (by omega) (by omega), wrap_u64]; omega
  have s1 := shl_one (n := P - 1) (by omega)
  have s2 := shl_one (n := W - P) (by omega)
  have mask : ∀ n : Nat, n < 64 → IntKind.u64.wrap (((2 ^ n : Nat) : Int) - 1) = ((2 ^ n - 1 : Nat) : Int) := fun n hn => by
    have a1 : 2 ^ n ≤ 2 ^ 63 := pow_mono2 (by omega)
    have h63 : (2 : Nat) ^ 63 = 9223372036854775808 := rfl
    have a2 := Nat.two_pow_pos n
    rw [wrap_u64]; omega
  have k1 := mask (P - 1) (by omega)
  have k2 := mask (W - P) (by omega)
  have fr : andK .u64 (a : Int) ((2 ^ (P - 1) - 1 : Nat) : Int) = ((pk W a % 2 ^ (P - 1) : Nat) : Int) := by rw [andK_mask _ _ (by omega) p6, p2]
  have hdiv : a / 2 ^ (P - 1) < 18446744073709551616 := Nat.lt_of_le_of_lt (Nat.div_le_self _ _) p6
  have fd : andK .u64 (shrK .u64 (a : Int) ((P - 1 : Nat) : Int)) ((2 ^ (W - P) - 1 : Nat) : Int) = ((pk W a / 2 ^ (P - 1) : Nat) : Int) := by rw [shrK_nat _ _ (by omega), andK_mask _ _ (by omega) hdiv, p1]
  have fdw : IntKind.i64.wrap ((pk W a / 2 ^ (P - 1) : Nat) : Int) = ((pk W a / 2 ^ (P - 1) : Nat) : Int) := wrapI (by omega) (by omega)
  have on : IntKind.i64.wrap (shlK .i64 1 ((W - P : Nat) : Int) - 1) = ((eTop W P : Nat) : Int) := by
    have : shlK .i64 1 ((W - P : Nat) : Int) = ((2 ^ (W - P) : Nat) : Int) := by
      unfold shlK
      rw [Int.toNat_natCast, Nat.min_eq_left (show W - P ≤ IntKind.i64.bits by show W - P ≤ 64; omega), Int.one_mul]
      have e : ((2 : Int) ^ (W - P)) = ((2 ^ (W - P) : Nat) : Int) := by norm_cast
      rw [e, wrapI (by omega) (by omega)]
    have a2 := Nat.two_pow_pos (W - P)
    rw [this, wrapI (by omega) (by omega)]
    unfold eTop; omega
  have hs2 : a / 2 ^ (W - 1) < 2 := Nat.div_lt_of_lt_mul (by rw [Nat.mul_comm]; omega)
  have sg : (andK .u64 (shrK .u64 (a : Int) ((W - 1 : Nat) : Int)) 1 == 1) = ps W a := by
    rw [shrK_nat _ _ (by omega), andK_one _ (Nat.lt_trans hs2 (by decide)), Nat.mod_eq_of_lt hs2, ← p3]
    by_cases c : a / 2 ^ (W - 1) = 0
    · rw [c]; rfl
    · rw [show a / 2 ^ (W - 1) = 1 from Nat.le_antisymm (Nat.le_of_lt_succ hs2) (Nat.pos_of_ne_zero c)]; rfl
  have g2 : (((pk W a / 2 ^ (P - 1) : Nat) : Int) == ((eTop W P : Nat) : Int)) = decide (infP W P ≤ pk W a) := by
    by_cases c : infP W P ≤ pk W a
    · rw [decide_eq_true c, f1.2 c]; exact beq_self_eq_true _
    · rw [decide_eq_false c]; exact beq_eq_false_iff_ne.2 (fun e => c (f1.1 (Int.natCast_inj.1 e)))
  have dig : ∀ x : Nat, x < 18446744073709551616 → ∃ d, W32 d ∧ Neat d ∧ d.length ≤ 2 ∧ v32 d = x ∧ Ev (fun k => vernierref03_Digits k ((List.replicate 1 (0 : Int)).set 0 (x : Int))) d := fun x hx => by
    obtain ⟨d, d1, d2, d3, d4, d5⟩ := r3Dig_ev (a := (List.replicate 1 (0 : Int)).set 0 (x : Int)) (WF.cons (by omega) (by omega) WF.nil) (by simp)
    refine ⟨d, d1, d2, by simpa using d3, ?_, d5⟩
    rw [d4]
    show (x : Int).toNat + 18446744073709551616 * 0 = x
    rw [Int.toNat_natCast]; omega
  by_cases ct : infP W P ≤ pk W a
  · refine ⟨false, [], 0, Ev.congr (fun k => vernierref06_Open_eq k _ _) (Ev.bind (Ev.of fun k => params06 h k) ?_), fun g => absurd g (by omega)⟩
    dsimp only
    rw [q1, q2, q3, q4, s1, s2, k1, k2, fr, fd, fdw, on, sg, g2]
    have hk := f3 ct
    refine Ev.pos (by omega) (Ev.pos (by omega) (Ev.pos (by omega) (Ev.pos (by omega) (Ev.pos (by omega) (Ev.pos (decide_eq_true ct) ?_)))))
    by_cases cf : pk W a % 2 ^ (P - 1) = 0
    · refine Ev.neg (nF (by omega)) (Ev.eq (Ev.some _) ?_)
      rw [decide_eq_false (show ¬ infP W P < pk W a by omega), decide_eq_false (show ¬ (infP W P < pk W a ∧ pk W a < infP W P + 2 ^ (P - 2)) by omega), decide_eq_true (show pk W a = infP W P by omega), cf]
      rfl
    · refine Ev.pos (nT (by omega)) (Ev.pos (by omega) (Ev.eq (Ev.some _) ?_))
      rw [shrK_nat _ _ (by omega), decide_eq_true (show infP W P < pk W a by omega), decide_eq_false (show ¬ pk W a = infP W P by omega), nT (show ((pk W a % 2 ^ (P - 1) : Nat) : Int) ≠ 0 by omega), beq_eq_false_iff_ne.2 (show ((pk W a % 2 ^ (P - 1) : Nat) : Int) ≠ 0 by omega)]
      by_cases c4 : pk W a < infP W P + 2 ^ (P - 2)
      · rw [decide_eq_true (show infP W P < pk W a ∧ pk W a < infP W P + 2 ^ (P - 2) by omega), Nat.div_eq_of_lt (by omega)]; rfl
      · have := Nat.div_pos (show 2 ^ (P - 2) ≤ pk W a % 2 ^ (P - 1) by omega) (Nat.two_pow_pos _)
        rw [decide_eq_false (show ¬ (infP W P < pk W a ∧ pk W a < infP W P + 2 ^ (P - 2)) by omega), beq_eq_false_iff_ne.2 (by omega)]
  · have hd := Nat.div_add_mod (pk W a) (2 ^ (P - 1))
    have n1 : decide (infP W P < pk W a) = false := decide_eq_false (by omega)
    have n2 : decide (infP W P < pk W a ∧ pk W a < infP W P + 2 ^ (P - 2)) = false := decide_eq_false (by omega)
    have n3 : decide (pk W a = infP W P) = false := decide_eq_false (by omega)
    have el : IntKind.i64.wrap ((IntKind.i64.wrap (em - (P : Int))) + 1) = em - (P : Int) + 1 := by rw [wrapI (x := em - (P : Int)) (by omega) (by omega), wrapI (by omega) (by omega)]
    rw [n1, n2, n3]
    have h52 : 2 ^ (P - 1) ≤ 2 ^ 52 := pow_mono2 (by omega)
    have h52' : (2 : Nat) ^ 52 = 4503599627370496 := rfl
    by_cases c0 : pk W a / 2 ^ (P - 1) = 0
    · obtain ⟨d, d1, d2, d3, d4, d5⟩ := dig (pk W a % 2 ^ (P - 1)) (by omega)
      refine ⟨ps W a, d, em - (P : Int) + 1, Ev.congr (fun k => vernierref06_Open_eq k _ _) (Ev.bind (Ev.of fun k => params06 h k) ?_), fun g => ⟨rfl, d1, d2, d3, by rw [d4]; unfold fN; rw [if_pos c0], by unfold fQ; rw [if_pos c0]; omega⟩⟩
      dsimp only
      rw [q1, q2, q3, q4, s1, s2, k1, k2, fr, fd, fdw, on, sg, g2, el]
      refine Ev.pos (by omega) (Ev.pos (by omega) (Ev.pos (by omega) (Ev.pos (by omega) (Ev.pos (by omega) (Ev.neg (by simp [ct]) (Ev.neg (dF (by omega)) (Ev.bind d5 (Ev.some _))))))))
    · have eu : IntKind.u64.wrap (((pk W a % 2 ^ (P - 1) : Nat) : Int) + ((2 ^ (P - 1) : Nat) : Int)) = ((pk W a % 2 ^ (P - 1) + 2 ^ (P - 1) : Nat) : Int) := by rw [wrap_u64]; omega
      obtain ⟨d, d1, d2, d3, d4, d5⟩ := dig (pk W a % 2 ^ (P - 1) + 2 ^ (P - 1)) (by omega)
      have ee : IntKind.i64.wrap (em - (P : Int) + 1 + IntKind.i64.wrap (((pk W a / 2 ^ (P - 1) : Nat) : Int) - 1)) = em - (P : Int) + 1 + (((pk W a / 2 ^ (P - 1) - 1 : Nat)) : Int) := by
        rw [wrapI (x := ((pk W a / 2 ^ (P - 1) : Nat) : Int) - 1) (by omega) (by omega), wrapI (by omega) (by omega)]; omega
      refine ⟨ps W a, d, em - (P : Int) + 1 + (((pk W a / 2 ^ (P - 1) - 1 : Nat)) : Int), Ev.congr (fun k => vernierref06_Open_eq k _ _) (Ev.bind (Ev.of fun k => params06 h k) ?_), fun g => ⟨rfl, d1, d2, d3, by rw [d4]; unfold fN; rw [if_neg c0, Nat.add_comm], by unfold fQ; rw [if_neg c0]⟩⟩
      dsimp only
      rw [q1, q2, q3, q4, s1, s2, k1, k2, fr, fd, fdw, on, sg, g2, eu, el, ee]
      exact Ev.pos (by omega) (Ev.pos (by omega) (Ev.pos (by omega) (Ev.pos (by omega) (Ev.pos (by omega) (Ev.neg (by simp [ct]) (Ev.pos (dT (by omega)) (Ev.pos (by omega) (Ev.bind d5 (Ev.some _)))))))))
end
end Go.Proofs.YtmoeaeflljpboaaDoor.X
