/- Plain law: RemExact answers true. Conditions: what the reading says of the arguments. -/
import Derived.Test.YtldjheckpophaaaDoorRemD
import Derived.Test.YtldjheckpophaaaDoorDyD
namespace Go.Proofs.YtldjheckpophaaaDoor.X
open Go Go.Rex
set_option linter.unusedVariables false

theorem andI_7 (n : Nat) (h : n < 9223372036854775808) : andK .i64 (n : Int) 7 = ((n % 8 : Nat) : Int) := by
  unfold andK
  show IntKind.i64.wrap ((BitVec.ofInt 64 (n : Int) &&& BitVec.ofInt 64 ((7 : Nat) : Int)).toNat : Int) = _
  rw [BitVec.toNat_and, ofInt_nat n (by omega), ofInt_nat 7 (by omega), show (7 : Nat) = 2 ^ 3 - 1 from rfl, Nat.and_two_pow_sub_one_eq_mod, wrapI (by omega) (by omega)]
theorem low_one : ∀ x : Nat, x < 8 → andK .i64 (x : Int) 1 = ((x % 2 : Nat) : Int) := by decide
/-- A tie goes to the even one. -/
theorem often_even {A B : Nat} (hB : 0 < B) (h : 2 * leftR true A B = B) : oftenR true A B % 2 = 0 := by
  have hm := Nat.mod_lt A hB
  unfold leftR at h
  unfold oftenR
  by_cases c : upR true A B = true
  · rw [if_pos c] at h ⊢
    have e : 2 * (A % B) = B := by omega
    unfold upR at c
    rw [decide_eq_false (by omega), decide_eq_true e] at c
    simp at c
    omega
  · rw [if_neg c] at h ⊢
    unfold upR at c
    rw [decide_eq_true h] at c
    simp at c
    omega
theorem left_lt {A B : Nat} (hB : 0 < B) : leftR false A B = A % B := by unfold leftR upR; simp
theorem wholeV {n : Nat} (hn : n < 9007199254740992) (s : Bool) (e : Int) : ∃ (w : Bool) (c : Int), Ev (fun k => vernierlaw11_whole k s (digs n) e) (w, c) ∧ (n = 0 → w = true ∧ c = 0) ∧ (n ≠ 0 → 2 < e → w = true ∧ c = 0) ∧ (n ≠ 0 → 0 ≤ e → e ≤ 2 → w = true ∧ c = ((n * 2 ^ e.toNat % 8 : Nat) : Int)) := by
  by_cases c0 : n = 0
  · subst c0
    rw [digs_zero]
    exact ⟨true, 0, Ev.congr (fun k => vernierlaw11_whole_eq k _ _ _) (Ev.pos (bT rfl) (Ev.some _)), fun _ => ⟨rfl, rfl⟩, fun g => absurd rfl g, fun g => absurd rfl g⟩
  have hp := digs_len_pos.2 c0
  by_cases c1 : e < 0
  · exact ⟨false, 0, Ev.congr (fun k => vernierlaw11_whole_eq k _ _ _) (Ev.neg (bF (by omega)) (Ev.pos (dT c1) (Ev.some _))), fun g => absurd g c0, fun _ g => by omega, fun _ g => by omega⟩
  by_cases c2 : e > 2
  · exact ⟨true, 0, Ev.congr (fun k => vernierlaw11_whole_eq k _ _ _) (Ev.neg (bF (by omega)) (Ev.neg (dF c1) (Ev.pos (dT c2) (Ev.some _)))), fun g => absurd g c0, fun _ _ => ⟨rfl, rfl⟩, fun _ _ g => by omega⟩
  obtain ⟨j, rfl⟩ : ∃ j : Nat, e = (j : Int) := ⟨e.toNat, by omega⟩
  have hj : j ≤ 2 := by omega
  have h2 : 2 ^ j ≤ 4 := by
    have := pow_mono2 hj
    have e4 : (2 : Nat) ^ 2 = 4 := rfl
    omega
  have hm : n * 2 ^ j ≤ n * 4 := Nat.mul_le_mul_left n h2
  refine ⟨true, ((n * 2 ^ j % 8 : Nat) : Int), Ev.congr (fun k => vernierlaw11_whole_eq k _ _ _) (Ev.neg (bF (by omega)) (Ev.neg (dF c1) (Ev.neg (dF c2) (Ev.pos ⟨by omega, by omega⟩ ?_)))), fun g => absurd g c0, fun _ g => by omega, fun _ _ _ => ⟨rfl, by rw [Int.toNat_natCast]⟩⟩
  have g0 : (digs n).getD 0 0 = (n : Int) := by
    rw [digs_pos c0, Nat.mod_eq_of_lt (by omega)]; rfl
  rw [Int.toNat_zero, g0, wrapUn (by omega), shlK_exact n j (by omega) (by omega), wrapI (by omega) (by omega), andI_7 _ (by omega)]
  exact Ev.pos (by omega) (Ev.some _)
section
variable {f : Int} {W P : Nat} {em ex : Int} (h : Fm f W P em ex)
include h
theorem odd_small (k : Nat) : oddN (plV P k) < 9007199254740992 := by
  have h8 := h.p8; have h53 := h.p53
  obtain ⟨s, u, e, h1, h2⟩ := plV_step (P := P) (by omega) k
  have hv : plV P k = u * 2 ^ s := by rw [e]; exact plV_at (by omega) h1 (Nat.le_of_lt h2)
  have hp : 2 ^ P ≤ 2 ^ 53 := pow_mono2 h53
  have e53 : (2 : Nat) ^ 53 = 9007199254740992 := rfl
  by_cases c : u = 0
  · rw [hv, c, Nat.zero_mul]
    exact Nat.lt_of_le_of_lt (oddN_le 0) (by decide)
  · rw [hv, (tz_mul_pow c s).2]
    exact Nat.lt_of_le_of_lt (oddN_le u) (by omega)
theorem valV {a : Nat} (ha : a < 2 ^ W) (hk : pk W a < infP W P) : ∃ (s : Bool) (n : Nat) (e : Int), (∀ k, format_Value k f (a : Int) = some (s, (digs n, (e, (0 : Int))))) ∧ RepV (em - (P : Int) + 1) s (digs n) e (sg (ps W a) (plV P (pk W a))) ∧ e ≤ em - (P : Int) + 1 + 3000 ∧ n < 9007199254740992 ∧
    (pk W a = 0 → s = false ∧ n = 0 ∧ e = 0) ∧ (pk W a ≠ 0 → s = ps W a ∧ n ≠ 0 ∧ n = oddN (plV P (pk W a)) ∧ e = em - (P : Int) + 1 + (tz (plV P (pk W a)) : Int)) := by
  have h8 := h.p8; have h53 := h.p53; have m0 := h.m0; have m1 := h.m1
  have hip := infP_le h
  have hpp := Nat.two_pow_pos (P - 1)
  obtain ⟨v1, v2, v3⟩ := value_pk h ha
  by_cases c : pk W a = 0
  · refine ⟨false, 0, 0, fun k => by rw [digs_zero]; exact v2 c k, ?_, by omega, by decide, fun _ => ⟨rfl, rfl, rfl⟩, fun g => absurd c g⟩
    rw [c, (plV_zero (P := P) (by omega)).2 rfl, sg_zero, digs_zero]
    exact RepV.zero ⟨by omega, by omega⟩
  · obtain ⟨u1, u2, u3, u4⟩ := plV_facts h c (by omega)
    refine ⟨ps W a, oddN (plV P (pk W a)), _, fun k => v3 c hk k, ⟨_, rfl, by omega, by omega, ?_⟩, by omega, odd_small h _, fun g => absurd g c, fun _ => ⟨rfl, oddN_ne u1, rfl, rfl⟩⟩
    rw [show (em - (P : Int) + 1 + (tz (plV P (pk W a)) : Int) - (em - (P : Int) + 1)).toNat = tz (plV P (pk W a)) by omega, oddN_mul u1]
end
theorem scaleZ (s : Bool) (e : Int) (he : -40000 ≤ e ∧ e ≤ 40000) (j : Int) : Ev (fun k => dyad_Scale k s [] e j) (false, (([] : List Int), ((0 : Int), (0 : Int)))) := by
  have o := odd_zero (a := []) WF.nil (by unfold Lb; simp) rfl s e
  have rf := refuses_ev (n := 0) (e := e) ⟨by rw [digs_zero]; decide, he.1, he.2⟩ s
  rw [digs_zero] at rf
  exact Ev.congr (fun k => dyad_Scale_eq k _ _ _ _) (Ev.bind rf (Ev.neg (nF rfl) (Ev.bind o (Ev.pos (bT rfl) (Ev.some _)))))
/-- The end: a division by eight. -/
theorem exact_j10 {l : Int} {L2 : Nat} (hl : l ≤ 0) {na nb nv : Nat} {ea eb ev : Int} {sa sb : Bool} (qa : na < 9007199254740992) (qb : nb < 9007199254740992) (qv : nv < 9007199254740992) (fb2 : nb ≠ 0)
    (eight : na ≠ 0 → nb = 1 → eb = 3 → 0 ≤ ea → ea ≤ 2 → L2 = na * 2 ^ ea.toNat % 8 * 2 ^ (-l).toNat) (vz : nv = 0 → L2 = 0) (vk : nv ≠ 0 → L2 = nv * 2 ^ (ev - l).toNat ∧ l ≤ ev ∧ nv % 2 = 1) :
    Ev (fun k => vernierlaw11_RemExact.j10 k sa (digs na) ea sb (digs nb) eb false (digs nv) ev) true := by
  have hnb := digs_len_pos.2 fb2
  obtain ⟨wa, ca, Wa, Wa1, Wa2, Wa3⟩ := wholeV qa sa ea
  obtain ⟨wb, cb, Wb', Wb1, Wb2, Wb3⟩ := wholeV qb sb eb
  obtain ⟨wv, cv, Wv, Wv1, Wv2, Wv3⟩ := wholeV qv false ev
  have f11 : Ev (fun k => vernierlaw11_RemExact.j11 k ca cb false false (digs nv) ev) true := Ev.congr (fun k => vernierlaw11_RemExact.j11_eq k _ _ _ _ _ _) (Ev.neg (by decide) (Ev.some _))
  refine Ev.congr (fun k => vernierlaw11_RemExact.j10_eq k _ _ _ _ _ _ _ _ _) (Ev.bind Wa (Ev.bind Wb' ?_))
  dsimp only
  by_cases q1 : wa = true
  case neg => exact Ev.neg q1 f11
  refine Ev.pos q1 ?_
  by_cases q2 : wb = true
  case neg => exact Ev.neg q2 f11
  refine Ev.pos q2 ?_
  by_cases q3 : ((digs nb).length : Int) = 1
  case neg => exact Ev.neg (bF q3) f11
  refine Ev.pos (bT q3) (Ev.pos ⟨by omega, by omega⟩ ?_)
  have g0' : (digs nb).getD (0 : Int).toNat 0 = (nb : Int) := by
    rw [Int.toNat_zero, digs_pos fb2, Nat.mod_eq_of_lt (by omega)]; rfl
  rw [g0']
  by_cases q4 : (nb : Int) = 1
  case neg => exact Ev.neg (bF q4) f11
  refine Ev.pos (bT q4) ?_
  by_cases q5 : eb = 3
  case neg => exact Ev.neg (bF q5) f11
  refine Ev.pos (bT q5) ?_
  by_cases q6 : ((digs na).length : Int) = 1
  case neg => exact Ev.neg (bF q6) f11
  refine Ev.pos (bT q6) ?_
  by_cases q7 : ea ≥ 0
  case neg => exact Ev.neg (dF q7) f11
  refine Ev.pos (dT q7) ?_
  by_cases q8 : ea ≤ 2
  case neg => rw [decide_eq_false q8]; exact f11
  rw [decide_eq_true q8]
  have na0 : na ≠ 0 := fun e => by rw [e, digs_zero] at q6; simp at q6
  have e8 := eight na0 (by omega) q5 q7 q8
  obtain ⟨x1, x2⟩ := Wa3 na0 q7 q8
  obtain ⟨y1, y2⟩ := Wb2 fb2 (by omega)
  refine Ev.congr (fun k => vernierlaw11_RemExact.j11_eq k _ _ _ _ _ _) (Ev.pos rfl (Ev.bind Wv ?_))
  have hR : na * 2 ^ ea.toNat % 8 < 8 := Nat.mod_lt _ (by decide)
  have fin : wv = true ∧ cv = ((na * 2 ^ ea.toNat % 8 : Nat) : Int) := by
    generalize na * 2 ^ ea.toNat % 8 = R at *
    by_cases hK : nv = 0
    · obtain ⟨c1, c2⟩ := Wv1 hK
      have e0 := vz hK
      rw [e0] at e8
      have : R = 0 := by
        rcases Nat.mul_eq_zero.1 e8.symm with g | g
        · exact g
        · have := Nat.two_pow_pos (-l).toNat; omega
      exact ⟨c1, by rw [c2, this]; rfl⟩
    · obtain ⟨b1, b2, ho⟩ := vk hK
      rw [e8] at b1
      -- nv * 2^ev is R
      have e9 : 0 ≤ ev := by
        refine Int.not_lt.1 fun g => ?_
        -- an odd number times less than 2^D would be a multiple of 2^D
        obtain ⟨d, hd⟩ : ∃ d : Nat, (-l).toNat = (ev - l).toNat + (d + 1) := ⟨(-ev).toNat - 1, by omega⟩
        rw [hd, Nat.pow_add, ← Nat.mul_assoc, Nat.mul_right_comm] at b1
        have := Nat.eq_of_mul_eq_mul_right (Nat.two_pow_pos _) b1
        rw [Nat.pow_succ, ← Nat.mul_assoc] at this
        omega
      obtain ⟨j, rfl⟩ : ∃ j : Nat, ev = (j : Int) := ⟨ev.toNat, by omega⟩
      have e10 : R = nv * 2 ^ j := by
        rw [show ((j : Int) - l).toNat = j + (-l).toNat by omega, Nat.pow_add, ← Nat.mul_assoc] at b1
        exact Nat.eq_of_mul_eq_mul_right (Nat.two_pow_pos _) b1
      have hj : j ≤ 2 := by
        refine Nat.le_of_not_lt fun g => ?_
        have := pow_mono2 (show 3 ≤ j by omega)
        have e8' : (2 : Nat) ^ 3 = 8 := rfl
        have := Nat.mul_le_mul (show 1 ≤ nv by omega) this
        omega
      obtain ⟨d1', d2'⟩ := Wv3 hK (by omega) (by omega)
      refine ⟨d1', ?_⟩
      rw [d2', Int.toNat_natCast, ← e10, Nat.mod_eq_of_lt hR]
  obtain ⟨fn1, fn2⟩ := fin
  rw [fn1, fn2, x2, y2]
  exact Ev.pos rfl (Ev.pos (bT rfl) (Ev.eq (Ev.some _) rfl))
/-- From the remainders' sizes on. -/
theorem exact_j5 {f : Int} {W P : Nat} {em ex : Int} (h : Fm f W P em ex) {A : Nat} (hA : A < 2 ^ W) {l : Int} (hl : -2000 ≤ l ∧ l ≤ 0) {p : Nat} (hp : p ≤ 2500) {K1 K2 L1 L2 Y N1 nu nv na nb : Nat} {su sv sa sb s1 : Bool} {eu ev ea eb : Int}
    (ru : RepV l su (digs nu) eu (sg s1 L1)) (rva : RepV l false (digs nv) ev ((L2 : Nat) : Int)) (rba : RepV l false (digs nb) eb ((Y : Nat) : Int)) (zu : K1 = 0 → nu = 0) (fu : K1 ≠ 0 → nu ≠ 0) (zv : K2 = 0 → nv = 0) (fv : K2 ≠ 0 → nv ≠ 0) (s1z : K1 = 0 → s1 = ps W A) (fs : K2 ≠ 0 → sv = sa)
    (hf : 2 * L1 ≤ Y) (hev : 2 * L1 = Y → N1 % 2 = 0) (hL2 : L2 < Y) (hY : Y < 2 ^ p) (hN : N1 % 8 < 8)
    (j10 : Ev (fun k => vernierlaw11_RemExact.j10 k sa (digs na) ea sb (digs nb) eb false (digs nv) ev) true) :
    Ev (fun k => vernierlaw11_RemExact.j5 k f (A : Int) ((K1 + sgB s1 W : Nat) : Int) ((N1 % 8 : Nat) : Int) ((K2 + sgB (ps W A) W : Nat) : Int) sa (digs na) ea sb (digs nb) eb su (digs nu) eu sv (digs nv) ev) true := by
  have zero := zero_at h
  have fld := fields_pk h hA
  have a2 := vsg_abs s1 L1
  have pp : 2 ^ (p + 1) = 2 * 2 ^ p := by rw [Nat.pow_succ, Nat.mul_comm]
  have eu1 : l ≤ eu ∧ eu ≤ l + 6000 := by obtain ⟨_, _, g1, g2, _⟩ := ru; exact ⟨g1, g2⟩
  have j9 : Ev (fun k => vernierlaw11_RemExact.j9 k f ((K2 + sgB (ps W A) W : Nat) : Int) (ps W A) sa (digs na) ea sb (digs nb) eb false (digs nv) ev) true := by
    refine Ev.congr (fun k => vernierlaw11_RemExact.j9_eq k _ _ _ _ _ _ _ _ _ _ _ _) ?_
    by_cases c : K2 = 0
    · refine Ev.pos (bT (by rw [zv c, digs_zero]; rfl)) (Ev.bind (Ev.of fun k => zero k (ps W A)) (Ev.neg (nF (by rw [c, Nat.zero_add])) j10))
    · have := digs_len_pos.2 (fv c)
      exact Ev.neg (bF (by omega)) j10
  have j8 : Ev (fun k => vernierlaw11_RemExact.j8 k f (A : Int) ((K1 + sgB s1 W : Nat) : Int) ((K2 + sgB (ps W A) W : Nat) : Int) sa (digs na) ea sb (digs nb) eb su (digs nu) eu false (digs nv) ev) true := by
    refine Ev.congr (fun k => vernierlaw11_RemExact.j8_eq k _ _ _ _ _ _ _ _ _ _ _ _ _ _ _ _) (Ev.bind (Ev.of fld) ?_)
    by_cases c : K1 = 0
    · refine Ev.pos (bT (by rw [zu c, digs_zero]; rfl)) (Ev.bind (Ev.of fun k => zero k (ps W A)) (Ev.neg (nF (by rw [c, Nat.zero_add, s1z c])) j9))
    · have := digs_len_pos.2 (fu c)
      exact Ev.neg (bF (by omega)) j9
  have j6 : Ev (fun k => vernierlaw11_RemExact.j6 k f (A : Int) ((K1 + sgB s1 W : Nat) : Int) ((K2 + sgB (ps W A) W : Nat) : Int) sa (digs na) ea sb (digs nb) eb su (digs nu) eu sv (digs nv) ev false (digs nb) eb) true := by
    have cm := cmpD hl rva rba (p := p) (by omega) (by omega) (by omega)
    have j7 : Ev (fun k => vernierlaw11_RemExact.j7 k f (A : Int) ((K1 + sgB s1 W : Nat) : Int) ((K2 + sgB (ps W A) W : Nat) : Int) sa (digs na) ea sb (digs nb) eb su (digs nu) eu sv (digs nv) ev false (digs nb) eb) true :=
      Ev.congr (fun k => vernierlaw11_RemExact.j7_eq k _ _ _ _ _ _ _ _ _ _ _ _ _ _ _ _ _ _ _) (Ev.bind cm (Ev.neg (nF rfl) (Ev.neg (dF (by unfold sgn; rw [if_pos (by omega)]; decide)) j8)))
    refine Ev.congr (fun k => vernierlaw11_RemExact.j6_eq k _ _ _ _ _ _ _ _ _ _ _ _ _ _ _ _ _ _ _) ?_
    by_cases c : K2 = 0
    · exact Ev.neg (dF (by rw [zv c, digs_zero]; decide)) j7
    · have := digs_len_pos.2 (fv c)
      refine Ev.pos (dT (by omega)) (Ev.neg ?_ j7)
      rw [fs c]; simp
  have sc : ∃ (s : Bool) (l' : List Int) (e : Int), Ev (fun k => dyad_Scale k su (digs nu) eu 1) (s, (l', (e, (0 : Int)))) ∧ RepV l false l' e ((2 * L1 : Nat) : Int) := by
    have hz : nu = 0 ↔ L1 = 0 := by
      obtain ⟨n, e1, e2, e3, e4⟩ := ru
      have hn : n = nu := by have := congrArg val e1; rw [val_digs, val_digs] at this; exact this.symm
      have := congrArg Int.natAbs e4
      rw [vsg_abs, vsg_abs, hn] at this
      have hq := Nat.two_pow_pos (eu - l).toNat
      constructor
      · intro g; rw [g, Nat.zero_mul] at this; omega
      · intro g
        rw [g] at this
        rcases Nat.mul_eq_zero.1 this with g1 | g1
        · exact g1
        · omega
    by_cases c : nu = 0
    · refine ⟨false, [], 0, by rw [c, digs_zero]; exact scaleZ su eu ⟨by omega, by omega⟩ 1, ?_⟩
      rw [hz.1 c]
      exact RepV.zero hl
    · have hv0 : sg s1 L1 ≠ 0 := fun e => c (hz.2 (by rw [e] at a2; simpa using a2.symm))
      obtain ⟨l', e', q1, q2⟩ := scaleD hl ru (p := p + 1) (j := 1) (by omega) (by rw [Int.natAbs_mul, vsg_abs]; show L1 * 2 < _; omega) hv0
      refine ⟨su, l', e', q1, ?_⟩
      have := q2.abs
      rw [Int.natAbs_mul, vsg_abs] at this
      rw [Nat.mul_comm]
      exact this
  obtain ⟨s', l', e', q1, q2⟩ := sc
  have cm := cmpD hl q2 rba (p := p + 1) (by omega) (by omega) (by omega)
  refine Ev.congr (fun k => vernierlaw11_RemExact.j5_eq k _ _ _ _ _ _ _ _ _ _ _ _ _ _ _ _ _) (Ev.bind q1 (Ev.neg (nF rfl) (Ev.bind cm (Ev.neg (nF rfl) (Ev.neg (dF ?_) ?_)))))
  · show ¬ (sgn (((2 * L1 : Nat) : Int) - (Y : Int)) > 0)
    unfold sgn
    split
    · decide
    · rw [if_pos (by omega)]; decide
  · dsimp only
    by_cases c : sgn (((2 * L1 : Nat) : Int) - (Y : Int)) = 0
    · have e2 : 2 * L1 = Y := by
        unfold sgn at c
        split at c
        · exact absurd c (by decide)
        · split at c
          · omega
          · exact absurd c (by decide)
      have := hev e2
      refine Ev.pos (bT c) (Ev.neg ?_ j6)
      rw [low_one _ hN]
      exact bF (by omega)
    · exact Ev.neg (bF c) j6
theorem exact_j4 {f : Int} {W P : Nat} {em ex : Int} (h : Fm f W P em ex) {A : Nat} (hA : A < 2 ^ W) {l : Int} (hl : -2000 ≤ l ∧ l ≤ 0) {p : Nat} (hp : p ≤ 2500) {K1 K2 L1 L2 V Y N1 N2 nu nv na nb : Nat} {su sv sa sb s1 s : Bool} {eu ev ea eb : Int}
    (ra : RepV l sa (digs na) ea (sg s V)) (ru : RepV l su (digs nu) eu (sg s1 L1)) (rv : RepV l sv (digs nv) ev (sg s L2)) (rb : RepV l sb (digs nb) eb (sg sb Y)) (d1 : sg s V + -(sg s1 L1) = sg s (N1 * Y)) (d2 : sg s V + -(sg s L2) = sg s (N2 * Y))
    (hV : V < 2 ^ p) (hY : Y < 2 ^ p) (hY0 : Y ≠ 0) (hb : eb ≤ l + 5000) (zu : K1 = 0 → nu = 0) (fu : K1 ≠ 0 → nu ≠ 0) (zv : K2 = 0 → nv = 0) (fv : K2 ≠ 0 → nv ≠ 0) (s1z : K1 = 0 → s1 = ps W A) (fs : K2 ≠ 0 → sv = sa)
    (hf : 2 * L1 ≤ Y) (hev : 2 * L1 = Y → N1 % 2 = 0) (hL2 : L2 < Y)
    (j10 : Ev (fun k => vernierlaw11_RemExact.j10 k sa (digs na) ea sb (digs nb) eb false (digs nv) ev) true) :
    Ev (fun k => vernierlaw11_RemExact.j4 k f (A : Int) ((K1 + sgB s1 W : Nat) : Int) ((N1 % 8 : Nat) : Int) ((K2 + sgB (ps W A) W : Nat) : Int) ((N2 % 8 : Nat) : Int) sa (digs na) ea sb (digs nb) eb su (digs nu) eu sv (digs nv) ev) true := by
  have pp : 2 ^ (p + 1) = 2 * 2 ^ p := by rw [Nat.pow_succ, Nat.mul_comm]
  have a1 := vsg_abs s V
  have a2 := vsg_abs s1 L1
  have a3 := vsg_abs s L2
  have a4 := vsg_abs sb Y
  have n1 : N1 * Y < 2 ^ (p + 1) := by
    have := congrArg Int.natAbs d1
    rw [vsg_abs] at this
    omega
  have n2 : N2 * Y < 2 ^ (p + 1) := by
    have := congrArg Int.natAbs d2
    rw [vsg_abs] at this
    omega
  obtain ⟨D, D1, D2, D3⟩ := subD hl ra ru (p := p) (by omega) (by omega) (by omega)
  obtain ⟨C, C1, C2, C3⟩ := subD hl ra rv (p := p) (by omega) (by omega) (by omega)
  rw [Int.sub_eq_add_neg, d1] at D2
  rw [Int.sub_eq_add_neg, d2] at C2
  have T1 := timesD hl hY0 (p := p + 1) (by omega) D2 rb n1 (by omega) hb
  have T2 := timesD hl hY0 (p := p + 1) (by omega) C2 rb n2 (by omega) hb
  have rba : RepV l false (digs nb) eb ((Y : Nat) : Int) := by have := rb.abs; rwa [vsg_abs] at this
  have rva : RepV l false (digs nv) ev ((L2 : Nat) : Int) := by have := rv.abs; rwa [vsg_abs] at this
  have j5 := exact_j5 h hA hl (p := p) hp ru rva rba zu fu zv fv s1z fs hf hev hL2 hY (Nat.mod_lt N1 (by decide)) j10
  exact Ev.congr (fun k => vernierlaw11_RemExact.j4_eq k _ _ _ _ _ _ _ _ _ _ _ _ _ _ _ _ _ _) (Ev.bind D1 (Ev.bind C1 (Ev.neg (nF rfl) (Ev.neg (nF rfl) (Ev.bind T1 (Ev.neg (by decide) (Ev.bind T2 (Ev.neg (by decide) j5))))))))
namespace Pure
abbrev RTwoTyE : Ty := .pair (.int .i64) (.pair (.int .u64) (.int .u64))
theorem RemExact (t : Int × (Int × Int)) (w : WFt RTwoTyE t) : Ev (fun k => vernierlaw11_RemExact k t.1 t.2.1 t.2.2) true := by
  obtain ⟨w1, w2, w3⟩ := w
  obtain ⟨f, a, b⟩ := t
  have ha : 0 ≤ a ∧ a < 18446744073709551616 := wf_u64 w2
  have hb : 0 ≤ b ∧ b < 18446744073709551616 := wf_u64 w3
  show Ev (fun k => vernierlaw11_RemExact k f a b) true
  refine Ev.congr (fun k => vernierlaw11_RemExact_eq k _ _ _) (Ev.bind awake11_ev (Ev.neg (notF rfl) ?_))
  by_cases c1 : f < 0
  · exact Ev.pos (dT c1) (Ev.some _)
  refine Ev.neg (dF c1) ?_
  by_cases c2 : f > 3
  · exact Ev.pos (dT c2) (Ev.some _)
  refine Ev.neg (dF c2) (Ev.congr (fun k => vernierlaw11_RemExact.j0_eq k _ _ _) ?_)
  obtain ⟨W, P, em, ex, h⟩ := fm_of (f := f) (by omega) (by omega)
  have h8 := h.p8; have h3 := h.wp; have h53 := h.p53; have m0 := h.m0; have m1 := h.m1
  have hip := infP_le h
  have hpp := Nat.two_pow_pos (P - 1)
  obtain ⟨x, rfl⟩ := Int.eq_ofNat_of_zero_le ha.1
  obtain ⟨y, rfl⟩ := Int.eq_ofNat_of_zero_le hb.1
  have l1 := Nat.mod_lt x (Nat.two_pow_pos W)
  have l2 := Nat.mod_lt y (Nat.two_pow_pos W)
  refine Ev.bind (cut11_ev h (x := x) (by omega)) (Ev.bind (cut11_ev h (x := y) (by omega)) ?_)
  generalize x % 2 ^ W = A at *
  generalize y % 2 ^ W = B at *
  clear ha hb w1 w2 w3
  obtain ⟨u1, u2, u3⟩ := value_pk h l1
  obtain ⟨v1, v2, v3⟩ := value_pk h l2
  -- one of them is no number, or the divisor nothing
  have off : ∀ {z1 z2 : Int} {c6 : Bool} {d7 : List Int} {x8 : Int} {b9 : Bool} {d10 : List Int} {x11 : Int}, (z1 = 0 ∨ z1 = 40) → (z2 = 0 ∨ z2 = 40) → Ev (fun k => vernierlaw11_RemExact.j1 k f (A : Int) (B : Int) z1 z2 true c6 d7 x8 b9 d10 x11) true := fun hz1 hz2 => by
    refine Ev.congr (fun k => vernierlaw11_RemExact.j1_eq k _ _ _ _ _ _ _ _ _ _ _ _) (Ev.pos rfl ?_)
    rcases hz1 with rfl | rfl
    · exact Ev.pos rfl (Ev.some _)
    · refine Ev.neg (by decide) ?_
      rcases hz2 with rfl | rfl
      · exact Ev.pos rfl (Ev.some _)
      · exact Ev.neg (by decide) (Ev.pos rfl (Ev.some _))
  by_cases g1 : pk W A < infP W P
  case neg =>
    refine Ev.bind (Ev.of (u1 (by omega))) ?_
    by_cases g2 : pk W B < infP W P
    · obtain ⟨sb, nb, eb, pb, -⟩ := valV h l2 g2
      exact Ev.bind (Ev.of pb) (Ev.pos (nT (by decide)) (off (.inr rfl) (.inl rfl)))
    · exact Ev.bind (Ev.of (v1 (by omega))) (Ev.pos (nT (by decide)) (off (.inr rfl) (.inr rfl)))
  obtain ⟨sa, na, ea, pa, ra, ba, qa, za, fa⟩ := valV h l1 g1
  refine Ev.bind (Ev.of pa) ?_
  by_cases g2 : pk W B < infP W P
  case neg =>
    exact Ev.bind (Ev.of (v1 (by omega))) (Ev.neg (nF rfl) (Ev.pos (nT (by decide)) (off (.inl rfl) (.inr rfl))))
  obtain ⟨sb, nb, eb, pb, rb, bb, qb, zb, fb⟩ := valV h l2 g2
  refine Ev.bind (Ev.of pb) (Ev.neg (nF rfl) (Ev.neg (nF rfl) ?_))
  dsimp only
  by_cases g0 : pk W B = 0
  · obtain ⟨z1, z2, z3⟩ := zb g0
    rw [z2, digs_zero]
    exact off (.inl rfl) (.inl rfl)
  obtain ⟨fb1, fb2, fb3, fb4⟩ := fb g0
  have hnb := digs_len_pos.2 fb2
  rw [show (((digs nb).length : Int) == 0) = false from beq_eq_false_iff_ne.2 (by omega)]
  refine Ev.congr (fun k => vernierlaw11_RemExact.j1_eq k _ _ _ _ _ _ _ _ _ _ _ _) (Ev.neg (by decide) (Ev.congr (fun k => vernierlaw11_RemExact.j2_eq k _ _ _ _ _ _ _ _ _) ?_))
  obtain ⟨K1, k1, k2, r1⟩ := rem_fin h l1 l2 true g1 ⟨g0, g2⟩
  obtain ⟨K2, k3, k4, r2⟩ := rem_fin h l1 l2 false g1 ⟨g0, g2⟩
  rw [sign_false] at r2
  have R1 := Remainder_ev r1
  have R2 := Mod_ev r2
  obtain ⟨y1, y2, y3⟩ := pk_at (W := W) (K := K1) (by omega) (by omega) (signR true (ps W A) (plV P (pk W A)) (plV P (pk W B)))
  obtain ⟨z1, z2, z3⟩ := pk_at (W := W) (K := K2) (by omega) (by omega) (ps W A)
  obtain ⟨su, nu, eu, pu, ru, bu, qu, zu, fu⟩ := valV h y3 (by rw [y1]; exact k2)
  obtain ⟨sv, nv, ev, pv, rv, bv, qv, zv, fv⟩ := valV h z3 (by rw [z1]; exact k4)
  rw [y1, y2, k1] at ru
  rw [z1, z2, k3] at rv
  rw [y1] at zu fu
  rw [z1, z2] at fv
  rw [z1] at zv
  have hV : plV P (pk W B) ≠ 0 := fun e => g0 ((plV_zero (P := P) (by omega)).1 e)
  obtain ⟨p, hp⟩ : ∃ p : Nat, p = 2112 := ⟨_, rfl⟩
  have short : ∀ K, K < infP W P → plV P K < 2 ^ p := fun K hK => by
    by_cases c : K = 0
    · rw [c, (plV_zero (P := P) (by omega)).2 rfl]; exact Nat.two_pow_pos p
    · obtain ⟨f1, f2, f3, f4⟩ := plV_facts h c (by omega)
      exact Nat.lt_of_lt_of_le (blen_lt _) (pow_mono2 (by omega))
  have sA := short _ g1
  have sB := short _ g2
  have pp : 2 ^ (p + 1) = 2 * 2 ^ p := by rw [Nat.pow_succ, Nat.mul_comm]
  have s1z : K1 = 0 → signR true (ps W A) (plV P (pk W A)) (plV P (pk W B)) = ps W A := fun e => sign_zero (by rw [← k1, e]; exact (plV_zero (P := P) (by omega)).2 rfl)
  have d1 := rem_diff true (ps W A) (plV P (pk W A)) (B := plV P (pk W B)) (by omega)
  have d2 := rem_diff false (ps W A) (plV P (pk W A)) (B := plV P (pk W B)) (by omega)
  rw [sign_false] at d2
  have hf := left_half (A := plV P (pk W A)) (B := plV P (pk W B)) (by omega)
  have hev := often_even (A := plV P (pk W A)) (B := plV P (pk W B)) (by omega)
  have hl := left_lt (A := plV P (pk W A)) (B := plV P (pk W B)) (by omega)
  have hml := Nat.mod_lt (plV P (pk W A)) (show 0 < plV P (pk W B) by omega)
  obtain ⟨p1, p2, p3, p4, p5, p6⟩ := pat_parts h l1
  have fld := fields_pk h l1
  have k2z : K2 ≠ 0 → pk W A ≠ 0 := fun e g => e (by
    have : plV P (pk W A) = 0 := (plV_zero (P := P) (by omega)).2 g
    rw [hl, this, Nat.zero_mod] at k3
    exact (plV_zero (P := P) (by omega)).1 k3)
  -- the values in whole numbers, for a division by eight
  have eight : pk W A ≠ 0 → nb = 1 → eb = 3 → 0 ≤ ea → ea ≤ 2 → leftR false (plV P (pk W A)) (plV P (pk W B)) = na * 2 ^ ea.toNat % 8 * 2 ^ (-(em - (P : Int) + 1)).toNat := fun a0 b1 b3 e0 e2 => by
    obtain ⟨a1, a2, a3, a4⟩ := fa a0
    have hY : plV P (pk W B) = 8 * 2 ^ (-(em - (P : Int) + 1)).toNat := by
      have := oddN_mul hV
      rw [← fb3, b1, Nat.one_mul] at this
      rw [← this, show (8 : Nat) = 2 ^ 3 from rfl, ← Nat.pow_add]
      congr 1; omega
    have a5 : plV P (pk W A) ≠ 0 := fun e => a0 ((plV_zero (P := P) (by omega)).1 e)
    have hX : plV P (pk W A) = na * 2 ^ ea.toNat * 2 ^ (-(em - (P : Int) + 1)).toNat := by
      have := oddN_mul a5
      rw [← a3] at this
      rw [← this, Nat.mul_assoc, ← Nat.pow_add]
      congr 2; omega
    rw [hl, hY, hX, Nat.mul_mod_mul_right]
  have vK : K2 ≠ 0 → plV P K2 = nv * 2 ^ (ev - (em - (P : Int) + 1)).toNat ∧ em - (P : Int) + 1 ≤ ev := fun e => by
    obtain ⟨a1, a2, a3, a4⟩ := fv e
    have a5 : plV P K2 ≠ 0 := fun g => e ((plV_zero (P := P) (by omega)).1 g)
    refine ⟨?_, by omega⟩
    rw [a3, a4, show (em - (P : Int) + 1 + (tz (plV P K2) : Int) - (em - (P : Int) + 1)).toNat = tz (plV P K2) by omega, oddN_mul a5]
  have vZ : K2 = 0 → plV P K2 = 0 := fun e => by rw [e]; exact (plV_zero (P := P) (by omega)).2 rfl
  rw [k3] at vK vZ
  clear r1 r2 k1 k3 y1 y2 z1 z2 u1 u2 u3 v1 v2 v3
  generalize signR true (ps W A) (plV P (pk W A)) (plV P (pk W B)) = s1 at *
  generalize leftR true (plV P (pk W A)) (plV P (pk W B)) = L1 at *
  generalize leftR false (plV P (pk W A)) (plV P (pk W B)) = L2 at *
  generalize oftenR true (plV P (pk W A)) (plV P (pk W B)) = N1 at *
  generalize oftenR false (plV P (pk W A)) (plV P (pk W B)) = N2 at *
  have hB0 : -2000 ≤ em - (P : Int) + 1 ∧ em - (P : Int) + 1 ≤ 0 := ⟨by omega, by omega⟩
  have a1 := vsg_abs (ps W A) (plV P (pk W A))
  have a2 := vsg_abs s1 L1
  have a3 := vsg_abs (ps W A) L2
  have a4 := vsg_abs (ps W B) (plV P (pk W B))
  generalize hVa : plV P (pk W A) = V at *
  generalize hVb : plV P (pk W B) = Y at *
  have j10 : Ev (fun k => vernierlaw11_RemExact.j10 k sa (digs na) ea sb (digs nb) eb false (digs nv) ev) true :=
    exact_j10 (l := em - (P : Int) + 1) (L2 := L2) (by omega) qa qb qv fb2 (fun e => eight (fun g => e (za g).2.1)) (fun e => vZ (Decidable.byContradiction fun g => (fv g).2.1 e)) (fun e => by
      have g : K2 ≠ 0 := fun g => e (zv g).2.1
      obtain ⟨c1, c2, c3, c4⟩ := fv g
      exact ⟨(vK g).1, (vK g).2, by rw [c3]; exact oddN_odd (fun e' => c2 (by rw [c3, e']; exact Nat.le_zero.1 (oddN_le 0)))⟩)
  have m1' := Nat.mod_lt N1 (show 0 < 8 by decide)
  have m2' := Nat.mod_lt N2 (show 0 < 8 by decide)
  rw [← fb1] at rb
  have J4 := exact_j4 h l1 (N2 := N2) hB0 (p := p) (by omega) ra ru rv rb d1 d2 sA sB hV (by omega) (fun e => (zu e).2.1) (fun e => (fu e).2.1) (fun e => (zv e).2.1) (fun e => (fv e).2.1) s1z (fun e => by rw [(fv e).1, (fa (k2z e)).1]) hf hev (by omega) j10
  refine Ev.bind R1 (Ev.bind R2 (Ev.neg (nF rfl) (Ev.neg (nF rfl) (Ev.neg (nF rfl) (Ev.neg (nF rfl) (Ev.neg (dF (by show ¬ (((N1 % 8 : Nat) : Int) < 0); omega)) (Ev.neg (dF (by show ¬ (((N1 % 8 : Nat) : Int) > 7); omega)) (Ev.neg (dF (by show ¬ (((N2 % 8 : Nat) : Int) < 0); omega)) (Ev.neg (dF (by show ¬ (((N2 % 8 : Nat) : Int) > 7); omega)) ?_)))))))))
  exact Ev.congr (fun k => vernierlaw11_RemExact.j3_eq k _ _ _ _ _ _ _ _ _ _ _ _) (Ev.bind (Ev.of pu) (Ev.bind (Ev.of pv) (Ev.neg (nF rfl) (Ev.neg (nF rfl) J4))))
end Pure
end Go.Proofs.YtldjheckpophaaaDoor.X
