/- Plain law: the hexadecimal text of a float, by the program and by the reference: one text. Conditions: those of the two calls. -/
import Derived.Test.YtmoeaeflljpboaaDoorHxP
namespace Go.Proofs.YtmoeaeflljpboaaDoor.X
open Go Go.Rex
set_option linter.unusedVariables false

/-! ### The text -/
/-- The digits of a word, from the highest. -/
def hexs : Nat → Nat → List Int
  | 0, _ => []
  | n + 1, r => if r = 0 then [] else hexc (r / 2 ^ 60) :: hexs n (r * 16 % 2 ^ 64)
theorem hexs_len : ∀ (n r : Nat), (hexs n r).length ≤ n
  | 0, _ => Nat.le_refl _
  | n + 1, r => by
    rw [hexs]
    split
    · simp
    · have := hexs_len n (r * 16 % 2 ^ 64); simp; omega
/-- What stands behind a number's highest bit, at the top of a word. -/
def rst (n : Nat) : Nat := (n - 2 ^ (blen n - 1)) * 2 ^ (65 - blen n)
def sgT (neg : Bool) : List Int := if neg then [45] else []
def mantT (R : Nat) : List Int := if R = 0 then [] else 46 :: hexs 16 R
def finT (neg : Bool) (n : Nat) (e : Int) : List Int := sgT neg ++ [48, 120, 49] ++ mantT (rst n) ++ 112 :: numT (e + (blen n : Int) - 1)
def zeroL : List Int := [48, 120, 48, 112, 43, 48]
/-- A pattern's text. -/
def txtF (W P : Nat) (em : Int) (a : Nat) : List Int :=
  if infP W P < pk W a then nanL
  else if pk W a = infP W P then sgT (ps W a) ++ infL
  else if pk W a = 0 then sgT (ps W a) ++ zeroL
  else finT (ps W a) (fN P (pk W a / 2 ^ (P - 1)) (pk W a % 2 ^ (P - 1))) (em - (P : Int) + 1 + (fQ (pk W a / 2 ^ (P - 1)) : Int))
theorem sgT_len (neg : Bool) : (sgT neg).length ≤ 1 := by cases neg <;> simp [sgT]
theorem dec_len6 {n : Nat} (h : n < 10000) : (decL n).length ≤ 4 := by
  rw [dec4_at h]
  unfold dec4
  split
  · simp
  · split
    · simp
    · split <;> simp
/-! ### The program -/
theorem tail_at (t : ByteArray) (ht : (bl t).length ≤ 1000) {q : Int} (hq : -1100 ≤ q ∧ q < 1100) : ∃ s : ByteArray,
    Ev (fun k => (if decide (q ≥ 0) then (if (((t.size + hexes_Print.s7.size) : Nat) : Int) ≤ 9223372036854775807 then ((strconv_Itoa k q)).bind fun o5 => (if ((((t ++ hexes_Print.s7).size + o5.size) : Nat) : Int) ≤ 9223372036854775807 then some (((t ++ hexes_Print.s7) ++ o5), (0 : Int)) else none) else none) else (if (((t.size + hexes_Print.s8.size) : Nat) : Int) ≤ 9223372036854775807 then ((strconv_Itoa k q)).bind fun o6 => (if ((((t ++ hexes_Print.s8).size + o6.size) : Nat) : Int) ≤ 9223372036854775807 then some (((t ++ hexes_Print.s8) ++ o6), (0 : Int)) else none) else none))) (s, 0) ∧ bl s = bl t ++ 112 :: numT q := by
  have e7 : bl hexes_Print.s7 = [112, 43] := by decide
  have e8 : bl hexes_Print.s8 = [112] := by decide
  obtain ⟨o, g1, g2⟩ := ito_ev hq
  have hl := dec_len6 (n := q.natAbs) (by omega)
  by_cases c : q ≥ 0
  · rw [if_neg (show ¬ q < 0 by omega)] at g2
    refine ⟨_, Ev.pos (dT c) (Ev.pos (cat_le (by rw [e7]; simp; omega)) (Ev.bind g1 (Ev.pos (cat_le (by rw [bl_append, e7, g2]; simp; omega)) (Ev.some _)))), ?_⟩
    rw [bl_append, bl_append, e7, g2]
    unfold numT
    rw [if_neg (show ¬ q < 0 by omega)]; simp
  · rw [if_pos (show q < 0 by omega)] at g2
    refine ⟨_, Ev.neg (dF c) (Ev.pos (cat_le (by rw [e8]; simp; omega)) (Ev.bind g1 (Ev.pos (cat_le (by rw [bl_append, e8, g2]; simp; omega)) (Ev.some _)))), ?_⟩
    rw [bl_append, bl_append, e8, g2]
    unfold numT
    rw [if_pos (show q < 0 by omega)]; simp
theorem shl4 {r : Nat} (h : r < 18446744073709551616) : shlK .u64 (r : Int) 4 = ((r * 16 % 2 ^ 64 : Nat) : Int) := by
  have := shlK_nat r 4 (by decide)
  rw [show ((4 : Nat) : Int) = 4 from rfl] at this
  rw [this]
theorem print_l4 {q : Int} (hq : -1100 ≤ q ∧ q < 1100) (n : Nat) : ∀ (r : Nat) (t : ByteArray), n ≤ 16 → r < 2 ^ 64 → 2 ^ (64 - 4 * n) ∣ r → (bl t).length + n ≤ 500 →
    ∃ s : ByteArray, Ev2 (fun k m => hexes_Print.l4 k m q t (r : Int)) (s, 0) ∧ bl s = bl t ++ hexs n r ++ 112 :: numT q := by
  have stop : ∀ (n : Nat) (t : ByteArray), (bl t).length ≤ 1000 → ∃ s : ByteArray, Ev2 (fun k m => hexes_Print.l4 k m q t ((0 : Nat) : Int)) (s, 0) ∧ bl s = bl t ++ [] ++ 112 :: numT q := by
    intro n t ht
    obtain ⟨s, g1, g2⟩ := tail_at t ht hq
    refine ⟨s, Ev2.step (fun k m => hexes_Print.l4_eq k m _ _ _) (Ev2.neg (nF rfl) ?_), by rw [g2, List.append_nil]⟩
    exact ⟨g1.choose, fun k hk n _ => g1.choose_spec k hk⟩
  induction n with
  | zero =>
    intro r t hn hr hd hl
    obtain ⟨c, rfl⟩ := hd
    have : c = 0 := by
      rcases Nat.eq_zero_or_pos c with g | g
      · exact g
      · have := Nat.mul_le_mul_left (2 ^ 64) g
        simp at hr; omega
    subst this
    rw [Nat.mul_zero]
    exact stop 0 t (by omega)
  | succ n ih =>
    intro r t hn hr hd hl
    by_cases c : r = 0
    · subst c
      rw [hexs, if_pos rfl]
      exact stop 0 t (by omega)
    · have h60 : r / 2 ^ 60 < 16 := by omega
      obtain ⟨o, g1, g2⟩ := hex_ev h60
      obtain ⟨s, g3, g4⟩ := ih (r * 16 % 2 ^ 64) (t ++ o) (by omega) (Nat.mod_lt _ (by decide)) (by
        have h1 : 2 ^ (64 - 4 * n) ∣ r * 16 := by
          have e : 2 ^ (64 - 4 * n) = 2 ^ (64 - 4 * (n + 1)) * 16 := by rw [show 64 - 4 * n = 64 - 4 * (n + 1) + 4 by omega, Nat.pow_add]
          rw [e]; exact Nat.mul_dvd_mul_right hd 16
        exact (Nat.dvd_mod_iff (Nat.pow_dvd_pow 2 (by omega))).2 h1) (by rw [bl_append, g2]; simp; omega)
      refine ⟨s, Ev2.step (fun k m => hexes_Print.l4_eq k m _ _ _) (Ev2.pos (nT (by omega)) ?_), ?_⟩
      · rw [show shrK IntKind.u64 (r : Int) 60 = ((r / 2 ^ 60 : Nat) : Int) from shrK_nat r 60 (by decide), shl4 (by omega)]
        exact Ev2.call g1 (Ev2.pos (cat_le (by rw [g2]; simp; omega)) g3)
      · rw [g4, bl_append, g2, hexs, if_neg c]; simp
theorem print_j3 {P y : Nat} (h8 : 8 ≤ P) (h53 : P ≤ 53) (hy : y < 2 ^ P) {q : Int} (hq : -1100 ≤ q ∧ q < 1100) (t : ByteArray) (ht : (bl t).length ≤ 100) :
    ∃ s : ByteArray, Ev (fun k => hexes_Print.j3 k (y : Int) t ((P - 1 : Nat) : Int) q) (s, 0) ∧ bl s = bl t ++ [48, 120, 49] ++ mantT (y % 2 ^ (P - 1) * 2 ^ (65 - P)) ++ 112 :: numT q := by
  have e5 : bl hexes_Print.s5 = [48, 120, 49] := by decide
  have e6 : bl hexes_Print.s6 = [46] := by decide
  have hpp := Nat.two_pow_pos (P - 1)
  have hP53 : 2 ^ P ≤ 2 ^ 53 := Nat.pow_le_pow_right (by decide) h53
  have hm : IntKind.u64.wrap (shlK .u64 1 ((P - 1 : Nat) : Int) - 1) = ((2 ^ (P - 1) - 1 : Nat) : Int) := by
    have h1 := shlK_exact 1 (P - 1) (by omega) (by rw [Nat.one_mul]; have : 2 ^ (P - 1) ≤ 2 ^ 53 := Nat.pow_le_pow_right (by decide) (by omega); omega)
    rw [Nat.one_mul, show ((1 : Nat) : Int) = 1 from rfl] at h1
    have : 2 ^ (P - 1) ≤ 2 ^ 53 := Nat.pow_le_pow_right (by decide) (by omega)
    rw [h1, wrap_u64]; omega
  have hand : andK IntKind.u64 (y : Int) ((2 ^ (P - 1) - 1 : Nat) : Int) = ((y % 2 ^ (P - 1) : Nat) : Int) := andK_mask y (P - 1) (by omega) (by omega)
  have start : ∀ {r}, _ → Ev (fun k => hexes_Print.j3 k (y : Int) t ((P - 1 : Nat) : Int) q) r := fun hh => Ev.congr (fun k => hexes_Print.j3_eq k _ _ _ _) (Ev.pos (cat_le (by rw [e5]; simp; omega)) (Ev.pos (by omega) hh))
  rw [hm, hand] at start
  have hlt := Nat.mod_lt y hpp
  by_cases c : y % 2 ^ (P - 1) = 0
  · obtain ⟨s, g1, g2⟩ := tail_at (t ++ hexes_Print.s5) (by rw [bl_append, e5]; simp; omega) hq
    refine ⟨s, start (Ev.neg (nF (by omega)) g1), ?_⟩
    rw [g2, bl_append, e5, c, Nat.zero_mul]; simp [mantT]
  · have w : IntKind.i64.wrap (64 - ((P - 1 : Nat) : Int)) = ((65 - P : Nat) : Int) := by rw [wrapI (by omega) (by omega)]; omega
    have htop : 2 ^ (P - 1) * 2 ^ (65 - P) = 2 ^ 64 := by rw [← Nat.pow_add]; congr 1; omega
    have hR : y % 2 ^ (P - 1) * 2 ^ (65 - P) < 2 ^ 64 := by
      rw [← htop]; exact Nat.mul_lt_mul_of_pos_right hlt (Nat.two_pow_pos _)
    have hsh := shlK_exact (y % 2 ^ (P - 1)) (65 - P) (by omega) (by omega)
    obtain ⟨s, g1, g2⟩ := print_l4 hq 16 (y % 2 ^ (P - 1) * 2 ^ (65 - P)) ((t ++ hexes_Print.s5) ++ hexes_Print.s6) (by decide) hR ⟨y % 2 ^ (P - 1) * 2 ^ (65 - P), by simp⟩ (by rw [bl_append, bl_append, e5, e6]; simp; omega)
    refine ⟨s, start (Ev.pos (nT (by omega)) (Ev.pos (cat_le (by rw [bl_append, e5, e6]; simp; omega)) ?_)), ?_⟩
    · rw [w, hsh]
      exact Ev.pos (by omega) g1.ev
    · have hne : y % 2 ^ (P - 1) * 2 ^ (65 - P) ≠ 0 := Nat.mul_ne_zero c (by have := Nat.two_pow_pos (65 - P); omega)
      rw [g2, bl_append, bl_append, e5, e6]
      unfold mantT
      rw [if_neg hne]; simp
/-- The digits behind the highest bit. -/
theorem rst_full {P F : Nat} (hP : 1 ≤ P) (hF : F < 2 ^ (P - 1)) : blen (F + 2 ^ (P - 1)) = P ∧ rst (F + 2 ^ (P - 1)) = F * 2 ^ (65 - P) := by
  have hb : blen (F + 2 ^ (P - 1)) = P := by
    have := blen_eq (n := F + 2 ^ (P - 1)) (k := P - 1) (by omega) (by rw [Nat.pow_succ]; omega)
    omega
  refine ⟨hb, ?_⟩
  unfold rst
  rw [hb, Nat.add_sub_cancel]
theorem rst_short {P F : Nat} (hP : P ≤ 53) (h0 : F ≠ 0) (hF : F < 2 ^ (P - 1)) : blen F ≤ P - 1 ∧ (F * 2 ^ (P - blen F)) % 2 ^ (P - 1) * 2 ^ (65 - P) = rst F := by
  have hb := blen_le_iff.2 hF
  have b1 := blen_le h0
  have b2 := blen_lt F
  have b3 := blen_pos h0
  refine ⟨hb, ?_⟩
  obtain ⟨d, hd⟩ : ∃ d, F = 2 ^ (blen F - 1) + d := ⟨F - 2 ^ (blen F - 1), by omega⟩
  have hdl : d < 2 ^ (blen F - 1) := by
    have : 2 ^ blen F = 2 * 2 ^ (blen F - 1) := by rw [show blen F = (blen F - 1) + 1 by omega, Nat.pow_succ, Nat.mul_comm]; rfl
    omega
  unfold rst
  generalize blen F = b at *
  have e1 : 2 ^ (b - 1) * 2 ^ (P - b) = 2 ^ (P - 1) := by rw [← Nat.pow_add]; congr 1; omega
  have e2 : F * 2 ^ (P - b) = 2 ^ (P - 1) + d * 2 ^ (P - b) := by rw [hd, Nat.add_mul, e1]
  have e3 : d * 2 ^ (P - b) < 2 ^ (P - 1) := by rw [← e1]; exact Nat.mul_lt_mul_of_pos_right hdl (Nat.two_pow_pos _)
  rw [e2, Nat.add_mod_left, Nat.mod_eq_of_lt e3, show F - 2 ^ (b - 1) = d by omega, Nat.mul_assoc, ← Nat.pow_add]
  congr 2; omega
theorem print_l2 {P F : Nat} (h8 : 8 ≤ P) (h53 : P ≤ 53) (h0 : F ≠ 0) (hF : F < 2 ^ (P - 1)) {em : Int} (hem : -1022 ≤ em ∧ em ≤ 1000) (t : ByteArray) {r : ByteArray × Int}
    (hr : Ev (fun k => hexes_Print.j3 k ((F * 2 ^ (P - blen F) : Nat) : Int) t ((P - 1 : Nat) : Int) (em - ((P - blen F : Nat) : Int))) r) (n : Nat) : ∀ j : Nat, j + n = P - blen F → Ev2 (fun k m => hexes_Print.l2 k m ((F * 2 ^ j : Nat) : Int) t ((P - 1 : Nat) : Int) (em - (j : Int))) r := by
  have hb := blen_le_iff.2 hF
  have b2 := blen_lt F
  have b1 := blen_le h0
  have b3 := blen_pos h0
  have hP53 : 2 ^ P ≤ 2 ^ 53 := Nat.pow_le_pow_right (by decide) h53
  have top : ∀ j, j ≤ P - blen F → F * 2 ^ j < 2 ^ P := by
    intro j hj
    have h1 : F * 2 ^ j < 2 ^ blen F * 2 ^ j := Nat.mul_lt_mul_of_pos_right b2 (Nat.two_pow_pos _)
    rw [← Nat.pow_add] at h1
    exact Nat.lt_of_lt_of_le h1 (Nat.pow_le_pow_right (by decide) (by omega))
  induction n with
  | zero =>
    intro j hj
    have hj' : j = P - blen F := by omega
    have ht := top j (by omega)
    have hge : 2 ^ (P - 1) ≤ F * 2 ^ j := by
      have h1 : 2 ^ (blen F - 1) * 2 ^ j ≤ F * 2 ^ j := Nat.mul_le_mul_right _ b1
      rw [← Nat.pow_add, show blen F - 1 + j = P - 1 by omega] at h1
      exact h1
    refine Ev2.step (fun k m => hexes_Print.l2_eq k m _ _ _ _) (Ev2.pos (by omega) ?_)
    rw [shrK_nat _ (P - 1) (by omega)]
    have hq : F * 2 ^ j / 2 ^ (P - 1) ≠ 0 := by
      have := (Nat.le_div_iff_mul_le (Nat.two_pow_pos (P - 1))).2 (show 1 * 2 ^ (P - 1) ≤ F * 2 ^ j by omega)
      omega
    subst hj'
    exact Ev2.neg (bF (by omega)) ⟨hr.choose, fun k hk n _ => hr.choose_spec k hk⟩
  | succ n ih =>
    intro j hj
    have ht := top (j + 1) (by omega)
    have hlt : F * 2 ^ j < 2 ^ (P - 1) := by
      have h1 : F * 2 ^ j < 2 ^ blen F * 2 ^ j := Nat.mul_lt_mul_of_pos_right b2 (Nat.two_pow_pos _)
      rw [← Nat.pow_add] at h1
      exact Nat.lt_of_lt_of_le h1 (Nat.pow_le_pow_right (by decide) (by omega))
    refine Ev2.step (fun k m => hexes_Print.l2_eq k m _ _ _ _) (Ev2.pos (by omega) ?_)
    rw [shrK_nat _ (P - 1) (by omega), Nat.div_eq_of_lt hlt]
    have e : F * 2 ^ j * 2 ^ 1 = F * 2 ^ (j + 1) := by rw [Nat.mul_assoc, ← Nat.pow_add]
    have hs := shlK_exact (F * 2 ^ j) 1 (by decide) (by rw [e]; omega)
    rw [e, show ((1 : Nat) : Int) = 1 from rfl] at hs
    rw [hs, show IntKind.i64.wrap (em - (j : Int) - 1) = em - ((j + 1 : Nat) : Int) by rw [wrapI (by omega) (by omega)]; omega]
    exact Ev2.pos (bT rfl) (ih (j + 1) (by omega))
section
variable {f : Int} {W P : Nat} {em ex : Int} (h : Fm f W P em ex)
include h
theorem print_fin {a : Nat} (ha : a < 2 ^ W) (hi : pk W a < infP W P) (h0 : pk W a ≠ 0) (neg : Bool) (t : ByteArray) (ht : bl t = sgT neg) :
    ∃ s : ByteArray, Ev (fun k => hexes_Print.j1 k f ((pk W a / 2 ^ (P - 1) : Nat) : Int) ((pk W a % 2 ^ (P - 1) : Nat) : Int) t) (s, 0) ∧ bl s = finT neg (fN P (pk W a / 2 ^ (P - 1)) (pk W a % 2 ^ (P - 1))) (em - (P : Int) + 1 + (fQ (pk W a / 2 ^ (P - 1)) : Int)) := by
  have h8 := h.p8
  have h53 := h.p53
  have m0 := h.m0
  have m1 := h.m1
  have hwp := h.wp
  have h11 := h.wp11
  obtain ⟨x1, x2, x3⟩ := fm_ex h
  have hpp := Nat.two_pow_pos (P - 1)
  have hF := Nat.mod_lt (pk W a) hpp
  have hdm := Nat.div_add_mod (pk W a) (2 ^ (P - 1))
  have hE : pk W a / 2 ^ (P - 1) < eTop W P := by
    rw [Nat.div_lt_iff_lt_mul hpp]
    exact hi
  have htl : (bl t).length ≤ 1 := by rw [ht]; exact sgT_len neg
  have start : ∀ {r}, _ → Ev (fun k => hexes_Print.j1 k f ((pk W a / 2 ^ (P - 1) : Nat) : Int) ((pk W a % 2 ^ (P - 1) : Nat) : Int) t) r := fun hh => Ev.congr (fun k => hexes_Print.j1_eq k _ _ _ _) (Ev.bind (Ev.of fun k => params_at h k) hh)
  have w1 : IntKind.i64.wrap ((P : Int) - 1) = ((P - 1 : Nat) : Int) := by rw [wrapI (by omega) (by omega)]; omega
  simp only at start
  rw [w1] at start
  generalize pk W a / 2 ^ (P - 1) = E at *
  generalize hFe : pk W a % 2 ^ (P - 1) = F at *
  unfold finT fN fQ
  have het : (eTop W P : Int) = 2 * ex + 1 := by rw [x3]; omega
  by_cases c : E = 0
  · subst c
    have hF0 : F ≠ 0 := by
      intro z
      rw [z] at hdm; simp at hdm; omega
    obtain ⟨r1, r2⟩ := rst_short h53 hF0 hF
    have b2 := blen_lt F
    have b3 := blen_pos hF0
    have top : F * 2 ^ (P - blen F) < 2 ^ P := by
      have h1 : F * 2 ^ (P - blen F) < 2 ^ blen F * 2 ^ (P - blen F) := Nat.mul_lt_mul_of_pos_right b2 (Nat.two_pow_pos _)
      rwa [← Nat.pow_add, show blen F + (P - blen F) = P by omega] at h1
    obtain ⟨s, g1, g2⟩ := print_j3 h8 h53 top (q := em - ((P - blen F : Nat) : Int)) (by omega) t (by omega)
    have g3 := (print_l2 h8 h53 hF0 hF (em := em) (by omega) t g1 (P - blen F) 0 (by omega)).ev
    rw [Nat.pow_zero, Nat.mul_one, show em - ((0 : Nat) : Int) = em by omega] at g3
    refine ⟨s, start (Ev.pos (bT rfl) g3), ?_⟩
    rw [g2, r2, ht, if_pos rfl, if_pos rfl, show em - (P : Int) + 1 + ((0 : Nat) : Int) + (blen F : Int) - 1 = em - ((P - blen F : Nat) : Int) by omega]
  · obtain ⟨r1, r2⟩ := rst_full (show 1 ≤ P by omega) hF
    have w2 : IntKind.i64.wrap ((E : Nat) : Int) = (E : Int) := wrapI (by omega) (by omega)
    have w3 : IntKind.i64.wrap (em + (E : Int)) = em + (E : Int) := wrapI (by omega) (by omega)
    have w4 : IntKind.i64.wrap (em + (E : Int) - 1) = em + (E : Int) - 1 := wrapI (by omega) (by omega)
    rw [w2, w3, w4] at start
    have hp2 : 2 ^ (P - 1) ≤ 2 ^ P := Nat.pow_le_pow_right (by decide) (by omega)
    obtain ⟨s, g1, g2⟩ := print_j3 h8 h53 (show F < 2 ^ P by omega) (q := em + (E : Int) - 1) (by omega) t (by omega)
    refine ⟨s, start (Ev.neg (bF (by omega)) g1), ?_⟩
    rw [g2, Nat.mod_eq_of_lt hF, ht, if_neg c, if_neg c, r1, r2, show em - (P : Int) + 1 + ((E - 1 : Nat) : Int) + (P : Int) - 1 = em + (E : Int) - 1 by omega]
/-- The program's text. -/
theorem print_ev {a : Nat} (ha : a < 2 ^ W) : ∃ s : ByteArray, Ev (fun k => hexes_Print k f (a : Int)) (s, 0) ∧ bl s = txtF W P em a := by
  have e0 : bl hexes_Print.s0 = [] := by decide
  have e1 : bl hexes_Print.s1 = [45] := by decide
  have e2 : bl hexes_Print.s2 = nanL := by decide
  have e3 : bl hexes_Print.s3 = infL := by decide
  have e4 : bl hexes_Print.s4 = zeroL := by decide
  have key : ∀ (t : ByteArray), bl t = sgT (ps W a) → ∃ s : ByteArray, Ev (fun k => hexes_Print.j0 k f (clsOf W P (pk W a) (ps W a)) ((pk W a / 2 ^ (P - 1) : Nat) : Int) ((pk W a % 2 ^ (P - 1) : Nat) : Int) t) (s, 0) ∧ bl s = txtF W P em a := by
    intro t ht
    have htl := sgT_len (ps W a)
    have c3 : (((t.size + hexes_Print.s3.size) : Nat) : Int) ≤ 9223372036854775807 := cat_le (by rw [ht, e3]; simp [infL]; omega)
    have c4 : (((t.size + hexes_Print.s4.size) : Nat) : Int) ≤ 9223372036854775807 := cat_le (by rw [ht, e4]; simp [zeroL]; omega)
    have b3 : bl (t ++ hexes_Print.s3) = sgT (ps W a) ++ infL := by rw [bl_append, ht, e3]
    have b4 : bl (t ++ hexes_Print.s4) = sgT (ps W a) ++ zeroL := by rw [bl_append, ht, e4]
    have st : ∀ {c : Int} {r}, _ → Ev (fun k => hexes_Print.j0 k f c ((pk W a / 2 ^ (P - 1) : Nat) : Int) ((pk W a % 2 ^ (P - 1) : Nat) : Int) t) r := fun hh => Ev.congr (fun k => hexes_Print.j0_eq k _ _ _ _ _) hh
    by_cases n1 : infP W P + 2 ^ (P - 2) ≤ pk W a
    · have := Nat.two_pow_pos (P - 2)
      have hC : clsOf W P (pk W a) (ps W a) = 1 := by unfold clsOf; rw [if_pos n1]
      have hT : txtF W P em a = nanL := by unfold txtF; rw [if_pos (show infP W P < pk W a by omega)]
      rw [hC, hT]
      exact ⟨_, st (Ev.neg (by decide) (Ev.pos (by decide) (Ev.some _))), e2⟩
    · by_cases n2 : infP W P < pk W a
      · have hC : clsOf W P (pk W a) (ps W a) = 0 := by unfold clsOf; rw [if_neg n1, if_pos n2]
        have hT : txtF W P em a = nanL := by unfold txtF; rw [if_pos n2]
        rw [hC, hT]
        exact ⟨_, st (Ev.pos (by decide) (Ev.pos (by decide) (Ev.some _))), e2⟩
      · by_cases n3 : pk W a = infP W P
        · have hT : txtF W P em a = sgT (ps W a) ++ infL := by unfold txtF; rw [if_neg n2, if_pos n3]
          cases hs : ps W a with
          | true =>
            rw [hs] at b3 hT
            have hC : clsOf W P (pk W a) true = 2 := by unfold clsOf; rw [if_neg n1, if_neg n2, if_pos rfl, if_pos n3]
            rw [hC, hT]
            exact ⟨_, st (Ev.neg (by decide) (Ev.neg (by decide) (Ev.pos (by decide) (Ev.pos (by decide) (Ev.pos c3 (Ev.some _)))))), b3⟩
          | false =>
            rw [hs] at b3 hT
            have hC : clsOf W P (pk W a) false = 9 := by unfold clsOf; rw [if_neg n1, if_neg n2, if_neg (by simp), if_pos n3]
            rw [hC, hT]
            exact ⟨_, st (Ev.neg (by decide) (Ev.neg (by decide) (Ev.neg (by decide) (Ev.pos (by decide) (Ev.pos c3 (Ev.some _)))))), b3⟩
        · by_cases n4 : pk W a = 0
          · have hT : txtF W P em a = sgT (ps W a) ++ zeroL := by unfold txtF; rw [if_neg n2, if_neg n3, if_pos n4]
            cases hs : ps W a with
            | true =>
              rw [hs] at b4 hT
              have hC : clsOf W P (pk W a) true = 5 := by unfold clsOf; rw [if_neg n1, if_neg n2, if_pos rfl, if_neg n3, if_pos n4]
              rw [hC, hT]
              exact ⟨_, st (Ev.neg (by decide) (Ev.neg (by decide) (Ev.neg (by decide) (Ev.neg (by decide) (Ev.pos (by decide) (Ev.pos (by decide) (Ev.pos c4 (Ev.some _)))))))), b4⟩
            | false =>
              rw [hs] at b4 hT
              have hC : clsOf W P (pk W a) false = 6 := by unfold clsOf; rw [if_neg n1, if_neg n2, if_neg (by simp), if_neg n3, if_pos n4]
              rw [hC, hT]
              exact ⟨_, st (Ev.neg (by decide) (Ev.neg (by decide) (Ev.neg (by decide) (Ev.neg (by decide) (Ev.neg (by decide) (Ev.pos (by decide) (Ev.pos c4 (Ev.some _)))))))), b4⟩
          · have hT : txtF W P em a = finT (ps W a) (fN P (pk W a / 2 ^ (P - 1)) (pk W a % 2 ^ (P - 1))) (em - (P : Int) + 1 + (fQ (pk W a / 2 ^ (P - 1)) : Int)) := by unfold txtF; rw [if_neg n2, if_neg n3, if_neg n4]
            obtain ⟨s, g1, g2⟩ := print_fin h ha (by omega) n4 (ps W a) t ht
            rw [hT]
            refine ⟨s, ?_, g2⟩
            have go : ∀ c : Int, c = 3 ∨ c = 4 ∨ c = 7 ∨ c = 8 → Ev (fun k => hexes_Print.j0 k f c ((pk W a / 2 ^ (P - 1) : Nat) : Int) ((pk W a % 2 ^ (P - 1) : Nat) : Int) t) (s, 0) := fun c hc => st (Ev.neg (bF (by omega)) (Ev.neg (bF (by omega)) (Ev.neg (bF (by omega)) (Ev.neg (bF (by omega)) (Ev.neg (bF (by omega)) (Ev.neg (bF (by omega)) g1))))))
            refine go _ ?_
            unfold clsOf
            rw [if_neg n1, if_neg n2]
            cases ps W a
            · rw [if_neg (by simp), if_neg n3, if_neg n4]
              split
              · exact .inr (.inr (.inl rfl))
              · exact .inr (.inr (.inr rfl))
            · rw [if_pos rfl, if_neg n3, if_neg n4]
              split
              · exact .inr (.inl rfl)
              · exact .inl rfl
  refine ⟨(key (if ps W a then hexes_Print.s1 else hexes_Print.s0) (by cases ps W a <;> simp [sgT, e0, e1])).choose, ?_, (key (if ps W a then hexes_Print.s1 else hexes_Print.s0) (by cases ps W a <;> simp [sgT, e0, e1])).choose_spec.2⟩
  have g := (key (if ps W a then hexes_Print.s1 else hexes_Print.s0) (by cases ps W a <;> simp [sgT, e0, e1])).choose_spec.1
  revert g
  generalize (key (if ps W a then hexes_Print.s1 else hexes_Print.s0) (by cases ps W a <;> simp [sgT, e0, e1])).choose = s
  intro g
  refine Ev.congr (fun k => hexes_Print_eq k _ _) (Ev.bind (Ev.of fun k => class_pk h ha k) (Ev.neg (nF rfl) (Ev.bind (Ev.of fun k => fields_pk h ha k) ?_)))
  cases hs : ps W a with
  | true => rw [hs] at g; exact Ev.pos rfl g
  | false => rw [hs] at g; exact Ev.neg (by simp) g
end
end Go.Proofs.YtmoeaeflljpboaaDoor.X
