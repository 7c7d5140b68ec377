/- Plain law: a float's printed text, read: it says that float. Conditions: the pattern is of its format's width. -/
import Derived.Test.YtmoeaeflljpboaaDoorHxR
namespace Go.Proofs.YtmoeaeflljpboaaDoor.X
open Go Go.Rex
set_option linter.unusedVariables false

/-! ### Digits that are read -/
/-- The digits of a word, as numbers. -/
def hxd : Nat → Nat → List Int
  | 0, _ => []
  | n + 1, r => if r = 0 then [] else ((r / 2 ^ 60 : Nat) : Int) :: hxd n (r * 16 % 2 ^ 64)
theorem hxd_len : ∀ (n r : Nat), (hxd n r).length ≤ n
  | 0, _ => Nat.le_refl _
  | n + 1, r => by
    rw [hxd]
    split
    · simp
    · have := hxd_len n (r * 16 % 2 ^ 64); simp; omega
/-- A letter as it stands, or as a great one. -/
def upc (up : Bool) (c : Int) : Int := if up = true ∧ 97 ≤ c ∧ c ≤ 122 then c - 32 else c
theorem hexD_c : ∀ (up : Bool) (d : Fin 16), hexD (upc up (hexc d.val)) = (d.val : Int) := by decide
theorem rdF_digits (up : Bool) : ∀ (n r : Nat), r < 2 ^ 64 → ∀ (ds : List Int) (bh : Nat) (tl : List Int), rdF ((hexs n r).map (upc up) ++ tl) true ds bh = rdF tl true (ds ++ hxd n r) (bh + (hxd n r).length)
  | 0, r, _, ds, bh, tl => by simp [hexs, hxd]
  | n + 1, r, hr, ds, bh, tl => by
    rw [hexs, hxd]
    by_cases c : r = 0
    · rw [if_pos c, if_pos c]; simp
    · rw [if_neg c, if_neg c]
      have hd := hexD_c up ⟨r / 2 ^ 60, by omega⟩
      simp only at hd
      rw [List.map_cons, List.cons_append, rdF, hd, if_pos (by omega), if_pos rfl, rdF_digits up n (r * 16 % 2 ^ 64) (Nat.mod_lt _ (by decide)), List.append_assoc, List.length_cons]
      congr 1; omega
theorem hxd_val : ∀ (n r : Nat), n ≤ 16 → r < 2 ^ 64 → 2 ^ (64 - 4 * n) ∣ r → hexN (hxd n r) * 2 ^ (64 - 4 * (hxd n r).length) = r
  | 0, r, _, hr, hd => by
    obtain ⟨c, rfl⟩ := hd
    have : c = 0 := by
      rcases Nat.eq_zero_or_pos c with g | g
      · exact g
      · have := Nat.mul_le_mul_left (2 ^ 64) g
        simp at hr; omega
    subst this
    simp [hxd, hexN]
  | n + 1, r, hn, hr, hd => by
    rw [hxd]
    by_cases c : r = 0
    · rw [if_pos c, c]; simp [hexN]
    · rw [if_neg c]
      have hd' : 2 ^ (64 - 4 * n) ∣ r * 16 % 2 ^ 64 := by
        have h1 : 2 ^ (64 - 4 * n) ∣ r * 16 := by
          have e : 2 ^ (64 - 4 * n) = 2 ^ (64 - 4 * (n + 1)) * 16 := by rw [show 64 - 4 * n = 64 - 4 * (n + 1) + 4 by omega, Nat.pow_add]
          rw [e]; exact Nat.mul_dvd_mul_right hd 16
        exact (Nat.dvd_mod_iff (Nat.pow_dvd_pow 2 (by omega))).2 h1
      have ih := hxd_val n (r * 16 % 2 ^ 64) (by omega) (Nat.mod_lt _ (by decide)) hd'
      have hl := hxd_len n (r * 16 % 2 ^ 64)
      generalize hxd n (r * 16 % 2 ^ 64) = t at *
      have e0 : hexN (((r / 2 ^ 60 : Nat) : Int) :: t) = r / 2 ^ 60 * 16 ^ t.length + hexN t := by
        have := hexN_from t (16 * 0 + (((r / 2 ^ 60 : Nat) : Int)).toNat)
        rw [Int.toNat_natCast] at this
        unfold hexN at *
        rw [List.foldl_cons, Int.toNat_natCast, this]
        simp
      have e1 : r * 16 % 2 ^ 64 = r % 2 ^ 60 * 16 := by omega
      rw [e1] at ih
      have e2 : 2 ^ (64 - 4 * t.length) = 2 ^ (60 - 4 * t.length) * 16 := by rw [show 64 - 4 * t.length = 60 - 4 * t.length + 4 by omega, Nat.pow_add]
      rw [e2, ← Nat.mul_assoc] at ih
      have e3 := Nat.eq_of_mul_eq_mul_right (by decide) ih
      rw [e0, List.length_cons, show 64 - 4 * (t.length + 1) = 60 - 4 * t.length by omega, Nat.add_mul, e3, Nat.mul_assoc, show (16 : Nat) ^ t.length = 2 ^ (4 * t.length) by rw [Nat.pow_mul], ← Nat.pow_add, show 4 * t.length + (60 - 4 * t.length) = 60 by omega]
      omega
/-! ### Exponents that are read -/
/-- Decimal digits. -/
def DigL (l : List Int) : Prop := ∀ x ∈ l, 48 ≤ x ∧ x ≤ 57
theorem xvF_small {cap : Nat} : ∀ (l : List Int) (x : Nat), DigL l → x * 10 ^ l.length + dval l ≤ cap → xvF cap l x = some (x * 10 ^ l.length + dval l)
  | [], x, _, _ => by simp [xvF, dval]
  | c :: r, x, hd, h => by
    have hc := hd c List.mem_cons_self
    have e : dval (c :: r) = (c - 48).toNat * 10 ^ r.length + dval r := by
      have := dval_from r (10 * 0 + (c - 48).toNat)
      unfold dval at *
      rw [List.foldl_cons]
      simpa using this
    have e2 : x * 10 ^ (c :: r).length + dval (c :: r) = (10 * x + (c - 48).toNat) * 10 ^ r.length + dval r := by
      rw [e, List.length_cons, Nat.pow_succ]; grind
    have hp : 0 < 10 ^ r.length := Nat.pow_pos (by decide)
    rw [e2] at h ⊢
    have h1 : 10 * x + (c - 48).toNat ≤ cap := by
      have := Nat.le_mul_of_pos_right (10 * x + (c - 48).toNat) hp
      omega
    rw [xvF, if_pos hc, Nat.min_eq_left h1]
    exact xvF_small r _ (fun y hy => hd y (List.mem_cons_of_mem _ hy)) h
theorem dig_decL (n : Nat) : DigL (decL n) ∧ dval (decL n) = n ∧ decL n ≠ [] := by
  unfold decL
  by_cases c : n = 0
  · rw [if_pos c, c]; exact ⟨by intro x hx; simp at hx; omega, by decide, by simp⟩
  · rw [if_neg c]
    refine ⟨fun x hx => decs_dig n x (List.mem_reverse.1 hx), dval_decs n, ?_⟩
    intro z
    have := List.reverse_eq_nil_iff.1 z
    exact c (decs_nil.1 this)
theorem expF_numT {q : Int} {cap : Nat} (h : q.natAbs ≤ cap) : expF cap (numT q) = some q := by
  obtain ⟨d1, d2, d3⟩ := dig_decL q.natAbs
  have hx := xvF_small (cap := cap) (decL q.natAbs) 0 d1 (by rw [d2]; omega)
  rw [d2, Nat.zero_mul, Nat.zero_add] at hx
  have hs : sgnL (numT q) = (decide (q < 0), decL q.natAbs) := by
    unfold numT
    by_cases c : q < 0
    · rw [if_pos c, decide_eq_true c]; rfl
    · rw [if_neg c, decide_eq_false c]; rfl
  unfold expF
  rw [hs]
  simp only
  rw [if_neg d3, hx]
  show some (if decide (q < 0) = true then -((q.natAbs : Nat) : Int) else ((q.natAbs : Nat) : Int)) = some q
  congr 1
  by_cases c : q < 0
  · rw [decide_eq_true c, if_pos rfl]; omega
  · rw [decide_eq_false c, if_neg (by simp)]; omega
theorem up_numT (up : Bool) (q : Int) : (numT q).map (upc up) = numT q := by
  obtain ⟨d1, _, _⟩ := dig_decL q.natAbs
  have key : ∀ l : List Int, (∀ x ∈ l, x < 97) → l.map (upc up) = l := by
    intro l hl
    conv => rhs; rw [← List.map_id l]
    refine List.map_congr_left fun x hx => ?_
    have := hl x hx
    unfold upc
    rw [if_neg (by omega)]; rfl
  refine key _ ?_
  intro x hx
  unfold numT at hx
  rcases List.mem_cons.1 hx with g | g
  · subst g; split <;> omega
  · have := d1 x g; omega

/-! ### A number's text -/
/-- Behind the sign. -/
def bodyT (R : Nat) (q : Int) : List Int := [48, 120, 49] ++ mantT R ++ 112 :: numT q
theorem finT_body (neg : Bool) (n : Nat) (e : Int) : finT neg n e = sgT neg ++ bodyT (rst n) (e + (blen n : Int) - 1) := by
  unfold finT bodyT; simp
theorem upc49 (up : Bool) : upc up 49 = 49 := by cases up <;> decide
theorem sd_body (up : Bool) {R : Nat} (hR : R < 2 ^ 64) {q : Int} {cap : Nat} (hq : q.natAbs ≤ cap) : sdF cap ((bodyT R q).map (upc up)) = .num (1 :: hxd 16 R) (hxd 16 R).length q := by
  have hm : (bodyT R q).map (upc up) = 48 :: upc up 120 :: 49 :: ((mantT R).map (upc up) ++ upc up 112 :: numT q) := by
    unfold bodyT
    have e : ([48, 120, 49] : List Int).map (upc up) = [48, upc up 120, 49] := by cases up <;> rfl
    rw [List.map_append, List.map_append, e, List.map_cons, up_numT]; simp
  have h112 : hexD (upc up 112) < 0 ∧ upc up 112 ≠ 46 ∧ (upc up 112 = 112 ∨ upc up 112 = 80) := by cases up <;> decide
  have hp : ∀ pt ds bh, rdF (upc up 112 :: numT q) pt ds bh = some (ds, bh, some (numT q)) := by
    intro pt ds bh
    rw [rdF, if_neg (by omega), if_neg (fun h => h112.2.1 h.1), if_pos h112.2.2]
  have hr : rdF (49 :: ((mantT R).map (upc up) ++ upc up 112 :: numT q)) false [] 0 = some (1 :: hxd 16 R, (hxd 16 R).length, some (numT q)) := by
    rw [rdF, show hexD 49 = 1 by decide, if_pos (by decide), if_neg (by simp), List.nil_append]
    unfold mantT
    by_cases c : R = 0
    · rw [if_pos c, List.map_nil, List.nil_append, hp, c]; rfl
    · rw [if_neg c, List.map_cons, show upc up 46 = 46 by cases up <;> decide, List.cons_append, rdF, show hexD 46 = -1 by decide, if_neg (by decide), if_pos ⟨rfl, rfl⟩, rdF_digits up 16 R hR, hp]; simp
  rw [hm]
  unfold sdF
  have w1 : isW (48 :: upc up 120 :: 49 :: ((mantT R).map (upc up) ++ upc up 112 :: numT q)) nanL = false := by
    unfold nanL; rw [isW]; rfl
  have w2 : isW (48 :: upc up 120 :: 49 :: ((mantT R).map (upc up) ++ upc up 112 :: numT q)) infL = false := by
    unfold infL; rw [isW]; rfl
  have w3 : pre0x (48 :: upc up 120 :: 49 :: ((mantT R).map (upc up) ++ upc up 112 :: numT q)) = true := by
    unfold pre0x
    rw [decide_eq_true (by simp)]
    cases up <;> rfl
  rw [w1, w2, w3]
  simp only [Bool.false_eq_true, if_false, if_true]
  have w4 : (48 :: upc up 120 :: 49 :: ((mantT R).map (upc up) ++ upc up 112 :: numT q)).drop 2 = 49 :: ((mantT R).map (upc up) ++ upc up 112 :: numT q) := rfl
  rw [w4]
  unfold readF
  rw [hr]
  simp only
  rw [expF_numT hq]
  simp only
  rw [if_neg (by simp)]
/-- Signs in front. -/
theorem sgn_of {l : List Int} (neg : Bool) (h : headIs l 45 = false) (h2 : headIs l 43 = false) : sgnL (sgT neg ++ l) = (neg, l) := by
  cases neg with
  | true => rfl
  | false => exact sgnL_none h h2
theorem p2_both {M V a b : Nat} {z : Int} (hz : z = (a : Int) - (b : Int)) (h : M * 2 ^ a = V * 2 ^ b) : M * p2 z = V * p2 (-z) := by
  rcases Nat.le_total b a with c | c
  · obtain ⟨d, rfl⟩ := Nat.exists_eq_add_of_le c
    have e1 : p2 z = 2 ^ d := by unfold p2; rw [hz]; congr 1; omega
    have e2 : p2 (-z) = 1 := p2_neg (by omega)
    rw [e1, e2, Nat.mul_one]
    rw [Nat.add_comm, Nat.pow_add, ← Nat.mul_assoc] at h
    exact Nat.eq_of_mul_eq_mul_right (Nat.two_pow_pos b) h
  · obtain ⟨d, rfl⟩ := Nat.exists_eq_add_of_le c
    have e1 : p2 (-z) = 2 ^ d := by unfold p2; rw [hz]; congr 1; omega
    have e2 : p2 z = 1 := p2_neg (by omega)
    rw [e1, e2, Nat.mul_one]
    rw [Nat.add_comm, Nat.pow_add, ← Nat.mul_assoc] at h
    exact Nat.eq_of_mul_eq_mul_right (Nat.two_pow_pos a) h
section
variable {f : Int} {W P : Nat} {em ex : Int} (h : Fm f W P em ex)
include h
/-- A number's digits, rounded: the number. -/
theorem back_num {k : Nat} (hk : k < infP W P) (h0 : k ≠ 0) (m : Int) (neg : Bool) (n : Nat) (hn : n = fN P (k / 2 ^ (P - 1)) (k % 2 ^ (P - 1))) (e : Int) (he : e = em - (P : Int) + 1 + (fQ (k / 2 ^ (P - 1)) : Int)) :
    finR W P em m neg (hexN (1 :: hxd 16 (rst n))) (e + (blen n : Int) - 1 - 4 * ((hxd 16 (rst n)).length : Int)) = (((k + sgB neg W : Nat) : Int), 0) := by
  have h8 := h.p8
  have h53 := h.p53
  have hpp := Nat.two_pow_pos (P - 1)
  have hF := Nat.mod_lt k hpp
  have hdm := Nat.div_add_mod k (2 ^ (P - 1))
  have hv := plV_pat (P := P) (by omega) k
  rw [← hn] at hv
  have hne : n ≠ 0 := by
    intro z
    rw [z, Nat.zero_mul] at hv
    exact h0 ((plV_zero (by omega)).1 hv.symm)
  have hnlt : n < 2 ^ 53 := by
    have h1 : 2 ^ (P - 1) + 2 ^ (P - 1) ≤ 2 ^ 53 := by
      have : 2 ^ (P - 1 + 1) ≤ 2 ^ 53 := Nat.pow_le_pow_right (by decide) (by omega)
      rw [Nat.pow_succ] at this; omega
    rw [hn]
    unfold fN
    split <;> omega
  have hb : blen n ≤ 53 := blen_le_iff.2 hnlt
  have hb0 := blen_pos hne
  obtain ⟨-, hR⟩ := rst_shift hne (by omega)
  have hx := hxd_val 16 (rst n) (by decide) hR ⟨rst n, by simp⟩
  have hL := hxd_len 16 (rst n)
  have b1 := blen_le hne
  have hN : hexN (1 :: hxd 16 (rst n)) * 2 ^ (64 - 4 * (hxd 16 (rst n)).length) = n * 2 ^ (65 - blen n) := by
    have e0 : hexN (1 :: hxd 16 (rst n)) = 16 ^ (hxd 16 (rst n)).length + hexN (hxd 16 (rst n)) := by
      have := hexN_from (hxd 16 (rst n)) (16 * 0 + (1 : Int).toNat)
      unfold hexN at *
      rw [List.foldl_cons]
      simpa using this
    rw [e0, Nat.add_mul, hx, show (16 : Nat) ^ (hxd 16 (rst n)).length = 2 ^ (4 * (hxd 16 (rst n)).length) by rw [Nat.pow_mul], ← Nat.pow_add, show 4 * (hxd 16 (rst n)).length + (64 - 4 * (hxd 16 (rst n)).length) = 64 by omega]
    have e1 : 2 ^ (blen n - 1) * 2 ^ (65 - blen n) = 2 ^ 64 := by rw [← Nat.pow_add, show blen n - 1 + (65 - blen n) = 64 by omega]
    unfold rst
    rw [← e1, ← Nat.add_mul]
    congr 1; omega
  have hN0 : hexN (1 :: hxd 16 (rst n)) ≠ 0 := by
    intro z
    rw [z, Nat.zero_mul] at hN
    have := Nat.mul_ne_zero hne (by have := Nat.two_pow_pos (65 - blen n); omega : 2 ^ (65 - blen n) ≠ 0)
    exact this hN.symm
  generalize hexN (1 :: hxd 16 (rst n)) = N at *
  generalize (hxd 16 (rst n)).length = L at *
  unfold finR
  rw [if_neg hN0]
  have hz := p2_both (M := N) (V := plV P k) (a := 64 - 4 * L + (fQ (k / 2 ^ (P - 1)) + blen n - 1)) (b := 64) (z := e + (blen n : Int) - 1 - 4 * (L : Int) - (em - (P : Int) + 1)) (by rw [he]; omega) (by
    rw [Nat.pow_add, ← Nat.mul_assoc, hN, ← hv, Nat.mul_assoc, Nat.mul_assoc, ← Nat.pow_add, ← Nat.pow_add]
    congr 2; omega)
  have hc := rnOut_cross W P m neg (A := qA N (e + (blen n : Int) - 1 - 4 * (L : Int)) false (em - (P : Int) + 1)) (B := qB (e + (blen n : Int) - 1 - 4 * (L : Int)) false (em - (P : Int) + 1)) (A' := plV P k * 1) (B' := 1) (qB_pos _ _ _) (by decide) (by
    show N * p2 (e + (blen n : Int) - 1 - 4 * (L : Int) - (em - (P : Int) + 1)) * 1 = plV P k * 1 * (1 * p2 (em - (P : Int) + 1 - (e + (blen n : Int) - 1 - 4 * (L : Int))))
    rw [Nat.mul_one, Nat.mul_one, Nat.one_mul, hz]
    congr 2; omega)
  rw [hc]
  exact rnOut_rep (by omega) (by decide) hk m neg
/-- A printed text, in letters of any case, with or without a + in front: what it says. -/
theorem back_ans {a : Nat} (ha : a < 2 ^ W) (m : Int) (up : Bool) (pl : Bool) (hpl : pl = true → ps W a = false ∧ ¬ infP W P < pk W a) :
    ansF W P em m (sdF 30000 (sgnL ((if pl then [43] else []) ++ (txtF W P em a).map (upc up))).2) (sgnL ((if pl then [43] else []) ++ (txtF W P em a).map (upc up))).1 = ((if infP W P < pk W a then ((infP W P + 2 ^ (P - 2) : Nat) : Int) else (a : Int)), (0, 0)) := by
  have h8 := h.p8
  have h53 := h.p53
  have m0 := h.m0
  have m1 := h.m1
  have h11 := h.wp11
  obtain ⟨x1, x2, x3⟩ := fm_ex h
  obtain ⟨p1, p2', p3, p4, p5, p6⟩ := pat_parts h ha
  have sg : ∀ (l : List Int) (neg : Bool), headIs l 45 = false → headIs l 43 = false → (pl = true → neg = false) → sgnL ((if pl then [43] else []) ++ (sgT neg ++ l)) = (neg, l) := by
    intro l neg h1 h2 h3
    cases pl with
    | false => simp only [Bool.false_eq_true, if_false, List.nil_append]; exact sgn_of neg h1 h2
    | true =>
      rw [h3 rfl]; rfl
  have usg : ∀ neg : Bool, (sgT neg).map (upc up) = sgT neg := by intro neg; cases neg <;> cases up <;> decide
  have hneg : pl = true → ps W a = false := fun z => (hpl z).1
  unfold txtF
  by_cases n2 : infP W P < pk W a
  · rw [if_pos n2, if_pos n2]
    have : pl = false := by
      cases pl with
      | false => rfl
      | true => exact absurd n2 (hpl rfl).2
    rw [this]
    cases up
    · rw [show sgnL ((if false = true then [43] else []) ++ nanL.map (upc false)) = (false, nanL) by decide, show sdF 30000 nanL = .nan by rfl]
      rfl
    · rw [show sgnL ((if false = true then [43] else []) ++ nanL.map (upc true)) = (false, [78, 65, 78]) by decide, show sdF 30000 [78, 65, 78] = .nan by rfl]
      rfl
  · rw [if_neg n2, if_neg n2]
    by_cases n3 : pk W a = infP W P
    · rw [if_pos n3, List.map_append, usg, sg _ _ (by cases up <;> decide) (by cases up <;> decide) hneg]
      rw [show sdF 30000 (infL.map (upc up)) = .inf by cases up <;> rfl]
      show (((infP W P + sgB (ps W a) W : Nat) : Int), ((0 : Int), (0 : Int))) = _
      rw [← n3, ← p4]
    · rw [if_neg n3]
      by_cases n4 : pk W a = 0
      · rw [if_pos n4, List.map_append, usg, sg _ _ (by cases up <;> decide) (by cases up <;> decide) hneg]
        rw [show sdF 30000 (zeroL.map (upc up)) = .num [0] 0 0 by cases up <;> rfl]
        unfold ansF finR
        simp only
        rw [if_pos (show hexN [0] = 0 from rfl)]
        show (((sgB (ps W a) W : Nat) : Int), ((0 : Int), (0 : Int))) = _
        have hz : a = sgB (ps W a) W := by rw [n4] at p4; omega
        rw [← hz]
      · rw [if_neg n4, finT_body, List.map_append, usg]
        have hpp := Nat.two_pow_pos (P - 1)
        have hE : pk W a / 2 ^ (P - 1) < eTop W P := by
          rw [Nat.div_lt_iff_lt_mul hpp]
          have : pk W a < infP W P := by omega
          exact this
        have het : (eTop W P : Int) = 2 * ex + 1 := by rw [x3]; omega
        have hfq : fQ (pk W a / 2 ^ (P - 1)) ≤ 2100 := by unfold fQ; split <;> omega
        have hF := Nat.mod_lt (pk W a) hpp
        have hnlt : fN P (pk W a / 2 ^ (P - 1)) (pk W a % 2 ^ (P - 1)) < 2 ^ 53 := by
          have h1 : 2 ^ (P - 1) + 2 ^ (P - 1) ≤ 2 ^ 53 := by
            have : 2 ^ (P - 1 + 1) ≤ 2 ^ 53 := Nat.pow_le_pow_right (by decide) (by omega)
            rw [Nat.pow_succ] at this; omega
          unfold fN
          split <;> omega
        have hv := plV_pat (P := P) (by omega) (pk W a)
        have hne : fN P (pk W a / 2 ^ (P - 1)) (pk W a % 2 ^ (P - 1)) ≠ 0 := by
          intro z
          rw [z, Nat.zero_mul] at hv
          exact n4 ((plV_zero (by omega)).1 hv.symm)
        have hb : blen (fN P (pk W a / 2 ^ (P - 1)) (pk W a % 2 ^ (P - 1))) ≤ 53 := blen_le_iff.2 hnlt
        obtain ⟨-, hR⟩ := rst_shift hne (by omega)
        have bk := back_num h (k := pk W a) (by omega) n4 m (ps W a) _ rfl _ rfl
        rw [sg _ _ (by unfold bodyT; cases up <;> rfl) (by unfold bodyT; cases up <;> rfl) hneg]
        rw [sd_body up hR (cap := 30000) (by omega)]
        unfold ansF
        simp only
        rw [bk, ← p4]
theorem txt_len {a : Nat} (ha : a < 2 ^ W) : (txtF W P em a).length ≤ 40 := by
  have h8 := h.p8
  have m0 := h.m0
  have m1 := h.m1
  have h53 := h.p53
  have h11 := h.wp11
  obtain ⟨x1, x2, x3⟩ := fm_ex h
  have hs := sgT_len (ps W a)
  unfold txtF
  split
  · simp [nanL]
  · split
    · simp [infL]; omega
    · split
      · simp [zeroL]; omega
      · rename_i n2 n3 n4
        have hpp := Nat.two_pow_pos (P - 1)
        have hE : pk W a / 2 ^ (P - 1) < eTop W P := by
          rw [Nat.div_lt_iff_lt_mul hpp]
          have : pk W a < infP W P := by omega
          exact this
        have het : (eTop W P : Int) = 2 * ex + 1 := by rw [x3]; omega
        have hfq : fQ (pk W a / 2 ^ (P - 1)) ≤ 2100 := by unfold fQ; split <;> omega
        have hF := Nat.mod_lt (pk W a) hpp
        have hnlt : fN P (pk W a / 2 ^ (P - 1)) (pk W a % 2 ^ (P - 1)) < 2 ^ 53 := by
          have h1 : 2 ^ (P - 1) + 2 ^ (P - 1) ≤ 2 ^ 53 := by
            have : 2 ^ (P - 1 + 1) ≤ 2 ^ 53 := Nat.pow_le_pow_right (by decide) (by omega)
            rw [Nat.pow_succ] at this; omega
          unfold fN
          split <;> omega
        have hb : blen (fN P (pk W a / 2 ^ (P - 1)) (pk W a % 2 ^ (P - 1))) ≤ 53 := blen_le_iff.2 hnlt
        unfold finT mantT numT
        have hx := hexs_len 16 (rst (fN P (pk W a / 2 ^ (P - 1)) (pk W a % 2 ^ (P - 1))))
        have hd := dec_len6 (n := (em - (P : Int) + 1 + (fQ (pk W a / 2 ^ (P - 1)) : Int) + (blen (fN P (pk W a / 2 ^ (P - 1)) (pk W a % 2 ^ (P - 1))) : Int) - 1).natAbs) (by omega)
        simp only [List.length_append, List.length_cons, List.length_nil]
        split
        · simp; omega
        · simp; omega
end
end Go.Proofs.YtmoeaeflljpboaaDoor.X
