/- Plain law: what the program and the reference answer to a hexadecimal text: the same, for every text. Conditions: those of the two calls. -/
import Derived.Test.YtmoeaeflljpboaaDoorHxE
import Derived.Test.YtmoeaeflljpboaaDoorR6A
namespace Go.Proofs.YtmoeaeflljpboaaDoor.X
open Go Go.Rex
set_option linter.unusedVariables false

/-! ### Far out -/
/-- What a number far below the least becomes. -/
def tinyOut (W P : Nat) (m : Int) (neg : Bool) : Int × Int := if infP W P ≤ chs m neg 0 1 then (((beyN W P m neg : Nat) : Int), 20) else (((chs m neg 0 1 + sgB neg W : Nat) : Int), 24)
theorem rn_tiny (W : Nat) {P : Nat} (hP : 2 ≤ P) (m : Int) (neg : Bool) {A B : Nat} (h0 : 0 < A) (h1 : 2 * A < B) : rnOut W P m neg A B = tinyOut W P m neg := by
  have hs : shf P A B = 0 := by unfold shf; rw [Nat.div_eq_of_lt (by omega), blen_zero]; omega
  have hl : lft A B = 1 := by unfold lft; rw [if_neg (by omega), if_pos h1]
  have hc : cutN m neg A (B * 2 ^ 0) = chs m neg 0 1 := by
    unfold cutN
    rw [Nat.pow_zero, Nat.mul_one, Nat.div_eq_of_lt (by omega), Nat.mod_eq_of_lt (by omega), hl]
  have hr : rnd P m neg A B = chs m neg 0 1 := by unfold rnd; rw [hs, hc, Nat.zero_mul, Nat.zero_add]
  have hlp : lftP P A B = 1 := by unfold lftP lftN; rw [hs, Nat.pow_zero, Nat.mul_one, Nat.mod_eq_of_lt (by omega), hl]
  have ht : tinyB P m neg A B = true := by
    unfold tinyB
    have hp := Nat.two_pow_pos (P - 1)
    have h4 : 2 ^ 2 ≤ 2 ^ P := Nat.pow_le_pow_right (by decide) hP
    have h5 : B * 1 ≤ B * 2 ^ (P - 1) := Nat.mul_le_mul_left _ hp
    have h6 := chs_le m neg 0 (lft (2 * A % B) B)
    have h7 : cutN m neg (2 * A) B ≤ 1 := by unfold cutN; rw [Nat.div_eq_of_lt h1]; omega
    rw [decide_eq_true (by omega), decide_eq_true (by omega)]; rfl
  unfold rnOut tinyOut
  rw [hr, hlp, ht]
  by_cases c : infP W P ≤ chs m neg 0 1
  · rw [if_pos c, if_pos c]
  · rw [if_neg c, if_neg c, if_neg (show ¬ (1 = 0) by decide), if_pos rfl]
section
variable {f : Int} {W P : Nat} {em ex : Int} (h : Fm f W P em ex)
include h
theorem rn_over {n : Nat} (hn : n ≠ 0) {e : Int} (hc : ex < e + (blen n : Int) - 1) (m : Int) (neg : Bool) : rnOut W P m neg (qA n e false (em - (P : Int) + 1)) (qB e false (em - (P : Int) + 1)) = (((beyN W P m neg : Nat) : Int), 20) := by
  have h8 := h.p8
  have m0 := h.m0
  have m1 := h.m1
  obtain ⟨x1, x2, x3⟩ := fm_ex h
  have bpos := qB_pos e false (em - (P : Int) + 1)
  have hs := shf_q (e := e) (more := false) h hn
  obtain ⟨c1, c2⟩ := cut_facts (A := qA n e false (em - (P : Int) + 1)) (show 1 ≤ P by omega) bpos m neg
  unfold rnOut rnd
  generalize shf P (qA n e false (em - (P : Int) + 1)) (qB e false (em - (P : Int) + 1)) = s at *
  rw [if_pos (over_top h (by omega) (by omega))]
theorem rn_under {n : Nat} (hn : n ≠ 0) {e : Int} (hc : e + (blen n : Int) - 1 < em - (P : Int) - 1) (m : Int) (neg : Bool) : rnOut W P m neg (qA n e false (em - (P : Int) + 1)) (qB e false (em - (P : Int) + 1)) = tinyOut W P m neg := by
  have h8 := h.p8
  have hb := blen_pos hn
  have hlt := blen_lt n
  obtain ⟨z, hz⟩ : ∃ z : Nat, em - (P : Int) + 1 - e = (z : Int) := ⟨(em - (P : Int) + 1 - e).toNat, by omega⟩
  have e1 : qA n e false (em - (P : Int) + 1) = n := by
    show n * p2 (e - (em - (P : Int) + 1)) = n
    rw [p2_neg (by omega), Nat.mul_one]
  have e2 : qB e false (em - (P : Int) + 1) = 2 ^ z := by
    show 1 * p2 (em - (P : Int) + 1 - e) = 2 ^ z
    rw [hz, p2_nat, Nat.one_mul]
  rw [e1, e2]
  refine rn_tiny W (by omega) m neg (by omega) ?_
  have : 2 ^ (blen n + 1) ≤ 2 ^ z := Nat.pow_le_pow_right (by decide) (by omega)
  rw [Nat.pow_succ] at this
  omega
end

/-! ### Two bounds of an exponent -/
/-- An exponent brought to the reference's bound. -/
def clE (v : Int) : Int := if v < -30000 then -30000 else if 30000 < v then 30000 else v
theorem expF_two (l : List Int) : expF 30000 l = (expF 1099511627776 l).map clE := by
  unfold expF
  split
  · rfl
  · rw [← xvF_two (a := 1099511627776) (b := 30000) (by decide) (l := (sgnL l).2) (x := 0) (y := 0) (by decide)]
    cases xvF 1099511627776 (sgnL l).2 0 with
    | none => rfl
    | some x =>
      show some (if (sgnL l).1 = true then -((min x 30000 : Nat) : Int) else ((min x 30000 : Nat) : Int)) = some (clE (if (sgnL l).1 = true then -(x : Int) else (x : Int)))
      congr 1
      unfold clE
      cases (sgnL l).1
      · simp only [Bool.false_eq_true, if_false]
        rw [if_neg (show ¬ ((x : Int) < -30000) by omega)]
        split <;> omega
      · simp only [if_true]
        split
        · omega
        · rw [if_neg (by omega)]; omega
theorem readF_two (l : List Int) : readF 30000 l = (readF 1099511627776 l).map fun r => (r.1, r.2.1, clE r.2.2) := by
  unfold readF
  have z : clE 0 = 0 := by decide
  split
  · rfl
  · split
    · rfl
    · rename_i ds bh _ _
      show some (ds, bh, (0 : Int)) = some (ds, bh, clE 0)
      rw [z]
  · rename_i ds bh r hr
    rw [expF_two]
    cases expF 1099511627776 r with
    | none => rfl
    | some v =>
      show (if ds = [] then none else some (ds, bh, clE v)) = Option.map _ (if ds = [] then none else some (ds, bh, v))
      split <;> rfl

/-! ### The answers -/
/-- A number's answer: bits and flags. -/
def finR (W P : Nat) (em m : Int) (neg : Bool) (N : Nat) (E : Int) : Int × Int := if N = 0 then (((sgB neg W : Nat) : Int), 0) else rnOut W P m neg (qA N E false (em - (P : Int) + 1)) (qB E false (em - (P : Int) + 1))
/-- A text's answer: bits, flags, error. -/
def ansF (W P : Nat) (em m : Int) (sd : Sd) (neg : Bool) : Int × Int × Int :=
  match sd with
  | .bad => (0, (0, 8))
  | .nan => (((infP W P + 2 ^ (P - 2) : Nat) : Int), (0, 0))
  | .inf => (((infP W P + sgB neg W : Nat) : Int), (0, 0))
  | .num d b v => ((finR W P em m neg (hexN d) (v - 4 * (b : Int))).1, ((finR W P em m neg (hexN d) (v - 4 * (b : Int))).2, 0))
theorem readF_bound {cap : Nat} {l d : List Int} {b : Nat} {v : Int} (h : readF cap l = some (d, b, v)) : -(cap : Int) ≤ v ∧ v ≤ (cap : Int) := by
  unfold readF at h
  split at h
  · cases h
  · split at h
    · cases h
    · cases h; omega
  · split at h
    · cases h
    · rename_i v' hv
      split at h
      · cases h
      · cases h; exact xvF_bound hv
theorem hex_blen {d : List Int} (h : HexL d) (hl : d.length ≤ 2000) : blen (hexN d) ≤ 8000 ∧ (d32 (hexN d)).length ≤ 300 ∧ (digs (hexN d)).length ≤ 126 := by
  have h1 := hexN_lt h
  rw [show (16 : Nat) = 2 ^ 4 by decide, ← Nat.pow_mul] at h1
  refine ⟨Nat.le_trans (blen_le_iff.2 h1) (by omega), d32_short h1 (by omega), digs_length_lt.2 ?_⟩
  obtain ⟨q, hq⟩ : ∃ q, q = 126 := ⟨_, rfl⟩
  rw [← hq]
  refine Nat.lt_of_lt_of_le h1 ?_
  rw [show (18446744073709551616 : Nat) = 2 ^ 64 by decide, ← Nat.pow_mul]
  exact Nat.pow_le_pow_right (by decide) (by omega)
def badFm (f m : Int) : Int := if 0 ≤ f ∧ f < 4 then (if 0 ≤ m ∧ m ≤ 5 then 0 else 3) else 2
theorem p06_bad {f : Int} (h : ¬ (0 ≤ f ∧ f < 4)) (k : Nat) : vernierref06_Params k f = some (0, (0, 0)) := by
  rw [vernierref06_Params_eq, if_neg (bF (by omega)), if_neg (bF (by omega)), if_neg (bF (by omega)), if_neg (bF (by omega))]
theorem known_ev (f m : Int) : Ev (fun k => vernierref06_Known k f m) (badFm f m) := by
  refine Ev.congr (fun k => vernierref06_Known_eq k _ _) ?_
  unfold badFm
  by_cases hf : 0 ≤ f ∧ f < 4
  · obtain ⟨W, P, em, ex, h⟩ := fm_of hf.1 hf.2
    have h2 := h.p8; have h3 := h.wp
    rw [if_pos hf]
    refine Ev.bind (Ev.of fun k => params06 h k) (Ev.neg (bF (by show ¬ ((W : Int) = 0); omega)) ?_)
    by_cases c : m < 0
    · rw [if_neg (show ¬ (0 ≤ m ∧ m ≤ 5) by omega)]; exact Ev.pos (dT c) (Ev.some _)
    · refine Ev.neg (dF c) ?_
      by_cases c2 : m > 5
      · rw [if_neg (show ¬ (0 ≤ m ∧ m ≤ 5) by omega)]; exact Ev.pos (dT c2) (Ev.some _)
      · rw [if_pos (show 0 ≤ m ∧ m ≤ 5 by omega)]; exact Ev.neg (dF c2) (Ev.some _)
  · rw [if_neg hf]
    exact Ev.bind (Ev.of fun k => p06_bad hf k) (Ev.pos (bT rfl) (Ev.some _))
section
variable {f : Int} {W P : Nat} {em ex : Int} (h : Fm f W P em ex)
include h
omit h in
theorem sd_len {s : ByteArray} (hs : s.size ≤ 2000) {d : List Int} {b : Nat} {v : Int} {cap : Nat} (hd : sdF cap (sgnL (bl s)).2 = .num d b v) : HexL d ∧ d.length ≤ 2000 ∧ b ≤ d.length ∧ -(cap : Int) ≤ v ∧ v ≤ (cap : Int) := by
  have hl : (sgnL (bl s)).2.length ≤ s.size := by
    rw [← bl_length]
    cases hb : bl s with
    | nil => simp [sgnL]
    | cons a r =>
      show (if a = 45 then (true, r) else if a = 43 then (false, r) else (false, a :: r)).2.length ≤ _
      split
      · simp
      · split <;> simp
  unfold sdF at hd
  split at hd
  · cases hd
  · split at hd
    · cases hd
    · split at hd
      · split at hd
        · cases hd
        · rename_i hr
          cases hd
          obtain ⟨a1, a2, a3, a4⟩ := readF_facts hr
          have := readF_bound hr
          rw [List.length_drop] at a3
          exact ⟨a1, by omega, a2, this⟩
      · cases hd
theorem rparse_ok {m : Int} (hm : Md m) {s : ByteArray} (hs : s.size ≤ 2000) : Ev (fun k => vernierref15_Parse k f m s) (ansF W P em m (sdF 30000 (sgnL (bl s)).2) (sgnL (bl s)).1) := by
  have kn := known_ev f m
  rw [show badFm f m = 0 by unfold badFm; rw [if_pos ⟨h.f0, h.f4⟩, if_pos ⟨hm.m0, hm.m5⟩]] at kn
  obtain ⟨r, g1, g2⟩ := rread_ev (s := s) (by omega)
  have start : ∀ {x}, _ → Ev (fun k => vernierref15_Parse k f m s) x := fun hh => Ev.congr (fun k => vernierref15_Parse_eq k _ _ _) (Ev.bind kn (Ev.neg (nF rfl) (Ev.neg (dF (by omega)) (Ev.bind g1 hh))))
  have hsd : ∀ (d : List Int) (b : Nat) (v : Int), sdF 30000 (sgnL (bl s)).2 = .num d b v → HexL d ∧ d.length ≤ 2000 ∧ b ≤ d.length ∧ -((30000 : Nat) : Int) ≤ v ∧ v ≤ ((30000 : Nat) : Int) := fun d b v => sd_len hs (d := d) (b := b) (v := v) (cap := 30000)
  generalize sdF 30000 (sgnL (bl s)).2 = sd at *
  generalize (sgnL (bl s)).1 = neg at *
  match sd, g2, hsd with
  | .bad, g2, _ => exact start (Ev.pos (by rw [show r.2.2.2.2.2.2 = false from g2]; rfl) (Ev.some _))
  | .nan, g2, _ => exact start (Ev.neg (by rw [g2.2]; simp) (Ev.pos g2.1 (Ev.bind (Ev.of fun k => rQuiet h k) (Ev.some _))))
  | .inf, g2, _ =>
    obtain ⟨g3, g4, g5, g6⟩ := g2
    refine start (Ev.neg (by rw [g6]; simp) (Ev.neg (by rw [g3]; simp) (Ev.pos g4 (Ev.bind (Ev.of fun k => ?_) (Ev.some _)))))
    rw [g5]; exact rInf h k neg
  | .num d b v, g2, hsd =>
    obtain ⟨a1, a2, a3, a4, a5⟩ := hsd d b v rfl
    have hr : r = (false, (false, (neg, (neg, (d32 (hexN d), (v - 4 * (b : Int), true)))))) := g2
    subst hr
    obtain ⟨b1, b2, b3⟩ := hex_blen a1 a2
    have g3 := rFinal h hm neg neg (n := hexN d) b2 (e := v - 4 * (b : Int)) (by omega)
    exact start (Ev.neg (by simp) (Ev.neg (by simp) (Ev.neg (by simp) (Ev.bind g3 (Ev.eq (Ev.some _) rfl)))))
theorem num_ev {m : Int} (hm : Md m) (neg : Bool) {d ws : List Int} (hd : HexL d) (hl : d.length ≤ 2000) {b : Nat} (hb : b ≤ d.length) (hw : WF ws) (hv : val ws = hexN d) (hwl : ws.length = d.length / 16 + 1) {v : Int} (v0 : -1099511627776 ≤ v) (v1 : v ≤ 1099511627776) :
    Ev (fun k => ((dyad_Sign k neg ws 0)).bind fun o3 => (if o3 == 0 then ((format_Zero k f neg)).bind fun o4 => some (o4.1, (0, o4.2)) else ((dyad_Top k neg ws 0)).bind fun o5 => (if decide ((IntKind.i64.wrap (o5.1 + (IntKind.i64.wrap (v - (IntKind.i64.wrap (4 * (b : Int))))))) > 5000) then ((round_Parts k f m neg 0 1 5000 false)).bind fun o6 => some (o6.1, (o6.2.1, o6.2.2)) else (if decide ((IntKind.i64.wrap (o5.1 + (IntKind.i64.wrap (v - (IntKind.i64.wrap (4 * (b : Int))))))) < (-5000)) then ((round_Parts k f m neg 0 1 (-5000) false)).bind fun o7 => some (o7.1, (o7.2.1, o7.2.2)) else ((round_Exact k f m neg ws (IntKind.i64.wrap (v - (IntKind.i64.wrap (4 * (b : Int))))))).bind fun o8 => some (o8.1, (o8.2.1, o8.2.2))))))
      (ansF W P em m (.num d b (clE v)) neg) := by
  have h8 := h.p8
  have h53 := h.p53
  have m0 := h.m0
  have m1 := h.m1
  obtain ⟨x1, x2, x3⟩ := fm_ex h
  obtain ⟨b1, b2, b3⟩ := hex_blen hd hl
  have hlb : Lb ws := by unfold Lb; omega
  have hwE : IntKind.i64.wrap (v - IntKind.i64.wrap (4 * (b : Int))) = v - 4 * (b : Int) := by rw [wrapI (x := 4 * (b : Int)) (by omega) (by omega), wrapI (by omega) (by omega)]
  rw [hwE]
  have hsg : Ev (fun k => dyad_Sign k neg ws 0) (if hexN d = 0 then 0 else if neg then -1 else 1) := by
    refine Ev.congr (fun k => dyad_Sign_eq k _ _ _) (Ev.bind (Trim_ev hw hlb) ?_)
    rw [hv]
    by_cases c : hexN d = 0
    · rw [if_pos c, c, digs_zero]; exact Ev.pos (bT rfl) (Ev.some _)
    · rw [if_neg c]
      have := digs_len_pos.2 c
      refine Ev.neg (bF (by omega)) ?_
      cases neg
      · exact Ev.neg (by simp) (Ev.some _)
      · exact Ev.pos rfl (Ev.some _)
  refine Ev.bind hsg ?_
  unfold ansF finR
  simp only
  by_cases c : hexN d = 0
  · rw [if_pos c, if_pos c]
    exact Ev.pos (bT rfl) (Ev.bind (Ev.of fun k => zero_at h k neg) (Ev.some _))
  · rw [if_neg c, if_neg c]
    have hbp := blen_pos c
    have htop : Ev (fun k => dyad_Top k neg ws 0) ((blen (hexN d) : Int) - 1, (0 : Int)) := by
      have hbad : badE ws 0 = 0 := by unfold badE; rw [if_neg (by omega), if_neg (by omega)]
      have g1 := refuses_all ws 0 neg
      rw [hbad] at g1
      have g2 := Len_ev hw hlb
      rw [hv] at g2
      refine Ev.congr (fun k => dyad_Top_eq k _ _ _) (Ev.bind g1 (Ev.neg (nF rfl) (Ev.bind g2 (Ev.neg (bF (by omega)) (Ev.eq (Ev.some _) ?_)))))
      rw [wrapI (x := (blen (hexN d) : Int) - 1) (by omega) (by omega), wrapI (by omega) (by omega), Int.add_zero]
    have hsn : ¬ (((if neg = true then (-1 : Int) else 1) == 0) = true) := by cases neg <;> decide
    refine Ev.neg hsn (Ev.bind htop ?_)
    rw [wrapI (x := (blen (hexN d) : Int) - 1 + (v - 4 * (b : Int))) (by omega) (by omega)]
    have one : blen 1 = 1 := by decide
    have hpa : ∀ e : Int, e = 5000 ∨ e = -5000 → Ev (fun k => round_Parts k f m neg 0 1 e false) ((rnOut W P m neg (qA 1 e false (em - (P : Int) + 1)) (qB e false (em - (P : Int) + 1))).1, ((rnOut W P m neg (qA 1 e false (em - (P : Int) + 1)) (qB e false (em - (P : Int) + 1))).2, 0)) := by
      intro e he
      have g := Parts_ev h hm (hi := 0) (lo := 1) (by decide) (by decide) e neg false
      refine Ev.eq g ?_
      unfold paR
      rw [if_neg (by omega), if_neg (by simp), if_neg (by decide)]
    unfold clE
    by_cases t1 : (blen (hexN d) : Int) - 1 + (v - 4 * (b : Int)) > 5000
    · refine Ev.pos (dT t1) (Ev.bind (hpa 5000 (.inl rfl)) (Ev.eq (Ev.some _) ?_))
      rw [rn_over h (by decide) (by rw [one]; omega), rn_over h c (e := (if v < -30000 then -30000 else if 30000 < v then 30000 else v) - 4 * (b : Int)) (by split <;> (try split) <;> omega)]
    · refine Ev.neg (dF t1) ?_
      by_cases t2 : (blen (hexN d) : Int) - 1 + (v - 4 * (b : Int)) < -5000
      · refine Ev.pos (dT t2) (Ev.bind (hpa (-5000) (.inr rfl)) (Ev.eq (Ev.some _) ?_))
        rw [rn_under h (by decide) (by rw [one]; omega), rn_under h c (e := (if v < -30000 then -30000 else if 30000 < v then 30000 else v) - 4 * (b : Int)) (by split <;> (try split) <;> omega)]
      · have hcl : (if v < -30000 then (-30000 : Int) else if 30000 < v then 30000 else v) = v := by rw [if_neg (by omega), if_neg (by omega)]
        rw [hcl]
        refine Ev.neg (dF t2) (Ev.bind (Exact_ev h hm hw (v - 4 * (b : Int)) neg) (Ev.eq (Ev.some _) ?_))
        have htz := tz_blen c
        unfold exR
        rw [if_neg (by unfold badE; rw [if_neg (by omega), if_neg (by omega)]; decide), hv, if_neg c, if_neg (by omega)]
        rfl
theorem parse_j1 {m : Int} (hm : Md m) {s : ByteArray} (hs : s.size ≤ 2000) (neg : Bool) : Ev (fun k => hexes_Parse.j1 k f m s ((infP W P + 2 ^ (P - 2) : Nat) : Int) neg) (ansF W P em m (sdF 30000 (bl s)) neg) := by
  have l1 := bl_length s
  have n0 : bl hexes_Parse.s2 = nanL := by decide
  have n1 : bl hexes_Parse.s3 = infL := by decide
  have a0 := letters_ev (s := s) (w := hexes_Parse.s2) (by rw [n0]; exact small_nan) (by omega)
  have a1 := letters_ev (s := s) (w := hexes_Parse.s3) (by rw [n1]; exact small_inf) (by omega)
  rw [n0] at a0
  rw [n1] at a1
  have start : ∀ {r}, _ → Ev (fun k => hexes_Parse.j1 k f m s ((infP W P + 2 ^ (P - 2) : Nat) : Int) neg) r := fun hh => Ev.congr (fun k => hexes_Parse.j1_eq k _ _ _ _ _) (Ev.bind a0 hh)
  unfold sdF
  cases c0 : isW (bl s) nanL with
  | true =>
    rw [c0] at start
    exact start (Ev.pos rfl (Ev.some _))
  | false =>
    rw [c0] at start
    simp only [Bool.false_eq_true, if_false]
    cases c1 : isW (bl s) infL with
    | true =>
      rw [c1] at a1
      exact start (Ev.neg (by simp) (Ev.bind a1 (Ev.pos rfl (Ev.bind (Ev.of fun k => inf_at h k neg) (Ev.some _)))))
    | false =>
      rw [c1] at a1
      simp only [Bool.false_eq_true, if_false]
      have go : ∀ {r}, _ → Ev (fun k => hexes_Parse.j1 k f m s ((infP W P + 2 ^ (P - 2) : Nat) : Int) neg) r := fun hh => start (Ev.neg (by simp) (Ev.bind a1 (Ev.neg (by simp) hh)))
      have bad : Ev (fun k => hexes_Parse.j2 k f m s neg true) (ansF W P em m .bad neg) := Ev.congr (fun k => hexes_Parse.j2_eq k _ _ _ _ _) (Ev.pos rfl (Ev.some _))
      have b0 := bt_get s 0
      have b1 := bt_get s 1
      by_cases c2 : s.size < 2
      · rw [show pre0x (bl s) = false by unfold pre0x; rw [decide_eq_false (by omega), Bool.false_and]]
        exact go (Ev.pos (dT (by omega)) bad)
      · have g0 : ∀ {r}, _ → Ev (fun k => hexes_Parse.j1 k f m s ((infP W P + 2 ^ (P - 2) : Nat) : Int) neg) r := fun hh => go (Ev.neg (dF (by omega)) (Ev.pos ⟨by omega, by omega⟩ hh))
        by_cases c3 : (bl s).getD 0 0 = 48
        · by_cases c4 : (bl s).getD 1 0 = 120 ∨ (bl s).getD 1 0 = 88
          · have hp : pre0x (bl s) = true := by
              unfold pre0x
              rw [decide_eq_true (by omega), beq_iff_eq.2 c3, Bool.true_and, Bool.true_and, Bool.or_eq_true, beq_iff_eq, beq_iff_eq]; exact c4
            rw [hp]
            simp only [if_true]
            have e2 : ((2 : Int).toNat) = 2 := rfl
            have hbd := bl_drop s 2 (by omega)
            obtain ⟨r, q1, q2⟩ := read_ev (s := s.extract 2 s.size) (by rw [← bl_length, hbd, List.length_drop]; omega)
            rw [hbd] at q2
            have fin : Ev (fun k => hexes_Parse.j3 k f m s neg) (ansF W P em m (match readF 30000 ((bl s).drop 2) with | none => .bad | some (d, b, v) => .num d b v) neg) := by
              refine Ev.congr (fun k => hexes_Parse.j3_eq k _ _ _ _) (Ev.pos ⟨by omega, by omega⟩ (Ev.bind q1 ?_))
              rw [readF_two]
              cases hr : readF 1099511627776 ((bl s).drop 2) with
              | none =>
                rw [hr] at q2
                exact Ev.pos (by rw [show r.2.2.2 = false from q2]; rfl) (Ev.some _)
              | some t =>
                obtain ⟨d, b, v⟩ := t
                rw [hr] at q2
                have hre : r = (d, ((b : Int), (v, true))) := q2
                subst hre
                obtain ⟨a1, a2, a3, a4⟩ := readF_facts hr
                have hbd2 := readF_bound hr
                rw [List.length_drop] at a3
                obtain ⟨ws, w1, w2, w3, w4⟩ := natural_ev a1 (by omega)
                exact Ev.neg (by simp) (Ev.bind w1 (num_ev h hm neg a1 (by omega) a2 w2 w3 w4 (v := v) (by omega) (by omega)))
            have fin2 : Ev (fun k => hexes_Parse.j2 k f m s neg false) (ansF W P em m (match readF 30000 ((bl s).drop 2) with | none => .bad | some (d, b, v) => .num d b v) neg) := Ev.congr (fun k => hexes_Parse.j2_eq k _ _ _ _ _) (Ev.neg (by simp) fin)
            refine g0 (Ev.neg (nF (by rw [show (0 : Int) = ((0 : Nat) : Int) from rfl, b0]; exact c3)) (Ev.pos ⟨by omega, by omega⟩ ?_))
            rw [show (1 : Int) = ((1 : Nat) : Int) from rfl, b1]
            by_cases c5 : (bl s).getD 1 0 = 120
            · exact Ev.neg (nF c5) fin2
            · have c6 : (bl s).getD 1 0 = 88 := c4.resolve_left c5
              refine Ev.pos (nT c5) (Ev.pos ⟨by omega, by omega⟩ ?_)
              rw [show ((bl s).getD 1 0 != 88) = false by rw [c6]; rfl]
              exact fin2
          · have hp : pre0x (bl s) = false := by
              unfold pre0x
              rw [show ((bl s).getD 1 0 == 120 || (bl s).getD 1 0 == 88) = false by
                rw [beq_eq_false_iff_ne.2 (fun e => c4 (.inl e)), beq_eq_false_iff_ne.2 (fun e => c4 (.inr e))]; rfl, Bool.and_false, Bool.and_false]
            rw [hp]
            refine g0 (Ev.neg (nF (by rw [show (0 : Int) = ((0 : Nat) : Int) from rfl, b0]; exact c3)) (Ev.pos ⟨by omega, by omega⟩ ?_))
            rw [show (1 : Int) = ((1 : Nat) : Int) from rfl, b1]
            refine Ev.pos (nT (fun e => c4 (.inl e))) (Ev.pos ⟨by omega, by omega⟩ ?_)
            rw [show ((bl s).getD 1 0 != 88) = true by simpa using fun e => c4 (.inr e)]
            exact bad
        · have hp : pre0x (bl s) = false := by
            unfold pre0x
            rw [beq_eq_false_iff_ne.2 c3, Bool.false_and, Bool.and_false]
          rw [hp]
          exact g0 (Ev.pos (nT (by rw [show (0 : Int) = ((0 : Nat) : Int) from rfl, b0]; exact c3)) bad)
theorem parse_ok {m : Int} (hm : Md m) {s : ByteArray} (hs : s.size ≤ 2000) : Ev (fun k => hexes_Parse k f m s) (ansF W P em m (sdF 30000 (sgnL (bl s)).2) (sgnL (bl s)).1) := by
  have hm0 := hm.m0
  have hm5 := hm.m5
  have p0 : bl hexes_Parse.s0 = [45] := by decide
  have p1 : bl hexes_Parse.s1 = [43] := by decide
  have e1 : ((1 : Int).toNat) = 1 := rfl
  refine Ev.congr (fun k => hexes_Parse_eq k _ _ _) (Ev.bind (Ev.of fun k => nan_at h k) (Ev.neg (nF rfl) (Ev.neg (dF (by omega)) (Ev.neg (dF (by omega)) (Ev.neg (dF (by omega)) (Ev.congr (fun k => hexes_Parse.j0_eq k _ _ _ _) (Ev.bind (Ev.of fun k => prefix_at s _ p0 k) ?_)))))))
  have cut : ∀ c, headIs (bl s) c = true → (s.extract 1 s.size).size ≤ 2000 := by
    intro c hc
    rw [← bl_length, sgn_size hc, List.length_drop, bl_length]; omega
  cases h1 : headIs (bl s) 45 with
  | true =>
    have hz := headIs_size h1
    have g := parse_j1 h hm (cut 45 h1) true
    rw [sgn_size h1] at g
    rw [sgnL_minus h1]
    exact Ev.pos rfl (Ev.pos ⟨by omega, by omega⟩ g)
  | false =>
    refine Ev.neg (by simp) (Ev.bind (Ev.of fun k => prefix_at s _ p1 k) ?_)
    cases h2 : headIs (bl s) 43 with
    | true =>
      have hz := headIs_size h2
      have g := parse_j1 h hm (cut 43 h2) false
      rw [sgn_size h2] at g
      rw [sgnL_plus h1 h2]
      exact Ev.pos rfl (Ev.pos ⟨by omega, by omega⟩ g)
    | false =>
      rw [sgnL_none h1 h2]
      exact Ev.neg (by simp) (parse_j1 h hm hs false)
end
end Go.Proofs.YtmoeaeflljpboaaDoor.X
