/- Plain law: what the program's reader makes of a hexadecimal text: exponent, digits, the natural that they say. Conditions: the texts are short. -/
import Derived.Test.YtmoeaeflljpboaaDoorHxA
namespace Go.Proofs.YtmoeaeflljpboaaDoor.X
open Go Go.Rex
set_option linter.unusedVariables false

theorem exp_l1 {s : ByteArray} (hs : s.size ≤ 100000) (s0 : ByteArray) (neg : Bool) (n : Nat) : ∀ (i x : Nat), i + n = s.size → x ≤ 1099511627776 →
    Ev2 (fun k m => hexes_exponent.l1 k m s0 neg (x : Int) s i) (match xvF 1099511627776 ((bl s).drop i) x with | some v => (if neg then -(v : Int) else (v : Int), !decide (bl s0 = [])) | none => (0, false)) := by
  have l1 := bl_length s
  have hemp : (s0.toList == hexes_exponent.s2.toList) = decide (bl s0 = []) := by rw [toList_bl, show bl hexes_exponent.s2 = [] by decide]
  induction n with
  | zero =>
    intro i x hi hx
    rw [List.drop_of_length_le (by omega), xvF]
    refine Ev2.step (fun k m => hexes_exponent.l1_eq k m _ _ _ _ _) (Ev2.neg (by omega) ?_)
    rw [hemp]
    cases neg with
    | false => exact Ev2.neg (by simp) (Ev2.some _)
    | true => exact Ev2.pos rfl (Ev2.eq (Ev2.some _) (by rw [wrapI (by omega) (by omega)]; simp))
  | succ n ih =>
    intro i x hi hx
    rw [drop_cons (l := bl s) (by omega), xvF]
    refine Ev2.step (fun k m => hexes_exponent.l1_eq k m _ _ _ _ _) (Ev2.pos (by omega) ?_)
    have hb := bytes_getD (bl_bytes s) i
    by_cases c : (bl s).getD i 0 < 128
    · obtain ⟨e1, e2⟩ := u8_low c
      rw [e1, e2]
      by_cases d : 48 ≤ (bl s).getD i 0 ∧ (bl s).getD i 0 ≤ 57
      · rw [if_pos d]
        refine Ev2.neg (dF (by omega)) (Ev2.neg (dF (by omega)) ?_)
        have := min10 hx (by omega) d
        rw [show ((1099511627776 : Nat) : Int) = 1099511627776 from rfl] at this
        rw [this]
        exact ih (i + 1) _ (by omega) (Nat.min_le_right _ _)
      · rw [if_neg d]
        by_cases d1 : (bl s).getD i 0 < 48
        · exact Ev2.pos (dT d1) (Ev2.some _)
        · exact Ev2.neg (dF d1) (Ev2.pos (dT (by omega)) (Ev2.some _))
    · have := u8_high (s := s) (i := i) (by omega)
      rw [if_neg (by omega)]
      exact Ev2.neg (dF (by omega)) (Ev2.pos (dT (by omega)) (Ev2.some _))
theorem exp_j0 {s : ByteArray} (hs : s.size ≤ 100000) (neg : Bool) : Ev (fun k => hexes_exponent.j0 k s neg) (match xvF 1099511627776 (bl s) 0 with | some v => (if neg then -(v : Int) else (v : Int), !decide (bl s = [])) | none => (0, false)) := by
  have := (exp_l1 hs s neg s.size 0 0 (by omega) (by omega)).ev
  rw [List.drop_zero] at this
  exact Ev.congr (fun k => hexes_exponent.j0_eq k s neg) this
theorem sgn_size {s : ByteArray} {c : Int} (h : headIs (bl s) c = true) : bl (s.extract 1 s.size) = (bl s).drop 1 := bl_drop s 1 (headIs_size h)
theorem sgnL_minus {l : List Int} (h : headIs l 45 = true) : sgnL l = (true, l.drop 1) := by
  cases l with
  | nil => cases h
  | cons a r =>
    have : a = 45 := by simpa [headIs] using h
    subst this; rfl
theorem sgnL_plus {l : List Int} (h : headIs l 45 = false) (h2 : headIs l 43 = true) : sgnL l = (false, l.drop 1) := by
  cases l with
  | nil => cases h2
  | cons a r =>
    have : a = 43 := by simpa [headIs] using h2
    subst this; rfl
theorem sgnL_none {l : List Int} (h : headIs l 45 = false) (h2 : headIs l 43 = false) : sgnL l = (false, l) := by
  cases l with
  | nil => rfl
  | cons a r =>
    have a1 : a ≠ 45 := by simpa [headIs] using h
    have a2 : a ≠ 43 := by simpa [headIs] using h2
    show (if a = 45 then (true, r) else if a = 43 then (false, r) else (false, a :: r)) = _
    rw [if_neg a1, if_neg a2]
theorem exponent_ev {s : ByteArray} (hs : s.size ≤ 100000) : ∃ x ok, Ev (fun k => hexes_exponent k s) (x, ok) ∧ (match expF 1099511627776 (bl s) with | some v => ok = true ∧ x = v | none => ok = false) := by
  have fin : ∀ (s1 : ByteArray) (neg : Bool), s1.size ≤ 100000 → sgnL (bl s) = (neg, bl s1) → ∃ x ok, Ev (fun k => hexes_exponent.j0 k s1 neg) (x, ok) ∧ (match expF 1099511627776 (bl s) with | some v => ok = true ∧ x = v | none => ok = false) := by
    intro s1 neg h1 h2
    have g := exp_j0 h1 neg
    unfold expF
    rw [h2]
    simp only
    cases hx : xvF 1099511627776 (bl s1) 0 with
    | none =>
      rw [hx] at g
      refine ⟨_, _, g, ?_⟩
      split
      · rename_i v hv; split at hv <;> simp at hv
      · rfl
    | some v =>
      rw [hx] at g
      refine ⟨_, _, g, ?_⟩
      by_cases c : bl s1 = []
      · rw [if_pos c]; simp [c]
      · rw [if_neg c]; simp [c]
  have p1 : bl hexes_exponent.s0 = [45] := by decide
  have p2 : bl hexes_exponent.s1 = [43] := by decide
  have hsz : ∀ c, headIs (bl s) c = true → (s.extract 1 s.size).size ≤ 100000 := by
    intro c hc
    rw [← bl_length, sgn_size hc, List.length_drop, bl_length]; omega
  have start : ∀ {r}, _ → Ev (fun k => hexes_exponent k s) r := fun hh => Ev.congr (fun k => hexes_exponent_eq k s) (Ev.bind (Ev.of fun k => prefix_at s _ p1 k) hh)
  have e1 : ((1 : Int).toNat) = 1 := rfl
  cases h1 : headIs (bl s) 45 with
  | true =>
    have hz := headIs_size h1
    obtain ⟨x, ok, g, r⟩ := fin (s.extract 1 s.size) true (hsz 45 h1) (by rw [sgnL_minus h1, sgn_size h1])
    rw [h1] at start
    exact ⟨x, ok, start (Ev.pos rfl (Ev.pos ⟨by omega, by omega⟩ g)), r⟩
  | false =>
    rw [h1] at start
    cases h2 : headIs (bl s) 43 with
    | true =>
      have hz := headIs_size h2
      obtain ⟨x, ok, g, r⟩ := fin (s.extract 1 s.size) false (hsz 43 h2) (by rw [sgnL_plus h1 h2, sgn_size h2])
      exact ⟨x, ok, start (Ev.neg (by simp) (Ev.bind (Ev.of fun k => prefix_at s _ p2 k) (Ev.pos h2 (Ev.pos ⟨by omega, by omega⟩ g)))), r⟩
    | false =>
      obtain ⟨x, ok, g, r⟩ := fin s false hs (sgnL_none h1 h2)
      exact ⟨x, ok, start (Ev.neg (by simp) (Ev.bind (Ev.of fun k => prefix_at s _ p2 k) (Ev.neg (by rw [h2]; simp) g))), r⟩

/-! ### Digits -/
/-- A hexadecimal digit's value; -1: it is none. -/
def hexD (c : Int) : Int := if 48 ≤ c ∧ c ≤ 57 then c - 48 else if 97 ≤ c ∧ c ≤ 102 then c - 87 else if 65 ≤ c ∧ c ≤ 70 then c - 55 else -1
theorem hexD_lt (c : Int) : hexD c < 16 := by unfold hexD; split <;> (try split) <;> (try split) <;> omega
theorem hexD_high {c : Int} (h : 128 ≤ c) : hexD c = -1 := by unfold hexD; rw [if_neg (by omega), if_neg (by omega), if_neg (by omega)]
theorem digit_at {c : Int} (h0 : 0 ≤ c) (k : Nat) : hexes_digit k c = some (hexD c) := by
  have key : ∀ b : Bool, (b = true ↔ (48 ≤ c ∧ c ≤ 57)) → hexes_digit.j0 k c b = some (hexD c) := by
    intro b hb
    rw [hexes_digit.j0_eq]
    unfold hexD
    by_cases c1 : 48 ≤ c ∧ c ≤ 57
    · rw [if_pos (hb.2 c1), if_pos c1, i32_at (by omega) (by omega), wrapI (by omega) (by omega)]
    · rw [if_neg (fun e => c1 (hb.1 e)), if_neg c1]
      by_cases c2 : 97 ≤ c ∧ c ≤ 102
      · rw [if_pos c2, if_pos (dT c2.1), if_pos (dT c2.2), i32_at (by omega) (by omega), wrapI (x := c - 97) (by omega) (by omega), wrapI (by omega) (by omega)]
        congr 1; omega
      · rw [if_neg c2]
        have tl : (if decide (c ≥ 65) = true then (if decide (c ≤ 70) = true then some (IntKind.i64.wrap ((IntKind.i64.wrap (IntKind.i32.wrap (c - 65))) + 10)) else some (-1)) else some (-1)) = some (if 65 ≤ c ∧ c ≤ 70 then c - 55 else -1) := by
          by_cases c3 : 65 ≤ c ∧ c ≤ 70
          · rw [if_pos c3, if_pos (dT c3.1), if_pos (dT c3.2), i32_at (by omega) (by omega), wrapI (x := c - 65) (by omega) (by omega), wrapI (by omega) (by omega)]
            congr 1; omega
          · rw [if_neg c3]
            by_cases c4 : 65 ≤ c
            · rw [if_pos (dT c4), if_neg (dF (by omega))]
            · rw [if_neg (dF (by omega))]
        by_cases c5 : 97 ≤ c
        · rw [if_pos (dT c5), if_neg (dF (by omega))]; exact tl
        · rw [if_neg (dF (by omega))]; exact tl
  rw [hexes_digit_eq]
  by_cases c1 : 48 ≤ c
  · rw [if_pos (dT c1)]; exact key _ (by simp; omega)
  · rw [if_neg (dF (by omega))]; exact key _ (by simp; omega)

/-- A text behind 0x: its digits, how many stand behind the point, and what stands behind the letter of the exponent. -/
def rdF : List Int → Bool → List Int → Nat → Option (List Int × Nat × Option (List Int))
  | [], _, ds, bh => some (ds, bh, none)
  | c :: r, pt, ds, bh =>
    if 0 ≤ hexD c then rdF r pt (ds ++ [hexD c]) (if pt then bh + 1 else bh)
    else if c = 46 ∧ pt = false then rdF r true ds bh
    else if c = 112 ∨ c = 80 then some (ds, bh, some r) else none
/-- The same, read out. -/
def readF (cap : Nat) (l : List Int) : Option (List Int × Nat × Int) :=
  match rdF l false [] 0 with
  | none => none
  | some (ds, bh, none) => if ds = [] then none else some (ds, bh, 0)
  | some (ds, bh, some r) => match expF cap r with
    | none => none
    | some v => if ds = [] then none else some (ds, bh, v)
/-- Digits alone. -/
def HexL (l : List Int) : Prop := ∀ x ∈ l, 0 ≤ x ∧ x < 16
theorem HexL.snoc {l : List Int} (h : HexL l) {c : Int} (hc : 0 ≤ hexD c) : HexL (l ++ [hexD c]) := by
  intro x hx
  rcases List.mem_append.1 hx with g | g
  · exact h x g
  · simp at g; subst g; exact ⟨hc, hexD_lt c⟩
theorem rdF_facts : ∀ {l : List Int} {pt : Bool} {ds : List Int} {bh : Nat} {d : List Int} {b : Nat} {o : Option (List Int)}, HexL ds → bh ≤ ds.length → rdF l pt ds bh = some (d, b, o) → HexL d ∧ b ≤ d.length ∧ d.length ≤ ds.length + l.length ∧ (∀ r, o = some r → r.length < l.length)
  | [], pt, ds, bh, d, b, o, h, hb, e => by
    rw [rdF] at e; cases e
    exact ⟨h, hb, by simp, fun r hr => by cases hr⟩
  | c :: r, pt, ds, bh, d, b, o, h, hb, e => by
    rw [rdF] at e
    split at e
    · rename_i hc
      obtain ⟨a1, a2, a3, a4⟩ := rdF_facts (h.snoc hc) (by simp; split <;> omega) e
      exact ⟨a1, a2, by simp at a3 ⊢; omega, fun q hq => by have := a4 q hq; simp; omega⟩
    · split at e
      · obtain ⟨a1, a2, a3, a4⟩ := rdF_facts h hb e
        exact ⟨a1, a2, by simp; omega, fun q hq => by have := a4 q hq; simp; omega⟩
      · split at e
        · cases e
          exact ⟨h, hb, by simp, fun q hq => by cases hq; simp⟩
        · cases e
theorem readF_facts {cap : Nat} {l d : List Int} {b : Nat} {v : Int} (h : readF cap l = some (d, b, v)) : HexL d ∧ b ≤ d.length ∧ d.length ≤ l.length ∧ d ≠ [] := by
  unfold readF at h
  split at h
  · cases h
  · rename_i ds bh hr
    split at h
    · cases h
    · rename_i hd
      cases h
      obtain ⟨a1, a2, a3, a4⟩ := rdF_facts (fun _ hx => by cases hx) (by simp) hr
      exact ⟨a1, a2, by simpa using a3, hd⟩
  · rename_i ds bh r hr
    split at h
    · cases h
    · split at h
      · cases h
      · rename_i hd
        cases h
        obtain ⟨a1, a2, a3, a4⟩ := rdF_facts (fun _ hx => by cases hx) (by simp) hr
        exact ⟨a1, a2, by simpa using a3, hd⟩
/-- What a reader answers, as far as it is told. -/
def ReadIs (o : Option (List Int × Nat × Int)) (r : List Int × Int × Int × Bool) : Prop :=
  match o with
  | none => r.2.2.2 = false
  | some (d, b, v) => r = (d, ((b : Int), (v, true)))
theorem cap8h {n : Nat} (h : n ≤ 200001) : capOk 8 n = true := capOk_of (by omega)
theorem read_l0 {s : ByteArray} (hs : s.size ≤ 100000) (n : Nat) : ∀ (i : Nat) (pt : Bool) (ds : List Int) (bh : Nat), i + n = s.size → ds.length ≤ i → bh ≤ i →
    ∃ r : List Int × Int × Int × Bool, Ev2 (fun k m => hexes_read.l0 k m s pt ds (bh : Int) s i) r ∧
      ReadIs (match rdF ((bl s).drop i) pt ds bh with
        | none => none
        | some (ds, bh, none) => if ds = [] then none else some (ds, bh, 0)
        | some (ds, bh, some r) => match expF 1099511627776 r with
          | none => none
          | some v => if ds = [] then none else some (ds, bh, v)) r := by
  have l1 := bl_length s
  induction n with
  | zero =>
    intro i pt ds bh hi hd hb
    rw [List.drop_of_length_le (by omega), rdF]
    refine ⟨_, Ev2.step (fun k m => hexes_read.l0_eq k m _ _ _ _ _ _) (Ev2.neg (by omega) (Ev2.some _)), ?_⟩
    simp only
    cases ds with
    | nil => rw [if_pos rfl]; rfl
    | cons a r =>
      rw [if_neg (by simp)]
      show (a :: r, ((bh : Int), ((0 : Int), decide (((a :: r).length : Int) > 0)))) = (a :: r, ((bh : Int), ((0 : Int), true)))
      rw [decide_eq_true (by simp)]
  | succ n ih =>
    intro i pt ds bh hi hd hb
    rw [drop_cons (l := bl s) (by omega), rdF]
    have hby := bytes_getD (bl_bytes s) i
    have start : ∀ {r}, _ → Ev2 (fun k m => hexes_read.l0 k m s pt ds (bh : Int) s i) r := fun hh => Ev2.step (fun k m => hexes_read.l0_eq k m _ _ _ _ _ _) (Ev2.pos (by omega) hh)
    have hu : 0 ≤ u8c s i := by unfold u8c; omega
    have dg := Ev.of (fun k => digit_at hu k)
    by_cases c : (bl s).getD i 0 < 128
    · obtain ⟨e1, e2⟩ := u8_low c
      rw [e1] at dg
      rw [e1, e2] at start
      by_cases hc : 0 ≤ hexD ((bl s).getD i 0)
      · simp only [if_pos hc]
        have es : ds ++ ((List.replicate 1 (0 : Int)).set 0 (hexD ((bl s).getD i 0))) = ds ++ [hexD ((bl s).getD i 0)] := rfl
        obtain ⟨r, g1, g2⟩ := ih (i + 1) pt (ds ++ [hexD ((bl s).getD i 0)]) (if pt then bh + 1 else bh) (by omega) (by simp; omega) (by split <;> omega)
        refine ⟨r, start (Ev2.call dg (Ev2.pos (dT hc) (Ev2.pos (cap8h (by simp; omega)) ?_))), g2⟩
        rw [es]
        cases pt with
        | true =>
          refine Ev2.pos rfl ?_
          rw [show IntKind.i64.wrap ((bh : Int) + 1) = ((bh + 1 : Nat) : Int) by rw [wrapI (by omega) (by omega)]; omega]
          exact g1
        | false => exact Ev2.neg (by simp) g1
      · simp only [if_neg hc]
        have hj1 : ∀ (b3 : Bool) {r : List Int × Int × Int × Bool}, Ev2 (fun k m => hexes_read.j1 k m s (i : Int) ((bl s).getD i 0) b3 ds (bh : Int) s (i + 1)) r → (b3 = decide ((bl s).getD i 0 = 46 ∧ pt = false)) → Ev2 (fun k m => hexes_read.l0 k m s pt ds (bh : Int) s i) r := by
          intro b3 r g hb3
          refine start (Ev2.call dg (Ev2.neg (dF (by omega)) ?_))
          by_cases c46 : (bl s).getD i 0 = 46
          · refine Ev2.pos (bT c46) ?_
            have : b3 = !pt := by
              rw [hb3]
              cases pt
              · exact decide_eq_true ⟨c46, rfl⟩
              · exact decide_eq_false (fun h => by cases h.2)
            rw [this] at g; exact g
          · refine Ev2.neg (bF c46) ?_
            have : b3 = false := by rw [hb3]; exact decide_eq_false (fun h => c46 h.1)
            rw [this] at g; exact g
        by_cases hpt : (bl s).getD i 0 = 46 ∧ pt = false
        · simp only [if_pos hpt]
          obtain ⟨r, g1, g2⟩ := ih (i + 1) true ds bh (by omega) (by omega) (by omega)
          exact ⟨r, hj1 true (Ev2.congr (fun k m => hexes_read.j1_eq k m _ _ _ _ _ _ _ _) (Ev2.pos rfl g1)) (decide_eq_true hpt).symm, g2⟩
        · simp only [if_neg hpt]
          have hj2 : ∀ (b : Bool) {r : List Int × Int × Int × Bool}, Ev2 (fun k m => hexes_read.j2 k m s (i : Int) b ds (bh : Int)) r → (b = decide ((bl s).getD i 0 = 112 ∨ (bl s).getD i 0 = 80)) → Ev2 (fun k m => hexes_read.l0 k m s pt ds (bh : Int) s i) r := by
            intro b r g hb2
            refine hj1 false (Ev2.congr (fun k m => hexes_read.j1_eq k m _ _ _ _ _ _ _ _) (Ev2.neg (by simp) ?_)) (decide_eq_false hpt).symm
            by_cases c112 : (bl s).getD i 0 = 112
            · have : b = true := by rw [hb2]; exact decide_eq_true (.inl c112)
              rw [this] at g
              exact Ev2.pos (bT c112) g
            · refine Ev2.neg (bF c112) ?_
              have : b = ((bl s).getD i 0 == 80) := by
                rw [hb2]
                by_cases c80 : (bl s).getD i 0 = 80
                · rw [beq_iff_eq.2 c80]; exact decide_eq_true (.inr c80)
                · rw [beq_eq_false_iff_ne.2 c80]; exact decide_eq_false (fun h => h.elim c112 c80)
              rw [this] at g; exact g
          by_cases hp : (bl s).getD i 0 = 112 ∨ (bl s).getD i 0 = 80
          · simp only [if_pos hp]
            have hw : IntKind.i64.wrap ((i : Int) + 1) = ((i + 1 : Nat) : Int) := by rw [wrapI (by omega) (by omega)]; omega
            have hbd := bl_drop s (i + 1) (by omega)
            have hsz : (s.extract (i + 1) s.size).size ≤ 100000 := by rw [← bl_length, hbd, List.length_drop]; omega
            obtain ⟨x, ok, g1, g2⟩ := exponent_ev hsz
            rw [hbd] at g2
            have g3 : ∀ {r}, _ → Ev2 (fun k m => hexes_read.j2 k m s (i : Int) true ds (bh : Int)) r := fun hh => Ev2.congr (fun k m => hexes_read.j2_eq k m _ _ _ _ _) (Ev2.pos rfl (by
              rw [hw, Int.toNat_natCast]
              exact Ev2.pos ⟨by omega, by omega⟩ (Ev2.call g1 hh)))
            cases he : expF 1099511627776 ((bl s).drop (i + 1)) with
            | none =>
              rw [he] at g2
              simp only at g2
              subst g2
              exact ⟨_, hj2 true (g3 (Ev2.neg (by simp) (Ev2.some _))) (decide_eq_true hp).symm, rfl⟩
            | some v =>
              rw [he] at g2
              obtain ⟨rfl, rfl⟩ := g2
              refine ⟨_, hj2 true (g3 (Ev2.pos rfl (Ev2.some _))) (decide_eq_true hp).symm, ?_⟩
              simp only
              cases ds with
              | nil => rw [if_pos rfl]; rfl
              | cons a r =>
                rw [if_neg (by simp)]
                show (a :: r, ((bh : Int), (x, decide (((a :: r).length : Int) > 0)))) = (a :: r, ((bh : Int), (x, true)))
                rw [decide_eq_true (by simp)]
          · simp only [if_neg hp]
            exact ⟨_, hj2 false (Ev2.congr (fun k m => hexes_read.j2_eq k m _ _ _ _ _) (Ev2.neg (by simp) (Ev2.some _))) (decide_eq_false hp).symm, rfl⟩
    · have hh := u8_high (s := s) (i := i) (by omega)
      rw [hexD_high hh] at dg
      have h1 : hexD ((bl s).getD i 0) = -1 := hexD_high (by omega)
      simp only [h1]
      rw [if_neg (by omega), if_neg (by omega), if_neg (by omega)]
      refine ⟨_, start (Ev2.call dg (Ev2.neg (dF (by omega)) (Ev2.neg (bF (by omega)) (Ev2.congr (fun k m => hexes_read.j1_eq k m _ _ _ _ _ _ _ _) (Ev2.neg (by simp) (Ev2.neg (bF (by omega)) (Ev2.congr (fun k m => hexes_read.j2_eq k m _ _ _ _ _) (Ev2.neg (bF (by omega)) (Ev2.some _))))))))), rfl⟩
theorem read_ev {s : ByteArray} (hs : s.size ≤ 100000) : ∃ r : List Int × Int × Int × Bool, Ev (fun k => hexes_read k s) r ∧ ReadIs (readF 1099511627776 (bl s)) r := by
  obtain ⟨r, g1, g2⟩ := read_l0 hs s.size 0 false [] 0 (by omega) (by simp) (by omega)
  rw [List.drop_zero] at g2
  exact ⟨r, Ev.congr (fun k => hexes_read_eq k s) g1.ev, g2⟩
end Go.Proofs.YtmoeaeflljpboaaDoor.X
