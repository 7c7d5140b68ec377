/- Plain law: hexadecimal texts read, by the program and by the reference: letters, digits, exponents, what a text says, the answers: the same for every text. Conditions: those that each part states. -/
import Derived.Test.YtmoeaeflljpboaaDoorNatK
import Derived.Test.YtmoeaeflljpboaaDoorR3A
import Derived.Test.YtmoeaeflljpboaaDoorR6A
/- Plain law: what the hexadecimal texts' readers make of a text's bytes: letters, signs, exponents, digits. Conditions: the texts are short. -/
namespace Go.Proofs.YtmoeaeflljpboaaDoor.X
open Go Go.Rex
set_option linter.unusedVariables false

/-! ### Letters of a text -/
theorem get_bl (s : ByteArray) (i : Nat) : ((s.get! i).toNat : Int) = (bl s).getD i 0 := by
  have := bt_bl s (i : Int)
  rw [Int.toNat_natCast] at this
  rw [← this]
  unfold bt
  rw [Int.toNat_natCast]
  congr 2
  show s.data.getD i default = _
  simp only [Array.getD_eq_getD_getElem?, List.getD_eq_getElem?_getD, Array.getElem?_toList]
  rfl
theorem u8_low {s : ByteArray} {i : Nat} (h : (bl s).getD i 0 < 128) : u8c s i = (bl s).getD i 0 ∧ u8w s i = 1 := by
  have g := get_bl s i
  have hb : (s.get! (i + 0)).toNat < 128 := by rw [Nat.add_zero]; omega
  unfold u8c u8w Utf8.decode
  simp only
  rw [if_pos hb]
  exact ⟨by rw [Nat.add_zero]; exact g, rfl⟩
theorem u8_high {s : ByteArray} {i : Nat} (h : 128 ≤ (bl s).getD i 0) : 128 ≤ u8c s i := by
  have g := get_bl s i
  have hb : ¬ (s.get! (i + 0)).toNat < 128 := by rw [Nat.add_zero]; omega
  have hr : 128 ≤ Utf8.runeError := by decide
  unfold u8c Utf8.decode
  simp only
  rw [if_neg hb]
  have e : ∀ x : Nat × Nat, 128 ≤ x.1 → 128 ≤ ((x.1 : Nat) : Int) := fun x hx => by omega
  apply e
  split
  · split
    · assumption
    · exact hr
  · split
    · split
      · rename_i hc
        simp only [Bool.and_eq_true, decide_eq_true_eq] at hc
        exact Nat.le_trans (by decide) hc.1
      · exact hr
    · split
      · split
        · rename_i hc
          simp only [Bool.and_eq_true, decide_eq_true_eq] at hc
          exact Nat.le_trans (by decide) hc.1
        · exact hr
      · exact hr
theorem bl_drop (s : ByteArray) (a : Nat) (h : a ≤ s.size) : bl (s.extract a s.size) = (bl s).drop a := by
  rw [bl_extract]
  refine List.take_of_length_le ?_
  rw [List.length_drop, bl_length]; omega
theorem drop_cons {l : List Int} {i : Nat} (h : i < l.length) : l.drop i = l.getD i 0 :: l.drop (i + 1) := by
  rw [List.drop_eq_getElem_cons h, List.getD_eq_getElem?_getD, List.getElem?_eq_getElem h]; rfl

/-! ### Words in letters of any case -/
/-- Are these the letters of that word, in letters of any case? -/
def isW : List Int → List Int → Bool
  | [], [] => true
  | a :: l, b :: w => (a == b || a + 32 == b) && isW l w
  | _, _ => false
/-- A word of small letters. -/
def Small (w : List Int) : Prop := ∀ b ∈ w, 97 ≤ b ∧ b ≤ 122
theorem isW_len : ∀ {l w : List Int}, l.length ≠ w.length → isW l w = false
  | [], [], h => absurd rfl h
  | [], _ :: _, _ => rfl
  | _ :: _, [], _ => rfl
  | a :: l, b :: w, h => by
    rw [isW, isW_len (l := l) (w := w) (by intro c; exact h (by simp [c])), Bool.and_false]
theorem or32 : ∀ a : Fin 256, ∀ b : Fin 26, (orK IntKind.u8 (a.val : Int) 32 != ((b.val : Int) + 97)) = !((a.val : Int) == (b.val : Int) + 97 || (a.val : Int) + 32 == (b.val : Int) + 97) := by decide +kernel
theorem up32 : ∀ a : Fin 256, ∀ b : Fin 26, (IntKind.u8.wrap ((a.val : Int) + 32) != ((b.val : Int) + 97)) = !((a.val : Int) + 32 == (b.val : Int) + 97) := by decide +kernel
theorem or32_at {a b : Int} (ha : 0 ≤ a ∧ a < 256) (hb : 97 ≤ b ∧ b ≤ 122) : (orK IntKind.u8 a 32 != b) = !(a == b || a + 32 == b) := by
  have := or32 ⟨a.toNat, by omega⟩ ⟨(b - 97).toNat, by omega⟩
  simp only at this
  rwa [show ((a.toNat : Nat) : Int) = a by omega, show (((b - 97).toNat : Nat) : Int) + 97 = b by omega] at this
theorem up32_at {a b : Int} (ha : 0 ≤ a ∧ a < 256) (hb : 97 ≤ b ∧ b ≤ 122) : (IntKind.u8.wrap (a + 32) != b) = !(a + 32 == b) := by
  have := up32 ⟨a.toNat, by omega⟩ ⟨(b - 97).toNat, by omega⟩
  simp only at this
  rwa [show ((a.toNat : Nat) : Int) = a by omega, show (((b - 97).toNat : Nat) : Int) + 97 = b by omega] at this
theorem bytes_getD {l : List Int} (h : Bytes l) (i : Nat) : 0 ≤ l.getD i 0 ∧ l.getD i 0 < 256 := by
  rw [List.getD_eq_getElem?_getD]
  rcases Nat.lt_or_ge i l.length with g | g
  · rw [List.getElem?_eq_getElem g]; exact h _ (List.getElem_mem g)
  · rw [List.getElem?_eq_none g]; simp
theorem small_getD {w : List Int} (h : Small w) {i : Nat} (g : i < w.length) : 97 ≤ w.getD i 0 ∧ w.getD i 0 ≤ 122 := by
  rw [List.getD_eq_getElem?_getD, List.getElem?_eq_getElem g]; exact h _ (List.getElem_mem g)
theorem letters_l0 {s w : ByteArray} (hw : Small (bl w)) (hl : s.size = w.size) (hs : s.size ≤ 100000) (n : Nat) : ∀ i, i + n = s.size → Ev2 (fun k m => hexes_letters.l0 k m s w (s.size : Int) (i : Int)) (isW ((bl s).drop i) ((bl w).drop i)) := by
  have l1 := bl_length s
  have l2 := bl_length w
  induction n with
  | zero =>
    intro i hi
    rw [List.drop_of_length_le (by omega), List.drop_of_length_le (by omega)]
    exact Ev2.step (fun k m => hexes_letters.l0_eq k m _ _ _ _) (Ev2.neg (dF (by omega)) (Ev2.some _))
  | succ n ih =>
    intro i hi
    rw [drop_cons (l := bl s) (by omega), drop_cons (l := bl w) (by omega), isW]
    refine Ev2.step (fun k m => hexes_letters.l0_eq k m _ _ _ _) (Ev2.pos (dT (by omega)) (Ev2.pos ⟨by omega, by omega⟩ (Ev2.pos ⟨by omega, by omega⟩ ?_)))
    rw [bt_bl, bt_bl, Int.toNat_natCast, or32_at (bytes_getD (bl_bytes s) i) (small_getD hw (by omega)), show IntKind.i64.wrap ((i : Int) + 1) = ((i + 1 : Nat) : Int) by rw [wrapI (by omega) (by omega)]; omega]
    cases ((bl s).getD i 0 == (bl w).getD i 0 || (bl s).getD i 0 + 32 == (bl w).getD i 0) with
    | false => rw [Bool.false_and]; exact Ev2.pos rfl (Ev2.some _)
    | true => rw [Bool.true_and]; exact Ev2.neg (by simp) (ih (i + 1) (by omega))
theorem letters_ev {s w : ByteArray} (hw : Small (bl w)) (hs : s.size ≤ 100000) : Ev (fun k => hexes_letters k s w) (isW (bl s) (bl w)) := by
  refine Ev.congr (fun k => hexes_letters_eq k s w) ?_
  by_cases c : s.size = w.size
  · have := (letters_l0 hw c hs s.size 0 (by omega)).ev
    rw [List.drop_zero, List.drop_zero] at this
    exact Ev.neg (nF (by omega)) this
  · rw [isW_len (by rw [bl_length, bl_length]; exact c)]
    exact Ev.pos (nT (by omega)) (Ev.some _)
theorem word_l0 {s w : ByteArray} (hw : Small (bl w)) (hl : s.size = w.size) (hs : s.size ≤ 100000) (n : Nat) : ∀ i, i + n = s.size → Ev2 (fun k m => vernierref15_word.l0 k m s w (i : Int)) (isW ((bl s).drop i) ((bl w).drop i)) := by
  have l1 := bl_length s
  have l2 := bl_length w
  induction n with
  | zero =>
    intro i hi
    rw [List.drop_of_length_le (by omega), List.drop_of_length_le (by omega)]
    exact Ev2.step (fun k m => vernierref15_word.l0_eq k m _ _ _) (Ev2.neg (dF (by omega)) (Ev2.some _))
  | succ n ih =>
    intro i hi
    rw [drop_cons (l := bl s) (by omega), drop_cons (l := bl w) (by omega), isW]
    refine Ev2.step (fun k m => vernierref15_word.l0_eq k m _ _ _) (Ev2.pos (dT (by omega)) (Ev2.pos ⟨by omega, by omega⟩ (Ev2.pos ⟨by omega, by omega⟩ ?_)))
    rw [bt_bl, bt_bl, Int.toNat_natCast, up32_at (bytes_getD (bl_bytes s) i) (small_getD hw (by omega)), show IntKind.i64.wrap ((i : Int) + 1) = ((i + 1 : Nat) : Int) by rw [wrapI (by omega) (by omega)]; omega]
    have hi1 := ih (i + 1) (by omega)
    by_cases e : (bl s).getD i 0 = (bl w).getD i 0
    · rw [beq_iff_eq.2 e, Bool.true_or, Bool.true_and]
      exact Ev2.neg (nF e) hi1
    · rw [beq_eq_false_iff_ne.2 e, Bool.false_or]
      refine Ev2.pos (nT e) (Ev2.pos ⟨by omega, by omega⟩ (Ev2.pos ⟨by omega, by omega⟩ ?_))
      cases ((bl s).getD i 0 + 32 == (bl w).getD i 0) with
      | false => rw [Bool.false_and]; exact Ev2.pos rfl (Ev2.some _)
      | true => rw [Bool.true_and]; exact Ev2.neg (by simp) hi1
theorem word_ev {s w : ByteArray} (hw : Small (bl w)) (hs : s.size ≤ 100000) : Ev (fun k => vernierref15_word k s w) (isW (bl s) (bl w)) := by
  refine Ev.congr (fun k => vernierref15_word_eq k s w) ?_
  by_cases c : s.size = w.size
  · have := (word_l0 hw c hs s.size 0 (by omega)).ev
    rw [List.drop_zero, List.drop_zero] at this
    exact Ev.neg (nF (by omega)) this
  · rw [isW_len (by rw [bl_length, bl_length]; exact c)]
    exact Ev.pos (nT (by omega)) (Ev.some _)

/-! ### Signs -/
/-- A sign, and what stands behind it. -/
def sgnL : List Int → Bool × List Int
  | c :: r => if c = 45 then (true, r) else if c = 43 then (false, r) else (false, c :: r)
  | [] => (false, [])
def headIs (l : List Int) (c : Int) : Bool := match l with | [] => false | a :: _ => a == c
theorem headIs_size {s : ByteArray} {c : Int} (h : headIs (bl s) c = true) : 1 ≤ s.size := by
  rw [← bl_length]
  cases hs : bl s with
  | nil => rw [hs] at h; cases h
  | cons a r => simp
theorem prefix_at (s p : ByteArray) {c : Int} (hp : bl p = [c]) (k : Nat) : strings_HasPrefix k s p = some (headIs (bl s) c) := by
  have l1 : p.size = 1 := by rw [← bl_length, hp]; rfl
  have l2 := bl_length s
  rw [strings_HasPrefix_eq, stringslite_HasPrefix_eq]
  cases hs : bl s with
  | nil =>
    rw [hs] at l2
    have : s.size = 0 := by simpa using l2.symm
    rw [if_neg (dF (by omega))]; rfl
  | cons a r =>
    rw [hs] at l2
    have : 1 ≤ s.size := by rw [← l2]; simp
    rw [if_pos (dT (by omega)), if_pos ⟨by omega, by omega⟩, toList_bl, bl_extract, hp, hs, show 0 + ((p.size : Nat) : Int).toNat - 0 = 1 by omega]
    show some (decide ([a] = [c])) = some (a == c)
    congr 1
    by_cases e : a = c
    · subst e; simp
    · rw [decide_eq_false (by simpa using e), beq_eq_false_iff_ne.2 e]

/-! ### Exponents -/
/-- Decimal digits, brought to a bound at each step. -/
def xvF (cap : Nat) : List Int → Nat → Option Nat
  | [], x => some x
  | c :: r, x => if 48 ≤ c ∧ c ≤ 57 then xvF cap r (min (10 * x + (c - 48).toNat) cap) else none
def expF (cap : Nat) (l : List Int) : Option Int :=
  if (sgnL l).2 = [] then none else (xvF cap (sgnL l).2 0).map fun x => if (sgnL l).1 then -(x : Int) else (x : Int)
theorem xvF_le {cap : Nat} : ∀ {l : List Int} {x v : Nat}, x ≤ cap → xvF cap l x = some v → v ≤ cap
  | [], x, v, h, e => by cases e; exact h
  | c :: r, x, v, h, e => by
    rw [xvF] at e
    split at e
    · exact xvF_le (Nat.min_le_right _ _) e
    · cases e
theorem i32_at {x : Int} (h0 : -2147483648 ≤ x) (h1 : x < 2147483648) : IntKind.i32.wrap x = x := by
  simp [IntKind.wrap, IntKind.signed, IntKind.bits]
  split <;> omega
/-- Two bounds. -/
theorem xvF_two {a b : Nat} (hab : b ≤ a) : ∀ {l : List Int} {x y : Nat}, min x b = y → (xvF a l x).map (fun v => min v b) = xvF b l y
  | [], x, y, h => by rw [xvF, xvF, Option.map_some, h]
  | c :: r, x, y, h => by
    rw [xvF, xvF]
    split
    · exact xvF_two hab (by omega)
    · rfl
theorem min10 {x cap : Nat} {c : Int} (hx : x ≤ cap) (hc : cap ≤ 1099511627776) (h : 48 ≤ c ∧ c ≤ 57) : mnI (IntKind.i64.wrap ((IntKind.i64.wrap (10 * (x : Int))) + (IntKind.i64.wrap (IntKind.i32.wrap (c - 48))))) (cap : Int) = ((min (10 * x + (c - 48).toNat) cap : Nat) : Int) := by
  have w1 : IntKind.i32.wrap (c - 48) = c - 48 := i32_at (by omega) (by omega)
  rw [w1, wrapI (x := c - 48) (by omega) (by omega), wrapI (x := 10 * (x : Int)) (by omega) (by omega), wrapI (by omega) (by omega)]
  unfold mnI
  split <;> omega
end Go.Proofs.YtmoeaeflljpboaaDoor.X
/- Plain law: what the program's reader makes of a hexadecimal text: exponent, digits, the natural that they say. Conditions: the texts are short. -/
namespace Go.Proofs.YtmoeaeflljpboaaDoor.X
open Go Go.Rex
set_option linter.unusedVariables false

theorem exp_l1 {s : ByteArray} (hs : s.size ≤ 100000) (s0 : ByteArray) (neg : Bool) (n : Nat) : ∀ (i x : Nat), i + n = s.size → x ≤ 1099511627776 →
    Ev2 (fun k m => hexes_exponent.l1 k m s0 neg (x : Int) s i) (match xvF 1099511627776 ((bl s).drop i) x with | some v => (if neg then -(v : Int) else (v : Int), !decide (bl s0 = [])) | none => (0, false)) := by
  have l1 := bl_length s
  have hemp : (s0.toList == hexes_exponent.s2.toList) = decide (bl s0 = []) := by rw [toList_bl, show bl hexes_exponent.s2 = [] by decide]
  induction n with
  | zero =>
    intro i x hi hx
    rw [List.drop_of_length_le (by omega), xvF]
    refine Ev2.step (fun k m => hexes_exponent.l1_eq k m _ _ _ _ _) (Ev2.neg (by omega) ?_)
    rw [hemp]
    cases neg with
    | false => exact Ev2.neg (by simp) (Ev2.some _)
    | true => exact Ev2.pos rfl (Ev2.eq (Ev2.some _) (by rw [wrapI (by omega) (by omega)]; simp))
  | succ n ih =>
    intro i x hi hx
    rw [drop_cons (l := bl s) (by omega), xvF]
    refine Ev2.step (fun k m => hexes_exponent.l1_eq k m _ _ _ _ _) (Ev2.pos (by omega) ?_)
    have hb := bytes_getD (bl_bytes s) i
    by_cases c : (bl s).getD i 0 < 128
    · obtain ⟨e1, e2⟩ := u8_low c
      rw [e1, e2]
      by_cases d : 48 ≤ (bl s).getD i 0 ∧ (bl s).getD i 0 ≤ 57
      · rw [if_pos d]
        refine Ev2.neg (dF (by omega)) (Ev2.neg (dF (by omega)) ?_)
        have := min10 hx (by omega) d
        rw [show ((1099511627776 : Nat) : Int) = 1099511627776 from rfl] at this
        rw [this]
        exact ih (i + 1) _ (by omega) (Nat.min_le_right _ _)
      · rw [if_neg d]
        by_cases d1 : (bl s).getD i 0 < 48
        · exact Ev2.pos (dT d1) (Ev2.some _)
        · exact Ev2.neg (dF d1) (Ev2.pos (dT (by omega)) (Ev2.some _))
    · have := u8_high (s := s) (i := i) (by omega)
      rw [if_neg (by omega)]
      exact Ev2.neg (dF (by omega)) (Ev2.pos (dT (by omega)) (Ev2.some _))
theorem exp_j0 {s : ByteArray} (hs : s.size ≤ 100000) (neg : Bool) : Ev (fun k => hexes_exponent.j0 k s neg) (match xvF 1099511627776 (bl s) 0 with | some v => (if neg then -(v : Int) else (v : Int), !decide (bl s = [])) | none => (0, false)) := by
  have := (exp_l1 hs s neg s.size 0 0 (by omega) (by omega)).ev
  rw [List.drop_zero] at this
  exact Ev.congr (fun k => hexes_exponent.j0_eq k s neg) this
theorem sgn_size {s : ByteArray} {c : Int} (h : headIs (bl s) c = true) : bl (s.extract 1 s.size) = (bl s).drop 1 := bl_drop s 1 (headIs_size h)
theorem sgnL_minus {l : List Int} (h : headIs l 45 = true) : sgnL l = (true, l.drop 1) := by
  cases l with
  | nil => cases h
  | cons a r =>
    have : a = 45 := by simpa [headIs] using h
    subst this; rfl
theorem sgnL_plus {l : List Int} (h : headIs l 45 = false) (h2 : headIs l 43 = true) : sgnL l = (false, l.drop 1) := by
  cases l with
  | nil => cases h2
  | cons a r =>
    have : a = 43 := by simpa [headIs] using h2
    subst this; rfl
theorem sgnL_none {l : List Int} (h : headIs l 45 = false) (h2 : headIs l 43 = false) : sgnL l = (false, l) := by
  cases l with
  | nil => rfl
  | cons a r =>
    have a1 : a ≠ 45 := by simpa [headIs] using h
    have a2 : a ≠ 43 := by simpa [headIs] using h2
    show (if a = 45 then (true, r) else if a = 43 then (false, r) else (false, a :: r)) = _
    rw [if_neg a1, if_neg a2]
theorem exponent_ev {s : ByteArray} (hs : s.size ≤ 100000) : ∃ x ok, Ev (fun k => hexes_exponent k s) (x, ok) ∧ (match expF 1099511627776 (bl s) with | some v => ok = true ∧ x = v | none => ok = false) := by
  have fin : ∀ (s1 : ByteArray) (neg : Bool), s1.size ≤ 100000 → sgnL (bl s) = (neg, bl s1) → ∃ x ok, Ev (fun k => hexes_exponent.j0 k s1 neg) (x, ok) ∧ (match expF 1099511627776 (bl s) with | some v => ok = true ∧ x = v | none => ok = false) := by
    intro s1 neg h1 h2
    have g := exp_j0 h1 neg
    unfold expF
    rw [h2]
    simp only
    cases hx : xvF 1099511627776 (bl s1) 0 with
    | none =>
      rw [hx] at g
      refine ⟨_, _, g, ?_⟩
      split
      · rename_i v hv; split at hv <;> simp at hv
      · rfl
    | some v =>
      rw [hx] at g
      refine ⟨_, _, g, ?_⟩
      by_cases c : bl s1 = []
      · rw [if_pos c]; simp [c]
      · rw [if_neg c]; simp [c]
  have p1 : bl hexes_exponent.s0 = [45] := by decide
  have p2 : bl hexes_exponent.s1 = [43] := by decide
  have hsz : ∀ c, headIs (bl s) c = true → (s.extract 1 s.size).size ≤ 100000 := by
    intro c hc
    rw [← bl_length, sgn_size hc, List.length_drop, bl_length]; omega
  have start : ∀ {r}, _ → Ev (fun k => hexes_exponent k s) r := fun hh => Ev.congr (fun k => hexes_exponent_eq k s) (Ev.bind (Ev.of fun k => prefix_at s _ p1 k) hh)
  have e1 : ((1 : Int).toNat) = 1 := rfl
  cases h1 : headIs (bl s) 45 with
  | true =>
    have hz := headIs_size h1
    obtain ⟨x, ok, g, r⟩ := fin (s.extract 1 s.size) true (hsz 45 h1) (by rw [sgnL_minus h1, sgn_size h1])
    rw [h1] at start
    exact ⟨x, ok, start (Ev.pos rfl (Ev.pos ⟨by omega, by omega⟩ g)), r⟩
  | false =>
    rw [h1] at start
    cases h2 : headIs (bl s) 43 with
    | true =>
      have hz := headIs_size h2
      obtain ⟨x, ok, g, r⟩ := fin (s.extract 1 s.size) false (hsz 43 h2) (by rw [sgnL_plus h1 h2, sgn_size h2])
      exact ⟨x, ok, start (Ev.neg (by simp) (Ev.bind (Ev.of fun k => prefix_at s _ p2 k) (Ev.pos h2 (Ev.pos ⟨by omega, by omega⟩ g)))), r⟩
    | false =>
      obtain ⟨x, ok, g, r⟩ := fin s false hs (sgnL_none h1 h2)
      exact ⟨x, ok, start (Ev.neg (by simp) (Ev.bind (Ev.of fun k => prefix_at s _ p2 k) (Ev.neg (by rw [h2]; simp) g))), r⟩

/-! ### Digits -/
/-- A hexadecimal digit's value; -1: it is none. -/
def hexD (c : Int) : Int := if 48 ≤ c ∧ c ≤ 57 then c - 48 else if 97 ≤ c ∧ c ≤ 102 then c - 87 else if 65 ≤ c ∧ c ≤ 70 then c - 55 else -1
theorem hexD_lt (c : Int) : hexD c < 16 := by unfold hexD; split <;> (try split) <;> (try split) <;> omega
theorem hexD_high {c : Int} (h : 128 ≤ c) : hexD c = -1 := by unfold hexD; rw [if_neg (by omega), if_neg (by omega), if_neg (by omega)]
theorem digit_at {c : Int} (h0 : 0 ≤ c) (k : Nat) : hexes_digit k c = some (hexD c) := by
  have key : ∀ b : Bool, (b = true ↔ (48 ≤ c ∧ c ≤ 57)) → hexes_digit.j0 k c b = some (hexD c) := by
    intro b hb
    rw [hexes_digit.j0_eq]
    unfold hexD
    by_cases c1 : 48 ≤ c ∧ c ≤ 57
    · rw [if_pos (hb.2 c1), if_pos c1, i32_at (by omega) (by omega), wrapI (by omega) (by omega)]
    · rw [if_neg (fun e => c1 (hb.1 e)), if_neg c1]
      by_cases c2 : 97 ≤ c ∧ c ≤ 102
      · rw [if_pos c2, if_pos (dT c2.1), if_pos (dT c2.2), i32_at (by omega) (by omega), wrapI (x := c - 97) (by omega) (by omega), wrapI (by omega) (by omega)]
        congr 1; omega
      · rw [if_neg c2]
        have tl : (if decide (c ≥ 65) = true then (if decide (c ≤ 70) = true then some (IntKind.i64.wrap ((IntKind.i64.wrap (IntKind.i32.wrap (c - 65))) + 10)) else some (-1)) else some (-1)) = some (if 65 ≤ c ∧ c ≤ 70 then c - 55 else -1) := by
          by_cases c3 : 65 ≤ c ∧ c ≤ 70
          · rw [if_pos c3, if_pos (dT c3.1), if_pos (dT c3.2), i32_at (by omega) (by omega), wrapI (x := c - 65) (by omega) (by omega), wrapI (by omega) (by omega)]
            congr 1; omega
          · rw [if_neg c3]
            by_cases c4 : 65 ≤ c
            · rw [if_pos (dT c4), if_neg (dF (by omega))]
            · rw [if_neg (dF (by omega))]
        by_cases c5 : 97 ≤ c
        · rw [if_pos (dT c5), if_neg (dF (by omega))]; exact tl
        · rw [if_neg (dF (by omega))]; exact tl
  rw [hexes_digit_eq]
  by_cases c1 : 48 ≤ c
  · rw [if_pos (dT c1)]; exact key _ (by simp; omega)
  · rw [if_neg (dF (by omega))]; exact key _ (by simp; omega)

/-- A text behind 0x: its digits, how many stand behind the point, and what stands behind the letter of the exponent. -/
def rdF : List Int → Bool → List Int → Nat → Option (List Int × Nat × Option (List Int))
  | [], _, ds, bh => some (ds, bh, none)
  | c :: r, pt, ds, bh =>
    if 0 ≤ hexD c then rdF r pt (ds ++ [hexD c]) (if pt then bh + 1 else bh)
    else if c = 46 ∧ pt = false then rdF r true ds bh
    else if c = 112 ∨ c = 80 then some (ds, bh, some r) else none
/-- The same, read out. -/
def readF (cap : Nat) (l : List Int) : Option (List Int × Nat × Int) :=
  match rdF l false [] 0 with
  | none => none
  | some (ds, bh, none) => if ds = [] then none else some (ds, bh, 0)
  | some (ds, bh, some r) => match expF cap r with
    | none => none
    | some v => if ds = [] then none else some (ds, bh, v)
/-- Digits alone. -/
def HexL (l : List Int) : Prop := ∀ x ∈ l, 0 ≤ x ∧ x < 16
theorem HexL.snoc {l : List Int} (h : HexL l) {c : Int} (hc : 0 ≤ hexD c) : HexL (l ++ [hexD c]) := by
  intro x hx
  rcases List.mem_append.1 hx with g | g
  · exact h x g
  · simp at g; subst g; exact ⟨hc, hexD_lt c⟩
theorem rdF_facts : ∀ {l : List Int} {pt : Bool} {ds : List Int} {bh : Nat} {d : List Int} {b : Nat} {o : Option (List Int)}, HexL ds → bh ≤ ds.length → rdF l pt ds bh = some (d, b, o) → HexL d ∧ b ≤ d.length ∧ d.length ≤ ds.length + l.length ∧ (∀ r, o = some r → r.length < l.length)
  | [], pt, ds, bh, d, b, o, h, hb, e => by
    rw [rdF] at e; cases e
    exact ⟨h, hb, by simp, fun r hr => by cases hr⟩
  | c :: r, pt, ds, bh, d, b, o, h, hb, e => by
    rw [rdF] at e
    split at e
    · rename_i hc
      obtain ⟨a1, a2, a3, a4⟩ := rdF_facts (h.snoc hc) (by simp; split <;> omega) e
      exact ⟨a1, a2, by simp at a3 ⊢; omega, fun q hq => by have := a4 q hq; simp; omega⟩
    · split at e
      · obtain ⟨a1, a2, a3, a4⟩ := rdF_facts h hb e
        exact ⟨a1, a2, by simp; omega, fun q hq => by have := a4 q hq; simp; omega⟩
      · split at e
        · cases e
          exact ⟨h, hb, by simp, fun q hq => by cases hq; simp⟩
        · cases e
theorem readF_facts {cap : Nat} {l d : List Int} {b : Nat} {v : Int} (h : readF cap l = some (d, b, v)) : HexL d ∧ b ≤ d.length ∧ d.length ≤ l.length ∧ d ≠ [] := by
  unfold readF at h
  split at h
  · cases h
  · rename_i ds bh hr
    split at h
    · cases h
    · rename_i hd
      cases h
      obtain ⟨a1, a2, a3, a4⟩ := rdF_facts (fun _ hx => by cases hx) (by simp) hr
      exact ⟨a1, a2, by simpa using a3, hd⟩
  · rename_i ds bh r hr
    split at h
    · cases h
    · split at h
      · cases h
      · rename_i hd
        cases h
        obtain ⟨a1, a2, a3, a4⟩ := rdF_facts (fun _ hx => by cases hx) (by simp) hr
        exact ⟨a1, a2, by simpa using a3, hd⟩
/-- What a reader answers, as far as it is told. -/
def ReadIs (o : Option (List Int × Nat × Int)) (r : List Int × Int × Int × Bool) : Prop :=
  match o with
  | none => r.2.2.2 = false
  | some (d, b, v) => r = (d, ((b : Int), (v, true)))
theorem cap8h {n : Nat} (h : n ≤ 200001) : capOk 8 n = true := capOk_of (by omega)
theorem read_l0 {s : ByteArray} (hs : s.size ≤ 100000) (n : Nat) : ∀ (i : Nat) (pt : Bool) (ds : List Int) (bh : Nat), i + n = s.size → ds.length ≤ i → bh ≤ i →
    ∃ r : List Int × Int × Int × Bool, Ev2 (fun k m => hexes_read.l0 k m s pt ds (bh : Int) s i) r ∧
      ReadIs (match rdF ((bl s).drop i) pt ds bh with
        | none => none
        | some (ds, bh, none) => if ds = [] then none else some (ds, bh, 0)
        | some (ds, bh, some r) => match expF 1099511627776 r with
          | none => none
          | some v => if ds = [] then none else some (ds, bh, v)) r := by
  have l1 := bl_length s
  induction n with
  | zero =>
    intro i pt ds bh hi hd hb
    rw [List.drop_of_length_le (by omega), rdF]
    refine ⟨_, Ev2.step (fun k m => hexes_read.l0_eq k m _ _ _ _ _ _) (Ev2.neg (by omega) (Ev2.some _)), ?_⟩
    simp only
    cases ds with
    | nil => rw [if_pos rfl]; rfl
    | cons a r =>
      rw [if_neg (by simp)]
      show (a :: r, ((bh : Int), ((0 : Int), decide (((a :: r).length : Int) > 0)))) = (a :: r, ((bh : Int), ((0 : Int), true)))
      rw [decide_eq_true (by simp)]
  | succ n ih =>
    intro i pt ds bh hi hd hb
    rw [drop_cons (l := bl s) (by omega), rdF]
    have hby := bytes_getD (bl_bytes s) i
    have start : ∀ {r}, _ → Ev2 (fun k m => hexes_read.l0 k m s pt ds (bh : Int) s i) r := fun hh => Ev2.step (fun k m => hexes_read.l0_eq k m _ _ _ _ _ _) (Ev2.pos (by omega) hh)
    have hu : 0 ≤ u8c s i := by unfold u8c; omega
    have dg := Ev.of (fun k => digit_at hu k)
    by_cases c : (bl s).getD i 0 < 128
    · obtain ⟨e1, e2⟩ := u8_low c
      rw [e1] at dg
      rw [e1, e2] at start
      by_cases hc : 0 ≤ hexD ((bl s).getD i 0)
      · simp only [if_pos hc]
        have es : ds ++ ((List.replicate 1 (0 : Int)).set 0 (hexD ((bl s).getD i 0))) = ds ++ [hexD ((bl s).getD i 0)] := rfl
        obtain ⟨r, g1, g2⟩ := ih (i + 1) pt (ds ++ [hexD ((bl s).getD i 0)]) (if pt then bh + 1 else bh) (by omega) (by simp; omega) (by split <;> omega)
        refine ⟨r, start (Ev2.call dg (Ev2.pos (dT hc) (Ev2.pos (cap8h (by simp; omega)) ?_))), g2⟩
        rw [es]
        cases pt with
        | true =>
          refine Ev2.pos rfl ?_
          rw [show IntKind.i64.wrap ((bh : Int) + 1) = ((bh + 1 : Nat) : Int) by rw [wrapI (by omega) (by omega)]; omega]
          exact g1
        | false => exact Ev2.neg (by simp) g1
      · simp only [if_neg hc]
        have hj1 : ∀ (b3 : Bool) {r : List Int × Int × Int × Bool}, Ev2 (fun k m => hexes_read.j1 k m s (i : Int) ((bl s).getD i 0) b3 ds (bh : Int) s (i + 1)) r → (b3 = decide ((bl s).getD i 0 = 46 ∧ pt = false)) → Ev2 (fun k m => hexes_read.l0 k m s pt ds (bh : Int) s i) r := by
          intro b3 r g hb3
          refine start (Ev2.call dg (Ev2.neg (dF (by omega)) ?_))
          by_cases c46 : (bl s).getD i 0 = 46
          · refine Ev2.pos (bT c46) ?_
            have : b3 = !pt := by
              rw [hb3]
              cases pt
              · exact decide_eq_true ⟨c46, rfl⟩
              · exact decide_eq_false (fun h => by cases h.2)
            rw [this] at g; exact g
          · refine Ev2.neg (bF c46) ?_
            have : b3 = false := by rw [hb3]; exact decide_eq_false (fun h => c46 h.1)
            rw [this] at g; exact g
        by_cases hpt : (bl s).getD i 0 = 46 ∧ pt = false
        · simp only [if_pos hpt]
          obtain ⟨r, g1, g2⟩ := ih (i + 1) true ds bh (by omega) (by omega) (by omega)
          exact ⟨r, hj1 true (Ev2.congr (fun k m => hexes_read.j1_eq k m _ _ _ _ _ _ _ _) (Ev2.pos rfl g1)) (decide_eq_true hpt).symm, g2⟩
        · simp only [if_neg hpt]
          have hj2 : ∀ (b : Bool) {r : List Int × Int × Int × Bool}, Ev2 (fun k m => hexes_read.j2 k m s (i : Int) b ds (bh : Int)) r → (b = decide ((bl s).getD i 0 = 112 ∨ (bl s).getD i 0 = 80)) → Ev2 (fun k m => hexes_read.l0 k m s pt ds (bh : Int) s i) r := by
            intro b r g hb2
            refine hj1 false (Ev2.congr (fun k m => hexes_read.j1_eq k m _ _ _ _ _ _ _ _) (Ev2.neg (by simp) ?_)) (decide_eq_false hpt).symm
            by_cases c112 : (bl s).getD i 0 = 112
            · have : b = true := by rw [hb2]; exact decide_eq_true (.inl c112)
              rw [this] at g
              exact Ev2.pos (bT c112) g
            · refine Ev2.neg (bF c112) ?_
              have : b = ((bl s).getD i 0 == 80) := by
                rw [hb2]
                by_cases c80 : (bl s).getD i 0 = 80
                · rw [beq_iff_eq.2 c80]; exact decide_eq_true (.inr c80)
                · rw [beq_eq_false_iff_ne.2 c80]; exact decide_eq_false (fun h => h.elim c112 c80)
              rw [this] at g; exact g
          by_cases hp : (bl s).getD i 0 = 112 ∨ (bl s).getD i 0 = 80
          · simp only [if_pos hp]
            have hw : IntKind.i64.wrap ((i : Int) + 1) = ((i + 1 : Nat) : Int) := by rw [wrapI (by omega) (by omega)]; omega
            have hbd := bl_drop s (i + 1) (by omega)
            have hsz : (s.extract (i + 1) s.size).size ≤ 100000 := by rw [← bl_length, hbd, List.length_drop]; omega
            obtain ⟨x, ok, g1, g2⟩ := exponent_ev hsz
            rw [hbd] at g2
            have g3 : ∀ {r}, _ → Ev2 (fun k m => hexes_read.j2 k m s (i : Int) true ds (bh : Int)) r := fun hh => Ev2.congr (fun k m => hexes_read.j2_eq k m _ _ _ _ _) (Ev2.pos rfl (by
              rw [hw, Int.toNat_natCast]
              exact Ev2.pos ⟨by omega, by omega⟩ (Ev2.call g1 hh)))
            cases he : expF 1099511627776 ((bl s).drop (i + 1)) with
            | none =>
              rw [he] at g2
              simp only at g2
              subst g2
              exact ⟨_, hj2 true (g3 (Ev2.neg (by simp) (Ev2.some _))) (decide_eq_true hp).symm, rfl⟩
            | some v =>
              rw [he] at g2
              obtain ⟨rfl, rfl⟩ := g2
              refine ⟨_, hj2 true (g3 (Ev2.pos rfl (Ev2.some _))) (decide_eq_true hp).symm, ?_⟩
              simp only
              cases ds with
              | nil => rw [if_pos rfl]; rfl
              | cons a r =>
                rw [if_neg (by simp)]
                show (a :: r, ((bh : Int), (x, decide (((a :: r).length : Int) > 0)))) = (a :: r, ((bh : Int), (x, true)))
                rw [decide_eq_true (by simp)]
          · simp only [if_neg hp]
            exact ⟨_, hj2 false (Ev2.congr (fun k m => hexes_read.j2_eq k m _ _ _ _ _) (Ev2.neg (by simp) (Ev2.some _))) (decide_eq_false hp).symm, rfl⟩
    · have hh := u8_high (s := s) (i := i) (by omega)
      rw [hexD_high hh] at dg
      have h1 : hexD ((bl s).getD i 0) = -1 := hexD_high (by omega)
      simp only [h1]
      rw [if_neg (by omega), if_neg (by omega), if_neg (by omega)]
      refine ⟨_, start (Ev2.call dg (Ev2.neg (dF (by omega)) (Ev2.neg (bF (by omega)) (Ev2.congr (fun k m => hexes_read.j1_eq k m _ _ _ _ _ _ _ _) (Ev2.neg (by simp) (Ev2.neg (bF (by omega)) (Ev2.congr (fun k m => hexes_read.j2_eq k m _ _ _ _ _) (Ev2.neg (bF (by omega)) (Ev2.some _))))))))), rfl⟩
theorem read_ev {s : ByteArray} (hs : s.size ≤ 100000) : ∃ r : List Int × Int × Int × Bool, Ev (fun k => hexes_read k s) r ∧ ReadIs (readF 1099511627776 (bl s)) r := by
  obtain ⟨r, g1, g2⟩ := read_l0 hs s.size 0 false [] 0 (by omega) (by simp) (by omega)
  rw [List.drop_zero] at g2
  exact ⟨r, Ev.congr (fun k => hexes_read_eq k s) g1.ev, g2⟩
end Go.Proofs.YtmoeaeflljpboaaDoor.X
/- Plain law: the natural that hexadecimal digits say, by the program. Conditions: some two thousand digits at most. -/
namespace Go.Proofs.YtmoeaeflljpboaaDoor.X
open Go Go.Rex
set_option linter.unusedVariables false

/-- The natural that digits say, the highest first. -/
def hexN (ds : List Int) : Nat := ds.foldl (fun v d => 16 * v + d.toNat) 0
theorem hexN_snoc (ds : List Int) (d : Int) : hexN (ds ++ [d]) = 16 * hexN ds + d.toNat := by unfold hexN; rw [List.foldl_append]; rfl
theorem hexN_from (l : List Int) : ∀ v : Nat, l.foldl (fun v d => 16 * v + d.toNat) v = v * 16 ^ l.length + hexN l := by
  unfold hexN
  induction l with
  | nil => intro v; simp
  | cons c r ih =>
    intro v
    rw [List.foldl_cons, List.foldl_cons, ih, ih (16 * 0 + c.toNat), List.length_cons, Nat.pow_succ]
    grind
theorem hexN_append (a b : List Int) : hexN (a ++ b) = hexN a * 16 ^ b.length + hexN b := by
  have := hexN_from b (hexN a)
  unfold hexN at *
  rw [List.foldl_append]; exact this
theorem hexN_lt {ds : List Int} (h : HexL ds) : hexN ds < 16 ^ ds.length := by
  have key : ∀ n, ∀ l : List Int, l.length = n → HexL l → hexN l < 16 ^ n := by
    intro n
    induction n with
    | zero => intro l hl _; rw [List.length_eq_zero_iff.1 hl]; decide
    | succ n ih =>
      intro l hl h
      obtain ⟨a, x, rfl⟩ : ∃ a x, l = a ++ [x] := ⟨l.dropLast, l.getLast (by intro c; rw [c] at hl; cases hl), (List.dropLast_concat_getLast _).symm⟩
      have := ih a (by simpa using hl) (fun y hy => h y (List.mem_append_left _ hy))
      have hx := h x (by simp)
      rw [hexN_snoc, Nat.pow_succ]
      omega
  exact key _ _ rfl h
theorem hexN_take {ds : List Int} {i : Nat} (hi : i < ds.length) : hexN (ds.take (i + 1)) = 16 * hexN (ds.take i) + (ds.getD i 0).toNat := by
  rw [List.take_add_one, List.getElem?_eq_getElem hi, Option.toList_some, hexN_snoc, List.getD_eq_getElem?_getD, List.getElem?_eq_getElem hi, Option.getD_some]
theorem val_set_at : ∀ {p : List Int} {q : Nat} (h : q < p.length) (x : Int), val (p.set q x) + 18446744073709551616 ^ q * (p.getD q 0).toNat = val p + 18446744073709551616 ^ q * x.toNat
  | [], q, h, x => by simp at h
  | a :: r, 0, h, x => by
    rw [List.set_cons_zero, val_cons, val_cons, List.getD_cons_zero]; omega
  | a :: r, q + 1, h, x => by
    have := val_set_at (p := r) (q := q) (by simpa using h) x
    rw [List.set_cons_succ, val_cons, val_cons, List.getD_cons_succ, Nat.pow_succ]
    generalize 18446744073709551616 ^ q = Q at *
    generalize val (r.set q x) = A at *
    generalize val r = B at *
    generalize (r.getD q 0).toNat = g at *
    generalize x.toNat = y at *
    grind
/-- The lowest bits of a word of a number that ends in zeros. -/
theorem word_zeros {p : List Int} (hw : WF p) {q t : Nat} (hq : q < p.length) (ht : t ≤ 64) (h : 18446744073709551616 ^ q * 2 ^ t ∣ val p) : (p.getD q 0).toNat % 2 ^ t = 0 := by
  have hB := Nat.pow_pos (n := q) (show 0 < 18446744073709551616 by decide)
  have hp := Nat.two_pow_pos t
  have e1 := val_take_drop p q
  have lt := val_lt (hw.take q)
  rw [List.length_take, Nat.min_eq_left (by omega)] at lt
  have e2 : p.drop q = p.getD q 0 :: p.drop (q + 1) := drop_cons hq
  rw [e2, val_cons] at e1
  obtain ⟨c, hc⟩ := h
  have z : val (p.take q) = 0 := by
    have h1 : 18446744073709551616 ^ q ∣ val (p.take q) := by
      have h2 : 18446744073709551616 ^ q ∣ val p := ⟨2 ^ t * c, by rw [hc, Nat.mul_assoc]⟩
      rw [e1] at h2
      exact (Nat.dvd_add_left (Nat.dvd_mul_right _ _)).1 h2
    rcases Nat.eq_zero_or_pos (val (p.take q)) with g | g
    · exact g
    · have := Nat.le_of_dvd g h1; omega
  rw [z, Nat.zero_add, hc, Nat.mul_assoc] at e1
  have e3 := Nat.eq_of_mul_eq_mul_left hB e1
  have h64 : 2 ^ t ∣ 18446744073709551616 := by
    rw [show 18446744073709551616 = 2 ^ 64 by decide]; exact Nat.pow_dvd_pow 2 ht
  have h5 : 2 ^ t ∣ (p.getD q 0).toNat := by
    have h6 : 2 ^ t ∣ (p.getD q 0).toNat + 18446744073709551616 * val (p.drop (q + 1)) := ⟨c, e3.symm⟩
    exact (Nat.dvd_add_left (Nat.dvd_trans h64 (Nat.dvd_mul_right _ _))).1 h6
  exact Nat.mod_eq_zero_of_dvd h5
theorem hex_getD {ds : List Int} (h : HexL ds) {i : Nat} (hi : i < ds.length) : 0 ≤ ds.getD i 0 ∧ ds.getD i 0 < 16 := by
  rw [List.getD_eq_getElem?_getD, List.getElem?_eq_getElem hi]; exact h _ (List.getElem_mem hi)
theorem pow16 (pl : Nat) : (16 : Nat) ^ pl = 18446744073709551616 ^ (pl / 16) * 2 ^ (pl % 16 * 4) := by
  rw [show (18446744073709551616 : Nat) = 2 ^ 64 by decide, show (16 : Nat) = 2 ^ 4 by decide, ← Nat.pow_mul, ← Nat.pow_mul, ← Nat.pow_add]
  congr 1
  have : (2 : Nat) ^ 4 = 16 := by decide
  rw [this]
  omega
/-- One digit put into its place. -/
theorem place_digit {p : List Int} (hw : WF p) {pl d : Nat} (hd : d < 16) (hq : pl / 16 < p.length) (h : 16 ^ (pl + 1) ∣ val p) :
    ∃ x : Nat, orK IntKind.u64 (p.getD (pl / 16) 0) (shlK IntKind.u64 (d : Int) ((pl % 16 * 4 : Nat) : Int)) = (x : Int) ∧ x < 18446744073709551616 ∧ val (p.set (pl / 16) (x : Int)) = val p + d * 16 ^ pl := by
  have hm : pl % 16 < 16 := Nat.mod_lt _ (by decide)
  obtain ⟨t, ht⟩ : ∃ t, t = pl % 16 * 4 := ⟨_, rfl⟩
  have e16 := pow16 pl
  rw [← ht] at e16
  have hz := word_zeros hw (q := pl / 16) (t := t + 4) hq (by omega) (by
    rw [Nat.pow_succ, e16] at h
    rw [Nat.pow_add]
    have : 18446744073709551616 ^ (pl / 16) * (2 ^ t * 2 ^ 4) = 18446744073709551616 ^ (pl / 16) * 2 ^ t * 16 := by grind
    rw [this]; exact h)
  have hg := hw.getD (pl / 16)
  have vs := val_set_at hq (((p.getD (pl / 16) 0).toNat + d * 2 ^ t : Nat) : Int)
  obtain ⟨w, hwn⟩ := Int.eq_ofNat_of_zero_le hg.1
  rw [hwn] at hg hz vs ⊢
  rw [Int.toNat_natCast] at hz vs
  rw [Int.toNat_natCast] at vs
  have hp := Nat.two_pow_pos t
  have h4 : 2 ^ (t + 4) = 16 * 2 ^ t := by rw [Nat.pow_add, Nat.mul_comm]
  have hdt : d * 2 ^ t < 2 ^ (t + 4) := by rw [h4]; exact Nat.mul_lt_mul_of_pos_right hd hp
  have htop : 2 ^ (t + 4) * 2 ^ (60 - t) = 18446744073709551616 := by rw [← Nat.pow_add, show t + 4 + (60 - t) = 64 by omega]
  have hsum : w + d * 2 ^ t < 18446744073709551616 := by
    have h1 := Nat.div_add_mod w (2 ^ (t + 4))
    rw [hz, Nat.add_zero] at h1
    have h2 : w / 2 ^ (t + 4) < 2 ^ (60 - t) := by
      rw [Nat.div_lt_iff_lt_mul (Nat.two_pow_pos _), Nat.mul_comm, htop]; omega
    have h3 : 2 ^ (t + 4) * (w / 2 ^ (t + 4) + 1) ≤ 18446744073709551616 := by rw [← htop]; exact Nat.mul_le_mul_left _ h2
    rw [Nat.mul_add, h1, Nat.mul_one] at h3
    omega
  refine ⟨w + d * 2 ^ t, ?_, hsum, ?_⟩
  · rw [← ht, shlK_exact d t (by omega) (by omega), orK_add w (d * 2 ^ t) (t + 4) hdt hz hsum]
  · rw [e16]
    have : 18446744073709551616 ^ (pl / 16) * (w + d * 2 ^ t) = 18446744073709551616 ^ (pl / 16) * w + d * (18446744073709551616 ^ (pl / 16) * 2 ^ t) := by grind
    omega
theorem natural_l0 {ds : List Int} (h : HexL ds) (hl : ds.length ≤ 100000) (n : Nat) : ∀ (i : Nat) (p : List Int), i + n = ds.length → WF p → p.length = ds.length / 16 + 1 → val p = hexN (ds.take i) * 16 ^ (ds.length - i) →
    ∃ ws, Ev2 (fun k m => hexes_natural.l0 k m ds ds (ds.length : Int) (i : Int) p) ws ∧ WF ws ∧ val ws = hexN ds ∧ ws.length = ds.length / 16 + 1 := by
  induction n with
  | zero =>
    intro i p hi hw hp hv
    rw [List.take_of_length_le (by omega), show ds.length - i = 0 by omega, Nat.pow_zero, Nat.mul_one] at hv
    exact ⟨p, Ev2.step (fun k m => hexes_natural.l0_eq k m _ _ _ _ _) (Ev2.neg (dF (by omega)) (Ev2.some _)), hw, hv, hp⟩
  | succ n ih =>
    intro i p hi hw hp hv
    have hlt : i < ds.length := by omega
    obtain ⟨d0, d1⟩ := hex_getD h hlt
    obtain ⟨pl, hpl⟩ : ∃ pl, pl = ds.length - 1 - i := ⟨_, rfl⟩
    have hs : ds.length - i = pl + 1 := by omega
    have hq : pl / 16 < p.length := by rw [hp]; omega
    rw [hs] at hv
    obtain ⟨d, hd⟩ := Int.eq_ofNat_of_zero_le d0
    obtain ⟨x, ex, hx, vx⟩ := place_digit hw (d := d) (by omega) hq ⟨hexN (ds.take i), by rw [hv, Nat.mul_comm]⟩
    obtain ⟨ws, g1, g2⟩ := ih (i + 1) (p.set (pl / 16) (x : Int)) (by omega) (hw.set _ (by omega) (by omega)) (by rw [List.length_set]; exact hp) (by
      rw [vx, hv, hexN_take hlt, hd, Int.toNat_natCast, show ds.length - (i + 1) = pl by omega, Nat.pow_succ]; grind)
    refine ⟨ws, ?_, g2⟩
    have w1 : IntKind.i64.wrap ((IntKind.i64.wrap ((ds.length : Int) - 1)) - (i : Int)) = (pl : Int) := by rw [wrapI (x := (ds.length : Int) - 1) (by omega) (by omega), wrapI (by omega) (by omega)]; omega
    have w2 : (pl : Int).tdiv 16 = ((pl / 16 : Nat) : Int) := rfl
    have w3 : (pl : Int).tmod 16 = ((pl % 16 : Nat) : Int) := rfl
    have w4 : IntKind.i64.wrap ((pl / 16 : Nat) : Int) = ((pl / 16 : Nat) : Int) := wrapI (by omega) (by omega)
    have w5 : IntKind.i64.wrap (((pl % 16 : Nat) : Int) * 4) = ((pl % 16 * 4 : Nat) : Int) := by rw [wrapI (by omega) (by omega)]; omega
    have w6 : IntKind.u64.wrap (d : Int) = (d : Int) := wrapUn (by omega)
    have w7 : IntKind.i64.wrap ((i : Int) + 1) = ((i + 1 : Nat) : Int) := by rw [wrapI (by omega) (by omega)]; omega
    refine Ev2.step (fun k m => hexes_natural.l0_eq k m _ _ _ _ _) (Ev2.pos (dT (by omega)) (Ev2.pos ⟨by omega, by omega⟩ ?_))
    rw [w1, w2, w3, w4, w5, w7, Int.toNat_natCast, Int.toNat_natCast, hd, w6, ex]
    exact Ev2.pos ⟨by omega, by omega⟩ (Ev2.pos (by omega) (Ev2.pos ⟨by omega, by omega⟩ g1))
theorem natural_ev {ds : List Int} (h : HexL ds) (hl : ds.length ≤ 100000) : ∃ ws, Ev (fun k => hexes_natural k ds) ws ∧ WF ws ∧ val ws = hexN ds ∧ ws.length = ds.length / 16 + 1 := by
  obtain ⟨ws, g1, g2⟩ := natural_l0 h hl ds.length 0 (List.replicate (ds.length / 16 + 1) 0) (by omega) (WF.replicate _) (by simp) (by rw [val_replicate, List.take_zero]; simp [hexN])
  refine ⟨ws, Ev.congr (fun k => hexes_natural_eq k ds) ?_, g2⟩
  have w2 : ((ds.length : Nat) : Int).tdiv 16 = ((ds.length / 16 : Nat) : Int) := rfl
  rw [w2, wrapI (x := ((ds.length / 16 : Nat) : Int)) (by omega) (by omega), wrapI (by omega) (by omega), show (((ds.length / 16 : Nat) : Int) + 1).toNat = ds.length / 16 + 1 by omega]
  exact Ev.pos ⟨by omega, by omega⟩ g1.ev
end Go.Proofs.YtmoeaeflljpboaaDoor.X
/- Plain law: what the reference makes of a hexadecimal text. Conditions: the texts are short. -/
namespace Go.Proofs.YtmoeaeflljpboaaDoor.X
open Go Go.Rex
set_option linter.unusedVariables false

theorem hit15 : ∀ c : Fin 256, ∀ j : Fin 16, ((bt vernierref15_value.s0 (j.val : Int) == (c.val : Int)) || (decide ((c.val : Int) ≥ 65) && (decide ((c.val : Int) ≤ 70) && (bt vernierref15_value.s0 (j.val : Int) == IntKind.u8.wrap ((c.val : Int) + 32))))) = decide (hexD (c.val : Int) = (j.val : Int)) := by decide +kernel
theorem value_l0 {c : Int} (h0 : 0 ≤ c) (h1 : c < 256) (n : Nat) : ∀ i : Nat, i + n = 16 → (∀ j : Nat, j < i → hexD c ≠ (j : Int)) → Ev2 (fun k m => vernierref15_value.l0 k m c (i : Int)) (if 0 ≤ hexD c then hexD c else 16) := by
  have hlt := hexD_lt c
  induction n with
  | zero =>
    intro i hi hno
    have : ¬ 0 ≤ hexD c := fun g => hno (hexD c).toNat (by omega) (by omega)
    rw [if_neg this]
    exact Ev2.step (fun k m => vernierref15_value.l0_eq k m _ _) (Ev2.neg (dF (by omega)) (Ev2.some _))
  | succ n ih =>
    intro i hi hno
    have hh := hit15 ⟨c.toNat, by omega⟩ ⟨i, by omega⟩
    simp only at hh
    rw [show ((c.toNat : Nat) : Int) = c by omega] at hh
    have hs : vernierref15_value.s0.size = 16 := by decide
    have start : ∀ {r}, _ → Ev2 (fun k m => vernierref15_value.l0 k m c (i : Int)) r := fun z => Ev2.step (fun k m => vernierref15_value.l0_eq k m _ _) (Ev2.pos (dT (by omega)) (Ev2.pos ⟨by omega, by omega⟩ z))
    have w : IntKind.i64.wrap ((i : Int) + 1) = ((i + 1 : Nat) : Int) := by rw [wrapI (by omega) (by omega)]; omega
    have key : ∀ b : Bool, b = decide (hexD c = (i : Int)) → Ev2 (fun k m => vernierref15_value.j1 k m c (i : Int) b) (if 0 ≤ hexD c then hexD c else 16) := by
      intro b hb
      refine Ev2.congr (fun k m => vernierref15_value.j1_eq k m _ _ _) ?_
      by_cases e : hexD c = (i : Int)
      · rw [hb, decide_eq_true e, if_pos (by omega), e]
        exact Ev2.pos rfl (Ev2.eq (Ev2.some _) (wrapUn (by omega)))
      · rw [hb, decide_eq_false e, w]
        exact Ev2.neg (by simp) (ih (i + 1) (by omega) (fun j hj => by
          rcases Nat.lt_or_ge j i with g | g
          · exact hno j g
          · rw [show j = i by omega]; exact e))
    by_cases c1 : bt vernierref15_value.s0 (i : Int) = c
    · refine start (Ev2.pos (bT c1) (key true ?_))
      rw [← hh, beq_iff_eq.2 c1, Bool.true_or]
    · rw [beq_eq_false_iff_ne.2 c1, Bool.false_or] at hh
      refine start (Ev2.neg (bF c1) ?_)
      by_cases c2 : c ≥ 65
      · rw [decide_eq_true c2, Bool.true_and] at hh
        refine Ev2.pos (dT c2) ?_
        by_cases c3 : c ≤ 70
        · rw [decide_eq_true c3, Bool.true_and] at hh
          exact Ev2.pos (dT c3) (Ev2.pos ⟨by omega, by omega⟩ (key _ hh))
        · rw [decide_eq_false c3, Bool.false_and] at hh
          exact Ev2.neg (dF c3) (key false hh)
      · rw [decide_eq_false c2, Bool.false_and] at hh
        exact Ev2.neg (dF c2) (key false hh)
theorem value_ev {c : Int} (h0 : 0 ≤ c) (h1 : c < 256) : Ev (fun k => vernierref15_value k c) (if 0 ≤ hexD c then hexD c else 16) :=
  Ev.congr (fun k => vernierref15_value_eq k c) (value_l0 h0 h1 16 0 rfl (fun j hj => by omega)).ev
theorem u8_sub {c : Int} (h : 48 ≤ c ∧ c ≤ 57) : IntKind.u8.wrap (c - 48) = c - 48 := by
  obtain ⟨d, hd⟩ := Int.eq_ofNat_of_zero_le (show 0 ≤ c - 48 by omega)
  rw [hd]
  simp [IntKind.wrap, IntKind.signed, IntKind.bits]
  omega
theorem min10r {x : Nat} {c : Int} (hx : x ≤ 30000) (h : 48 ≤ c ∧ c ≤ 57) : mnI (IntKind.i64.wrap ((IntKind.i64.wrap (10 * (x : Int))) + (IntKind.i64.wrap (IntKind.u8.wrap (c - 48))))) 30000 = ((min (10 * x + (c - 48).toNat) 30000 : Nat) : Int) := by
  rw [u8_sub h, wrapI (x := c - 48) (by omega) (by omega), wrapI (x := 10 * (x : Int)) (by omega) (by omega), wrapI (by omega) (by omega)]
  unfold mnI
  split <;> omega
theorem rexp_l1 {s : ByteArray} (hs : s.size ≤ 100000) (neg : Bool) (n : Nat) : ∀ (i x : Nat), i + n = s.size → x ≤ 30000 →
    Ev2 (fun k m => vernierref15_exponent.l1 k m s neg (x : Int) (i : Int)) (match xvF 30000 ((bl s).drop i) x with | some v => (if neg then -(v : Int) else (v : Int), true) | none => (0, false)) := by
  have l1 := bl_length s
  induction n with
  | zero =>
    intro i x hi hx
    rw [List.drop_of_length_le (by omega), xvF]
    refine Ev2.step (fun k m => vernierref15_exponent.l1_eq k m _ _ _ _) (Ev2.neg (dF (by omega)) ?_)
    cases neg with
    | false => exact Ev2.neg (by simp) (Ev2.some _)
    | true => exact Ev2.pos rfl (Ev2.eq (Ev2.some _) (by rw [wrapI (by omega) (by omega)]; simp))
  | succ n ih =>
    intro i x hi hx
    rw [drop_cons (l := bl s) (by omega), xvF]
    refine Ev2.step (fun k m => vernierref15_exponent.l1_eq k m _ _ _ _) (Ev2.pos (dT (by omega)) (Ev2.pos ⟨by omega, by omega⟩ ?_))
    rw [bt_bl, Int.toNat_natCast]
    by_cases d : 48 ≤ (bl s).getD i 0 ∧ (bl s).getD i 0 ≤ 57
    · rw [if_pos d, min10r hx d, show IntKind.i64.wrap ((i : Int) + 1) = ((i + 1 : Nat) : Int) by rw [wrapI (by omega) (by omega)]; omega]
      exact Ev2.neg (dF (by omega)) (Ev2.pos ⟨by omega, by omega⟩ (Ev2.neg (dF (by omega)) (Ev2.pos ⟨by omega, by omega⟩ (ih (i + 1) _ (by omega) (Nat.min_le_right _ _)))))
    · rw [if_neg d]
      by_cases d1 : (bl s).getD i 0 < 48
      · exact Ev2.pos (dT d1) (Ev2.some _)
      · exact Ev2.neg (dF d1) (Ev2.pos ⟨by omega, by omega⟩ (Ev2.pos (dT (by omega)) (Ev2.some _)))
/-- What the reference answers of an exponent. -/
def expR (l : List Int) : Int × Bool := match expF 30000 l with | some v => (v, true) | none => (0, false)
theorem rexp_j0 {s : ByteArray} (hs : s.size ≤ 100000) {neg : Bool} {l : List Int} (h : sgnL l = (neg, bl s)) : Ev (fun k => vernierref15_exponent.j0 k s neg) (expR l) := by
  refine Ev.congr (fun k => vernierref15_exponent.j0_eq k s neg) ?_
  have l1 := bl_length s
  unfold expR expF
  rw [h]
  simp only
  by_cases c : bl s = []
  · rw [if_pos c]
    rw [c] at l1
    exact Ev.pos (bT (by simp at l1; omega)) (Ev.some _)
  · rw [if_neg c]
    have : s.size ≠ 0 := by
      intro z
      rw [z] at l1
      exact c (List.length_eq_zero_iff.1 l1)
    have g := (rexp_l1 hs neg s.size 0 0 (by omega) (by omega)).ev
    rw [List.drop_zero] at g
    refine Ev.neg (bF (by omega)) (Ev.eq g ?_)
    cases xvF 30000 (bl s) 0 <;> rfl
theorem head_of {s : ByteArray} (h : 0 < s.size) (c : Int) : (bt s 0 == c) = headIs (bl s) c := by
  rw [show (0 : Int) = ((0 : Nat) : Int) from rfl, bt_bl, Int.toNat_natCast]
  rw [← bl_length] at h
  cases hs : bl s with
  | nil => rw [hs] at h; cases h
  | cons a r => rfl
theorem rexponent_ev {s : ByteArray} (hs : s.size ≤ 100000) : Ev (fun k => vernierref15_exponent k s) (expR (bl s)) := by
  have e1 : ((1 : Int).toNat) = 1 := rfl
  by_cases c0 : 0 < s.size
  · have hsz : ∀ c, headIs (bl s) c = true → (s.extract 1 s.size).size ≤ 100000 := by
      intro c hc
      rw [← bl_length, sgn_size hc, List.length_drop, bl_length]; omega
    have start : ∀ {r}, _ → Ev (fun k => vernierref15_exponent k s) r := fun hh => Ev.congr (fun k => vernierref15_exponent_eq k s) (Ev.pos (dT (by omega)) (Ev.pos ⟨by omega, by omega⟩ hh))
    cases h2 : headIs (bl s) 43 with
    | true =>
      have h1 : headIs (bl s) 45 = false := by
        cases hb : bl s with
        | nil => rfl
        | cons a r =>
          rw [hb] at h2
          have : a = 43 := by simpa [headIs] using h2
          subst this; rfl
      have hz := headIs_size h2
      refine start (Ev.pos (by rw [head_of c0]; exact h2) (Ev.pos ⟨by omega, by omega⟩ (Ev.pos ⟨by omega, by omega⟩ ?_)))
      rw [head_of c0, h1]
      exact rexp_j0 (hsz 43 h2) (by rw [sgnL_plus h1 h2, sgn_size h2])
    | false =>
      refine start (Ev.neg (by rw [head_of c0, h2]; simp) (Ev.pos ⟨by omega, by omega⟩ ?_))
      cases h1 : headIs (bl s) 45 with
      | true =>
        have hz := headIs_size h1
        refine Ev.pos (by rw [head_of c0]; exact h1) (Ev.pos ⟨by omega, by omega⟩ (Ev.pos ⟨by omega, by omega⟩ ?_))
        rw [head_of c0, h1]
        exact rexp_j0 (hsz 45 h1) (by rw [sgnL_minus h1, sgn_size h1])
      | false => exact Ev.neg (by rw [head_of c0, h1]; simp) (rexp_j0 hs (sgnL_none h1 h2))
  · have hb : bl s = [] := List.length_eq_zero_iff.1 (by rw [bl_length]; omega)
    exact Ev.congr (fun k => vernierref15_exponent_eq k s) (Ev.neg (dF (by omega)) (rexp_j0 hs (by rw [hb]; rfl)))

theorem rPlus_one {n v : Nat} (hn : (d32 n).length ≤ 400000) (hv : v < 16) : Ev (fun k => vernierref03_Plus k (d32 n) [(v : Int)]) (d32 (n + v)) := by
  have hw : W32 [(v : Int)] := by intro x hx; simp at hx; subst hx; omega
  have := (rPlus_l0 (W32.d32 n) hw (by omega) (by simp) (max (d32 n).length [(v : Int)].length) 0 0 [] (by omega) (by omega) (by intro x hx; cases hx) rfl (by simp [v32])).ev
  rw [v32_d32, show v32 [(v : Int)] = v by simp [v32]] at this
  refine Ev.congr (fun k => vernierref03_Plus_eq k _ _) ?_
  have emx : mxI ((d32 n).length : Int) (([(v : Int)] : List Int).length : Int) = ((max (d32 n).length ([(v : Int)] : List Int).length : Nat) : Int) := by unfold mxI; split <;> omega
  have hm : max (d32 n).length ([(v : Int)] : List Int).length ≤ 400001 := by simp; omega
  rw [emx, succ_i _ (by omega), List.take_zero]
  exact Ev.pos ⟨by omega, by omega, by omega⟩ this
end Go.Proofs.YtmoeaeflljpboaaDoor.X
/- Plain law: what a hexadecimal text says, by the program and by the reference: kinds, signs, digits. Conditions: the texts are short. -/
namespace Go.Proofs.YtmoeaeflljpboaaDoor.X
open Go Go.Rex
set_option linter.unusedVariables false

/-- What the reference's reader leaves. -/
def RReadIs (nan inf neg : Bool) (o : Option (List Int × Nat × Int)) (r : Bool × Bool × Bool × Bool × List Int × Int × Bool) : Prop :=
  match o with
  | none => r.2.2.2.2.2.2 = false
  | some (d, b, v) => r = (nan, (inf, (neg, (neg, (d32 (hexN d), (v - 4 * (b : Int), true))))))
theorem hexN_len {ds : List Int} (h : HexL ds) (hl : ds.length ≤ 100000) : (d32 (hexN ds)).length ≤ 20000 := by
  refine d32_short (p := 4 * ds.length) ?_ (by omega)
  have := hexN_lt h
  rwa [show (16 : Nat) = 2 ^ 4 by decide, ← Nat.pow_mul] at this
theorem xvF_bound {cap : Nat} {l : List Int} {v : Int} (h : expF cap l = some v) : -(cap : Int) ≤ v ∧ v ≤ (cap : Int) := by
  unfold expF at h
  split at h
  · cases h
  · cases hx : xvF cap (sgnL l).2 0 with
    | none => rw [hx] at h; cases h
    | some x =>
      rw [hx] at h
      have := xvF_le (Nat.zero_le _) hx
      have h : some (if (sgnL l).1 = true then -(x : Int) else (x : Int)) = some v := h
      cases h
      split <;> omega
section
variable {s : ByteArray} (hs : s.size ≤ 100000) (b7 b8 b9 b10 nan inf neg b15 : Bool) (x11 x16 : Int)
include hs
omit hs in
theorem rread_end {ds : List Int} (hd : HexL ds) (hl : ds.length ≤ 100000) {bh : Nat} (hb : bh ≤ 100000) {pt : Int} {v : Int} (hv : -30000 ≤ v ∧ v ≤ 30000) {i : Nat} (hi : s.size ≤ i) (hi2 : i ≤ 100001) :
    ∃ r, Ev2 (fun k m => vernierref15_Read.l4 k m s (d32 (hexN ds)) (ds.length : Int) pt (bh : Int) v (i : Int) b7 b8 b9 b10 x11 nan inf neg b15 x16) r ∧ RReadIs nan inf neg (if ds = [] then none else some (ds, bh, v)) r := by
  have hn := hexN_len hd hl
  have ht := rTrim3 (W32.d32 (hexN ds)) (by omega)
  rw [v32_d32] at ht
  refine ⟨_, Ev2.step (fun k m => vernierref15_Read.l4_eq k m _ _ _ _ _ _ _ _ _ _ _ _ _ _ _ _ _) (Ev2.neg (dF (by omega)) (Ev2.call ht (Ev2.some _))), ?_⟩
  cases ds with
  | nil => rw [if_pos rfl]; rfl
  | cons a r =>
    rw [if_neg (by simp)]
    show (nan, (inf, (neg, (neg, (_, (IntKind.i64.wrap (v - IntKind.i64.wrap (4 * (bh : Int))), decide (((a :: r).length : Int) > 0))))))) = _
    rw [wrapI (x := 4 * (bh : Int)) (by omega) (by omega), wrapI (by omega) (by omega), decide_eq_true (by simp)]
theorem rread_l4 (n : Nat) : ∀ (i : Nat) (pt : Bool) (ds : List Int) (bh : Nat), i + n = s.size → HexL ds → ds.length ≤ i → bh ≤ i →
    ∃ r, Ev2 (fun k m => vernierref15_Read.l4 k m s (d32 (hexN ds)) (ds.length : Int) (if pt then 1 else 0) (bh : Int) 0 (i : Int) b7 b8 b9 b10 x11 nan inf neg b15 x16) r ∧
      RReadIs nan inf neg (match rdF ((bl s).drop i) pt ds bh with
        | none => none
        | some (ds, bh, none) => if ds = [] then none else some (ds, bh, 0)
        | some (ds, bh, some r) => match expF 30000 r with
          | none => none
          | some v => if ds = [] then none else some (ds, bh, v)) r := by
  have l1 := bl_length s
  induction n with
  | zero =>
    intro i pt ds bh hi hx hd hb
    rw [List.drop_of_length_le (by omega), rdF]
    exact rread_end (s := s) b7 b8 b9 b10 nan inf neg b15 x11 x16 hx (by omega) (by omega) (by omega) (by omega) (by omega)
  | succ n ih =>
    intro i pt ds bh hi hx hd hb
    rw [drop_cons (l := bl s) (by omega), rdF]
    have hby := bytes_getD (bl_bytes s) i
    have hlen := hexN_len hx (by omega)
    have e0 : bt s (i : Int) = (bl s).getD i 0 := by rw [bt_bl, Int.toNat_natCast]
    have w1 : IntKind.i64.wrap ((i : Int) + 1) = ((i + 1 : Nat) : Int) := by rw [wrapI (by omega) (by omega)]; omega
    have start : ∀ {r}, _ → Ev2 (fun k m => vernierref15_Read.l4 k m s (d32 (hexN ds)) (ds.length : Int) (if pt then 1 else 0) (bh : Int) 0 (i : Int) b7 b8 b9 b10 x11 nan inf neg b15 x16) r := fun hh => Ev2.step (fun k m => vernierref15_Read.l4_eq k m _ _ _ _ _ _ _ _ _ _ _ _ _ _ _ _ _) (Ev2.pos (dT (by omega)) (Ev2.pos ⟨by omega, by omega⟩ hh))
    rw [e0] at start
    have dg := value_ev hby.1 hby.2
    by_cases hc : 0 ≤ hexD ((bl s).getD i 0)
    · simp only [if_pos hc]
      rw [if_pos hc] at dg
      have hlt := hexD_lt ((bl s).getD i 0)
      obtain ⟨r, g1, g2⟩ := ih (i + 1) pt (ds ++ [hexD ((bl s).getD i 0)]) (if pt then bh + 1 else bh) (by omega) (hx.snoc hc) (by simp; omega) (by split <;> omega)
      refine ⟨r, ?_, g2⟩
      obtain ⟨v, hv⟩ := Int.eq_ofNat_of_zero_le hc
      have hL := rLeft (n := hexN ds) (t := 4) (by omega) (by omega)
      have hP := rPlus_one (n := hexN ds * 2 ^ 4) (v := v) (by
        have := hexN_len (hx.snoc hc) (by simp; omega)
        rw [hexN_snoc] at this
        exact Nat.le_trans (d32_mono (show hexN ds * 2 ^ 4 ≤ 16 * hexN ds + (hexD ((bl s).getD i 0)).toNat by omega)) (by omega)) (by omega)
      have hN : hexN ds * 2 ^ 4 + v = hexN (ds ++ [hexD ((bl s).getD i 0)]) := by rw [hexN_snoc, hv, Int.toNat_natCast]; omega
      rw [hN] at hP
      refine start (Ev2.call dg (Ev2.pos (dT (by omega)) (Ev2.call hL (Ev2.call (a := d32 (hexN (ds ++ [hexD ((bl s).getD i 0)]))) ?_ ?_))))
      · show Ev (fun k => vernierref03_Plus k _ [hexD ((bl s).getD i 0)]) _
        rw [hv]; rw [hv] at hP; exact hP
      · have w2 : IntKind.i64.wrap ((ds.length : Int) + 1) = ((ds ++ [hexD ((bl s).getD i 0)]).length : Int) := by rw [wrapI (by omega) (by omega)]; simp
        have w3 : IntKind.i64.wrap ((bh : Int) + (if pt then 1 else 0)) = ((if pt then bh + 1 else bh : Nat) : Int) := by
          cases pt
          · rw [if_neg (by simp), if_neg (by simp), wrapI (by omega) (by omega)]; omega
          · rw [if_pos rfl, if_pos rfl, wrapI (by omega) (by omega)]; omega
        rw [w1, w2, w3]
        exact g1
    · simp only [if_neg hc]
      rw [if_neg hc] at dg
      have hj5 : ∀ (b : Bool) {r}, b = decide ((bl s).getD i 0 = 46 ∧ pt = false) → Ev2 (fun k m => vernierref15_Read.j5 k m s (d32 (hexN ds)) (ds.length : Int) (if pt then 1 else 0) (bh : Int) 0 (i : Int) ((bl s).getD i 0) b b7 b8 b9 b10 x11 nan inf neg b15 x16) r → Ev2 (fun k m => vernierref15_Read.l4 k m s (d32 (hexN ds)) (ds.length : Int) (if pt then 1 else 0) (bh : Int) 0 (i : Int) b7 b8 b9 b10 x11 nan inf neg b15 x16) r := by
        intro b r hb3 g
        refine start (Ev2.call dg (Ev2.neg (dF (by omega)) ?_))
        by_cases c46 : (bl s).getD i 0 = 46
        · refine Ev2.pos (bT c46) ?_
          have : b = ((if pt then (1 : Int) else 0) == 0) := by
            rw [hb3]
            cases pt
            · exact decide_eq_true ⟨c46, rfl⟩
            · exact decide_eq_false (fun h => by cases h.2)
          rw [this] at g; exact g
        · refine Ev2.neg (bF c46) ?_
          have : b = false := by rw [hb3]; exact decide_eq_false (fun h => c46 h.1)
          rw [this] at g; exact g
      by_cases hpt : (bl s).getD i 0 = 46 ∧ pt = false
      · simp only [if_pos hpt]
        obtain ⟨r, g1, g2⟩ := ih (i + 1) true ds bh (by omega) hx (by omega) (by omega)
        refine ⟨r, hj5 true (decide_eq_true hpt).symm (Ev2.congr (fun k m => vernierref15_Read.j5_eq k m _ _ _ _ _ _ _ _ _ _ _ _ _ _ _ _ _ _ _) (Ev2.pos rfl ?_)), g2⟩
        rw [w1]; exact g1
      · simp only [if_neg hpt]
        have hj6 : ∀ (b : Bool) {r}, b = decide ((bl s).getD i 0 = 112 ∨ (bl s).getD i 0 = 80) → Ev2 (fun k m => vernierref15_Read.j6 k m s (d32 (hexN ds)) (ds.length : Int) (if pt then 1 else 0) (bh : Int) (i : Int) b b7 b8 b9 b10 x11 nan inf neg b15 x16) r → Ev2 (fun k m => vernierref15_Read.l4 k m s (d32 (hexN ds)) (ds.length : Int) (if pt then 1 else 0) (bh : Int) 0 (i : Int) b7 b8 b9 b10 x11 nan inf neg b15 x16) r := by
          intro b r hb2 g
          refine hj5 false (decide_eq_false hpt).symm (Ev2.congr (fun k m => vernierref15_Read.j5_eq k m _ _ _ _ _ _ _ _ _ _ _ _ _ _ _ _ _ _ _) (Ev2.neg (by simp) ?_))
          by_cases c112 : (bl s).getD i 0 = 112
          · have : b = true := by rw [hb2]; exact decide_eq_true (.inl c112)
            rw [this] at g
            exact Ev2.pos (bT c112) g
          · refine Ev2.neg (bF c112) ?_
            have : b = ((bl s).getD i 0 == 80) := by
              rw [hb2]
              by_cases c80 : (bl s).getD i 0 = 80
              · rw [beq_iff_eq.2 c80]; exact decide_eq_true (.inr c80)
              · rw [beq_eq_false_iff_ne.2 c80]; exact decide_eq_false (fun h => h.elim c112 c80)
            rw [this] at g; exact g
        by_cases hp : (bl s).getD i 0 = 112 ∨ (bl s).getD i 0 = 80
        · simp only [if_pos hp]
          have hbd := bl_drop s (i + 1) (by omega)
          have hsz : (s.extract (i + 1) s.size).size ≤ 100000 := by rw [← bl_length, hbd, List.length_drop]; omega
          have g1 := rexponent_ev hsz
          rw [hbd] at g1
          have g3 : ∀ {r}, _ → Ev2 (fun k m => vernierref15_Read.j6 k m s (d32 (hexN ds)) (ds.length : Int) (if pt then 1 else 0) (bh : Int) (i : Int) true b7 b8 b9 b10 x11 nan inf neg b15 x16) r := fun hh => Ev2.congr (fun k m => vernierref15_Read.j6_eq k m _ _ _ _ _ _ _ _ _ _ _ _ _ _ _ _ _) (Ev2.pos rfl (by
            rw [w1, Int.toNat_natCast]
            exact Ev2.pos ⟨by omega, by omega⟩ (Ev2.call g1 hh)))
          unfold expR at g3
          cases he : expF 30000 ((bl s).drop (i + 1)) with
          | none =>
            rw [he] at g3
            exact ⟨_, hj6 true (decide_eq_true hp).symm (g3 (Ev2.pos rfl (Ev2.some _))), rfl⟩
          | some v =>
            rw [he] at g3
            have hv := xvF_bound he
            obtain ⟨r, q1, q2⟩ := rread_end (s := s) b7 b8 b9 b10 nan inf neg b15 x11 x16 hx (by omega) (bh := bh) (by omega) (pt := if pt then 1 else 0) (v := v) (by omega) (i := s.size + 1) (by omega) (by omega)
            refine ⟨r, hj6 true (decide_eq_true hp).symm (g3 (Ev2.neg (by simp) ?_)), q2⟩
            rw [show IntKind.i64.wrap ((s.size : Int) + 1) = ((s.size + 1 : Nat) : Int) by rw [wrapI (by omega) (by omega)]; omega]
            exact q1
        · simp only [if_neg hp]
          exact ⟨_, hj6 false (decide_eq_false hp).symm (Ev2.congr (fun k m => vernierref15_Read.j6_eq k m _ _ _ _ _ _ _ _ _ _ _ _ _ _ _ _ _) (Ev2.neg (by simp) (Ev2.some _))), rfl⟩
end

/-! ### What a text says -/
def nanL : List Int := [110, 97, 110]
def infL : List Int := [105, 110, 102]
theorem small_nan : Small nanL := by intro b hb; simp [nanL] at hb; omega
theorem small_inf : Small infL := by intro b hb; simp [infL] at hb; omega
/-- Does it begin with 0x? -/
def pre0x (l : List Int) : Bool := decide (2 ≤ l.length) && (l.getD 0 0 == 48 && (l.getD 1 0 == 120 || l.getD 1 0 == 88))
inductive Sd where
  | bad | nan | inf | num (d : List Int) (b : Nat) (v : Int)
/-- What a text behind its sign says. -/
def sdF (cap : Nat) (l : List Int) : Sd :=
  if isW l nanL then .nan else if isW l infL then .inf else if pre0x l then (match readF cap (l.drop 2) with | none => .bad | some (d, b, v) => .num d b v) else .bad
/-- What the reference's reader answers. -/
def SaidIs (sd : Sd) (neg : Bool) (r : Bool × Bool × Bool × Bool × List Int × Int × Bool) : Prop :=
  match sd with
  | .bad => r.2.2.2.2.2.2 = false
  | .nan => r.1 = true ∧ r.2.2.2.2.2.2 = true
  | .inf => r.1 = false ∧ r.2.1 = true ∧ r.2.2.1 = neg ∧ r.2.2.2.2.2.2 = true
  | .num d b v => r = (false, (false, (neg, (neg, (d32 (hexN d), (v - 4 * (b : Int), true))))))
theorem bt_get (s : ByteArray) (i : Nat) : bt s (i : Int) = (bl s).getD i 0 := by rw [bt_bl, Int.toNat_natCast]
theorem rread_j1 {s : ByteArray} (hs : s.size ≤ 100000) (neg : Bool) : ∃ r, Ev (fun k => vernierref15_Read.j1 k s false false false false 0 false false neg false 0) r ∧ SaidIs (sdF 30000 (bl s)) neg r := by
  have l1 := bl_length s
  have n0 : bl vernierref15_Read.s0 = nanL := by decide
  have n1 : bl vernierref15_Read.s1 = infL := by decide
  have a0 := word_ev (s := s) (w := vernierref15_Read.s0) (by rw [n0]; exact small_nan) hs
  have a1 := word_ev (s := s) (w := vernierref15_Read.s1) (by rw [n1]; exact small_inf) hs
  rw [n0] at a0
  rw [n1] at a1
  have start : ∀ {r}, _ → Ev (fun k => vernierref15_Read.j1 k s false false false false 0 false false neg false 0) r := fun hh => Ev.congr (fun k => vernierref15_Read.j1_eq k _ _ _ _ _ _ _ _ _ _ _) (Ev.bind a0 hh)
  unfold sdF
  cases c0 : isW (bl s) nanL with
  | true =>
    rw [c0] at start
    exact ⟨_, start (Ev.pos rfl (Ev.some _)), rfl, rfl⟩
  | false =>
    rw [c0] at start
    simp only [Bool.false_eq_true, if_false]
    cases c1 : isW (bl s) infL with
    | true =>
      rw [c1] at a1
      exact ⟨_, start (Ev.neg (by simp) (Ev.bind a1 (Ev.pos rfl (Ev.some _)))), rfl, rfl, rfl, rfl⟩
    | false =>
      rw [c1] at a1
      simp only [Bool.false_eq_true, if_false]
      have go : ∀ {r}, _ → Ev (fun k => vernierref15_Read.j1 k s false false false false 0 false false neg false 0) r := fun hh => start (Ev.neg (by simp) (Ev.bind a1 (Ev.neg (by simp) hh)))
      have j2 : ∀ b : Bool, (b = true → ∃ r, Ev (fun k => vernierref15_Read.j2 k s b false false false false 0 false false neg false 0) r ∧ r.2.2.2.2.2.2 = false) := by
        intro b hb
        subst hb
        exact ⟨_, Ev.congr (fun k => vernierref15_Read.j2_eq k _ _ _ _ _ _ _ _ _ _ _ _) (Ev.pos rfl (Ev.some _)), rfl⟩
      by_cases c2 : s.size < 2
      · rw [show pre0x (bl s) = false by unfold pre0x; rw [decide_eq_false (by omega), Bool.false_and]]
        obtain ⟨r, g1, g2⟩ := j2 true rfl
        exact ⟨r, go (Ev.pos (dT (by omega)) g1), g2⟩
      · have g0 : ∀ {r}, _ → Ev (fun k => vernierref15_Read.j1 k s false false false false 0 false false neg false 0) r := fun hh => go (Ev.neg (dF (by omega)) (Ev.pos ⟨by omega, by omega⟩ hh))
        have b0 := bt_get s 0
        have b1 := bt_get s 1
        by_cases c3 : (bl s).getD 0 0 = 48
        · by_cases c4 : (bl s).getD 1 0 = 120 ∨ (bl s).getD 1 0 = 88
          · have hp : pre0x (bl s) = true := by
              unfold pre0x
              rw [decide_eq_true (by omega), beq_iff_eq.2 c3, Bool.true_and, Bool.true_and, Bool.or_eq_true, beq_iff_eq, beq_iff_eq]; exact c4
            rw [hp]
            simp only [if_true]
            obtain ⟨r, g1, g2⟩ := rread_l4 hs false false false false false false neg false 0 0 (s.size - 2) 2 false [] 0 (by omega) (fun _ h => by cases h) (by simp) (by omega)
            have e2 : ∀ {r}, Ev (fun k => vernierref15_Read.l4 k k s (d32 (hexN [])) (([] : List Int).length : Int) (if false then 1 else 0) ((0 : Nat) : Int) 0 ((2 : Nat) : Int) false false false false 0 false false neg false 0) r → Ev (fun k => vernierref15_Read.j2 k s false false false false false 0 false false neg false 0) r := fun g => Ev.congr (fun k => vernierref15_Read.j2_eq k _ _ _ _ _ _ _ _ _ _ _ _) (Ev.neg (by simp) (Ev.congr (fun k => vernierref15_Read.j3_eq k _ _ _ _ _ _ _ _ _ _ _) (by
              rw [show d32 (hexN []) = [] by rw [show hexN [] = 0 from rfl, d32_zero]] at g
              exact g)))
            refine ⟨r, g0 (Ev.neg (nF (by rw [show (0 : Int) = ((0 : Nat) : Int) from rfl, b0]; exact c3)) (Ev.pos ⟨by omega, by omega⟩ ?_)), ?_⟩
            · rw [show (1 : Int) = ((1 : Nat) : Int) from rfl, b1]
              by_cases c5 : (bl s).getD 1 0 = 120
              · exact Ev.neg (nF c5) (e2 g1.ev)
              · have c6 : (bl s).getD 1 0 = 88 := c4.resolve_left c5
                refine Ev.pos (nT c5) (Ev.pos ⟨by omega, by omega⟩ ?_)
                rw [show ((bl s).getD 1 0 != 88) = false by rw [c6]; rfl]
                exact e2 g1.ev
            · unfold readF
              revert g2
              generalize rdF ((bl s).drop 2) false [] 0 = o
              intro g2
              match o, g2 with
              | none, g2 => exact g2
              | some (ds, bh, none), g2 =>
                simp only at g2 ⊢
                split at g2
                · rename_i c; rw [if_pos c]; exact g2
                · rename_i c; rw [if_neg c]; exact g2
              | some (ds, bh, some q), g2 =>
                simp only at g2 ⊢
                cases he : expF 30000 q with
                | none => rw [he] at g2; exact g2
                | some v =>
                  rw [he] at g2
                  simp only at g2 ⊢
                  split at g2
                  · rename_i c; rw [if_pos c]; exact g2
                  · rename_i c; rw [if_neg c]; exact g2
          · have hp : pre0x (bl s) = false := by
              unfold pre0x
              rw [show ((bl s).getD 1 0 == 120 || (bl s).getD 1 0 == 88) = false by
                rw [beq_eq_false_iff_ne.2 (fun e => c4 (.inl e)), beq_eq_false_iff_ne.2 (fun e => c4 (.inr e))]; rfl, Bool.and_false, Bool.and_false]
            rw [hp]
            obtain ⟨r, g1, g2⟩ := j2 true rfl
            refine ⟨r, g0 (Ev.neg (nF (by rw [show (0 : Int) = ((0 : Nat) : Int) from rfl, b0]; exact c3)) (Ev.pos ⟨by omega, by omega⟩ ?_)), g2⟩
            rw [show (1 : Int) = ((1 : Nat) : Int) from rfl, b1]
            refine Ev.pos (nT (fun e => c4 (.inl e))) (Ev.pos ⟨by omega, by omega⟩ ?_)
            rw [show ((bl s).getD 1 0 != 88) = true by simpa using fun e => c4 (.inr e)]
            exact g1
        · have hp : pre0x (bl s) = false := by
            unfold pre0x
            rw [beq_eq_false_iff_ne.2 c3, Bool.false_and, Bool.and_false]
          rw [hp]
          obtain ⟨r, g1, g2⟩ := j2 true rfl
          exact ⟨r, g0 (Ev.pos (nT (by rw [show (0 : Int) = ((0 : Nat) : Int) from rfl, b0]; exact c3)) g1), g2⟩
theorem rread_ev {s : ByteArray} (hs : s.size ≤ 100000) : ∃ r, Ev (fun k => vernierref15_Read k s) r ∧ SaidIs (sdF 30000 (sgnL (bl s)).2) (sgnL (bl s)).1 r := by
  have e1 : ((1 : Int).toNat) = 1 := rfl
  by_cases c0 : 0 < s.size
  · have start : ∀ {r}, _ → Ev (fun k => vernierref15_Read k s) r := fun hh => Ev.congr (fun k => vernierref15_Read_eq k s) (Ev.pos (dT (by omega)) (Ev.pos ⟨by omega, by omega⟩ hh))
    have cut : ∀ c, headIs (bl s) c = true → (∀ neg, (bt s 0 == 45) = neg → sgnL (bl s) = (neg, (bl s).drop 1) → ∃ r, Ev (fun k => vernierref15_Read.j0 k s true false false false false 0 false false false false 0) r ∧ SaidIs (sdF 30000 (sgnL (bl s)).2) (sgnL (bl s)).1 r) := by
      intro c hc neg hn hsg
      have hz := headIs_size hc
      have hsz : (s.extract 1 s.size).size ≤ 100000 := by rw [← bl_length, sgn_size hc, List.length_drop, bl_length]; omega
      obtain ⟨r, g1, g2⟩ := rread_j1 hsz neg
      rw [sgn_size hc] at g2
      rw [hsg]
      refine ⟨r, Ev.congr (fun k => vernierref15_Read.j0_eq k _ _ _ _ _ _ _ _ _ _ _ _) (Ev.pos rfl (Ev.pos ⟨by omega, by omega⟩ (Ev.pos ⟨by omega, by omega⟩ ?_))), g2⟩
      rw [hn, e1]; exact g1
    cases h2 : headIs (bl s) 43 with
    | true =>
      have h1 : headIs (bl s) 45 = false := by
        cases hb : bl s with
        | nil => rfl
        | cons a r =>
          rw [hb] at h2
          have : a = 43 := by simpa [headIs] using h2
          subst this; rfl
      obtain ⟨r, g1, g2⟩ := cut 43 h2 false (by rw [head_of c0, h1]) (sgnL_plus h1 h2)
      exact ⟨r, start (Ev.pos (by rw [head_of c0]; exact h2) g1), g2⟩
    | false =>
      have st2 : ∀ {r}, _ → Ev (fun k => vernierref15_Read k s) r := fun hh => start (Ev.neg (by rw [head_of c0, h2]; simp) (Ev.pos ⟨by omega, by omega⟩ hh))
      rw [head_of c0] at st2
      cases h1 : headIs (bl s) 45 with
      | true =>
        rw [h1] at st2
        obtain ⟨r, g1, g2⟩ := cut 45 h1 true (by rw [head_of c0, h1]) (sgnL_minus h1)
        exact ⟨r, st2 g1, g2⟩
      | false =>
        rw [h1] at st2
        obtain ⟨r, g1, g2⟩ := rread_j1 hs false
        rw [sgnL_none h1 h2]
        exact ⟨r, st2 (Ev.congr (fun k => vernierref15_Read.j0_eq k _ _ _ _ _ _ _ _ _ _ _ _) (Ev.neg (by simp) g1)), g2⟩
  · have hb : bl s = [] := List.length_eq_zero_iff.1 (by rw [bl_length]; omega)
    obtain ⟨r, g1, g2⟩ := rread_j1 hs false
    refine ⟨r, Ev.congr (fun k => vernierref15_Read_eq k s) (Ev.neg (dF (by omega)) (Ev.congr (fun k => vernierref15_Read.j0_eq k _ _ _ _ _ _ _ _ _ _ _ _) (Ev.neg (by simp) g1))), ?_⟩
    rw [hb] at g2 ⊢
    exact g2
end Go.Proofs.YtmoeaeflljpboaaDoor.X
/- Plain law: what the program and the reference answer to a hexadecimal text: the same, for every text. Conditions: those of the two calls. -/
namespace Go.Proofs.YtmoeaeflljpboaaDoor.X
open Go Go.Rex
set_option linter.unusedVariables false

/-! ### Far out -/
/-- What a number far below the least becomes. -/
def tinyOut (W P : Nat) (m : Int) (neg : Bool) : Int × Int := if infP W P ≤ chs m neg 0 1 then (((beyN W P m neg : Nat) : Int), 20) else (((chs m neg 0 1 + sgB neg W : Nat) : Int), 24)
theorem rn_tiny (W : Nat) {P : Nat} (hP : 2 ≤ P) (m : Int) (neg : Bool) {A B : Nat} (h0 : 0 < A) (h1 : 2 * A < B) : rnOut W P m neg A B = tinyOut W P m neg := by
  have hs : shf P A B = 0 := by unfold shf; rw [Nat.div_eq_of_lt (by omega), blen_zero]; omega
  have hl : lft A B = 1 := by unfold lft; rw [if_neg (by omega), if_pos h1]
  have hc : cutN m neg A (B * 2 ^ 0) = chs m neg 0 1 := by
    unfold cutN
    rw [Nat.pow_zero, Nat.mul_one, Nat.div_eq_of_lt (by omega), Nat.mod_eq_of_lt (by omega), hl]
  have hr : rnd P m neg A B = chs m neg 0 1 := by unfold rnd; rw [hs, hc, Nat.zero_mul, Nat.zero_add]
  have hlp : lftP P A B = 1 := by unfold lftP lftN; rw [hs, Nat.pow_zero, Nat.mul_one, Nat.mod_eq_of_lt (by omega), hl]
  have ht : tinyB P m neg A B = true := by
    unfold tinyB
    have hp := Nat.two_pow_pos (P - 1)
    have h4 : 2 ^ 2 ≤ 2 ^ P := Nat.pow_le_pow_right (by decide) hP
    have h5 : B * 1 ≤ B * 2 ^ (P - 1) := Nat.mul_le_mul_left _ hp
    have h6 := chs_le m neg 0 (lft (2 * A % B) B)
    have h7 : cutN m neg (2 * A) B ≤ 1 := by unfold cutN; rw [Nat.div_eq_of_lt h1]; omega
    rw [decide_eq_true (by omega), decide_eq_true (by omega)]; rfl
  unfold rnOut tinyOut
  rw [hr, hlp, ht]
  by_cases c : infP W P ≤ chs m neg 0 1
  · rw [if_pos c, if_pos c]
  · rw [if_neg c, if_neg c, if_neg (show ¬ (1 = 0) by decide), if_pos rfl]
section
variable {f : Int} {W P : Nat} {em ex : Int} (h : Fm f W P em ex)
include h
theorem rn_over {n : Nat} (hn : n ≠ 0) {e : Int} (hc : ex < e + (blen n : Int) - 1) (m : Int) (neg : Bool) : rnOut W P m neg (qA n e false (em - (P : Int) + 1)) (qB e false (em - (P : Int) + 1)) = (((beyN W P m neg : Nat) : Int), 20) := by
  have h8 := h.p8
  have m0 := h.m0
  have m1 := h.m1
  obtain ⟨x1, x2, x3⟩ := fm_ex h
  have bpos := qB_pos e false (em - (P : Int) + 1)
  have hs := shf_q (e := e) (more := false) h hn
  obtain ⟨c1, c2⟩ := cut_facts (A := qA n e false (em - (P : Int) + 1)) (show 1 ≤ P by omega) bpos m neg
  unfold rnOut rnd
  generalize shf P (qA n e false (em - (P : Int) + 1)) (qB e false (em - (P : Int) + 1)) = s at *
  rw [if_pos (over_top h (by omega) (by omega))]
theorem rn_under {n : Nat} (hn : n ≠ 0) {e : Int} (hc : e + (blen n : Int) - 1 < em - (P : Int) - 1) (m : Int) (neg : Bool) : rnOut W P m neg (qA n e false (em - (P : Int) + 1)) (qB e false (em - (P : Int) + 1)) = tinyOut W P m neg := by
  have h8 := h.p8
  have hb := blen_pos hn
  have hlt := blen_lt n
  obtain ⟨z, hz⟩ : ∃ z : Nat, em - (P : Int) + 1 - e = (z : Int) := ⟨(em - (P : Int) + 1 - e).toNat, by omega⟩
  have e1 : qA n e false (em - (P : Int) + 1) = n := by
    show n * p2 (e - (em - (P : Int) + 1)) = n
    rw [p2_neg (by omega), Nat.mul_one]
  have e2 : qB e false (em - (P : Int) + 1) = 2 ^ z := by
    show 1 * p2 (em - (P : Int) + 1 - e) = 2 ^ z
    rw [hz, p2_nat, Nat.one_mul]
  rw [e1, e2]
  refine rn_tiny W (by omega) m neg (by omega) ?_
  have : 2 ^ (blen n + 1) ≤ 2 ^ z := Nat.pow_le_pow_right (by decide) (by omega)
  rw [Nat.pow_succ] at this
  omega
end

/-! ### Two bounds of an exponent -/
/-- An exponent brought to the reference's bound. -/
def clE (v : Int) : Int := if v < -30000 then -30000 else if 30000 < v then 30000 else v
theorem expF_two (l : List Int) : expF 30000 l = (expF 1099511627776 l).map clE := by
  unfold expF
  split
  · rfl
  · rw [← xvF_two (a := 1099511627776) (b := 30000) (by decide) (l := (sgnL l).2) (x := 0) (y := 0) (by decide)]
    cases xvF 1099511627776 (sgnL l).2 0 with
    | none => rfl
    | some x =>
      show some (if (sgnL l).1 = true then -((min x 30000 : Nat) : Int) else ((min x 30000 : Nat) : Int)) = some (clE (if (sgnL l).1 = true then -(x : Int) else (x : Int)))
      congr 1
      unfold clE
      cases (sgnL l).1
      · simp only [Bool.false_eq_true, if_false]
        rw [if_neg (show ¬ ((x : Int) < -30000) by omega)]
        split <;> omega
      · simp only [if_true]
        split
        · omega
        · rw [if_neg (by omega)]; omega
theorem readF_two (l : List Int) : readF 30000 l = (readF 1099511627776 l).map fun r => (r.1, r.2.1, clE r.2.2) := by
  unfold readF
  have z : clE 0 = 0 := by decide
  split
  · rfl
  · split
    · rfl
    · rename_i ds bh _ _
      show some (ds, bh, (0 : Int)) = some (ds, bh, clE 0)
      rw [z]
  · rename_i ds bh r hr
    rw [expF_two]
    cases expF 1099511627776 r with
    | none => rfl
    | some v =>
      show (if ds = [] then none else some (ds, bh, clE v)) = Option.map _ (if ds = [] then none else some (ds, bh, v))
      split <;> rfl

/-! ### The answers -/
/-- A number's answer: bits and flags. -/
def finR (W P : Nat) (em m : Int) (neg : Bool) (N : Nat) (E : Int) : Int × Int := if N = 0 then (((sgB neg W : Nat) : Int), 0) else rnOut W P m neg (qA N E false (em - (P : Int) + 1)) (qB E false (em - (P : Int) + 1))
/-- A text's answer: bits, flags, error. -/
def ansF (W P : Nat) (em m : Int) (sd : Sd) (neg : Bool) : Int × Int × Int :=
  match sd with
  | .bad => (0, (0, 8))
  | .nan => (((infP W P + 2 ^ (P - 2) : Nat) : Int), (0, 0))
  | .inf => (((infP W P + sgB neg W : Nat) : Int), (0, 0))
  | .num d b v => ((finR W P em m neg (hexN d) (v - 4 * (b : Int))).1, ((finR W P em m neg (hexN d) (v - 4 * (b : Int))).2, 0))
theorem readF_bound {cap : Nat} {l d : List Int} {b : Nat} {v : Int} (h : readF cap l = some (d, b, v)) : -(cap : Int) ≤ v ∧ v ≤ (cap : Int) := by
  unfold readF at h
  split at h
  · cases h
  · split at h
    · cases h
    · cases h; omega
  · split at h
    · cases h
    · rename_i v' hv
      split at h
      · cases h
      · cases h; exact xvF_bound hv
theorem hex_blen {d : List Int} (h : HexL d) (hl : d.length ≤ 2000) : blen (hexN d) ≤ 8000 ∧ (d32 (hexN d)).length ≤ 300 ∧ (digs (hexN d)).length ≤ 126 := by
  have h1 := hexN_lt h
  rw [show (16 : Nat) = 2 ^ 4 by decide, ← Nat.pow_mul] at h1
  refine ⟨Nat.le_trans (blen_le_iff.2 h1) (by omega), d32_short h1 (by omega), digs_length_lt.2 ?_⟩
  obtain ⟨q, hq⟩ : ∃ q, q = 126 := ⟨_, rfl⟩
  rw [← hq]
  refine Nat.lt_of_lt_of_le h1 ?_
  rw [show (18446744073709551616 : Nat) = 2 ^ 64 by decide, ← Nat.pow_mul]
  exact Nat.pow_le_pow_right (by decide) (by omega)
def badFm (f m : Int) : Int := if 0 ≤ f ∧ f < 4 then (if 0 ≤ m ∧ m ≤ 5 then 0 else 3) else 2
theorem p06_bad {f : Int} (h : ¬ (0 ≤ f ∧ f < 4)) (k : Nat) : vernierref06_Params k f = some (0, (0, 0)) := by
  rw [vernierref06_Params_eq, if_neg (bF (by omega)), if_neg (bF (by omega)), if_neg (bF (by omega)), if_neg (bF (by omega))]
theorem known_ev (f m : Int) : Ev (fun k => vernierref06_Known k f m) (badFm f m) := by
  refine Ev.congr (fun k => vernierref06_Known_eq k _ _) ?_
  unfold badFm
  by_cases hf : 0 ≤ f ∧ f < 4
  · obtain ⟨W, P, em, ex, h⟩ := fm_of hf.1 hf.2
    have h2 := h.p8; have h3 := h.wp
    rw [if_pos hf]
    refine Ev.bind (Ev.of fun k => params06 h k) (Ev.neg (bF (by show ¬ ((W : Int) = 0); omega)) ?_)
    by_cases c : m < 0
    · rw [if_neg (show ¬ (0 ≤ m ∧ m ≤ 5) by omega)]; exact Ev.pos (dT c) (Ev.some _)
    · refine Ev.neg (dF c) ?_
      by_cases c2 : m > 5
      · rw [if_neg (show ¬ (0 ≤ m ∧ m ≤ 5) by omega)]; exact Ev.pos (dT c2) (Ev.some _)
      · rw [if_pos (show 0 ≤ m ∧ m ≤ 5 by omega)]; exact Ev.neg (dF c2) (Ev.some _)
  · rw [if_neg hf]
    exact Ev.bind (Ev.of fun k => p06_bad hf k) (Ev.pos (bT rfl) (Ev.some _))
section
variable {f : Int} {W P : Nat} {em ex : Int} (h : Fm f W P em ex)
include h
omit h in
theorem sd_len {s : ByteArray} (hs : s.size ≤ 2000) {d : List Int} {b : Nat} {v : Int} {cap : Nat} (hd : sdF cap (sgnL (bl s)).2 = .num d b v) : HexL d ∧ d.length ≤ 2000 ∧ b ≤ d.length ∧ -(cap : Int) ≤ v ∧ v ≤ (cap : Int) := by
  have hl : (sgnL (bl s)).2.length ≤ s.size := by
    rw [← bl_length]
    cases hb : bl s with
    | nil => simp [sgnL]
    | cons a r =>
      show (if a = 45 then (true, r) else if a = 43 then (false, r) else (false, a :: r)).2.length ≤ _
      split
      · simp
      · split <;> simp
  unfold sdF at hd
  split at hd
  · cases hd
  · split at hd
    · cases hd
    · split at hd
      · split at hd
        · cases hd
        · rename_i hr
          cases hd
          obtain ⟨a1, a2, a3, a4⟩ := readF_facts hr
          have := readF_bound hr
          rw [List.length_drop] at a3
          exact ⟨a1, by omega, a2, this⟩
      · cases hd
theorem rparse_ok {m : Int} (hm : Md m) {s : ByteArray} (hs : s.size ≤ 2000) : Ev (fun k => vernierref15_Parse k f m s) (ansF W P em m (sdF 30000 (sgnL (bl s)).2) (sgnL (bl s)).1) := by
  have kn := known_ev f m
  rw [show badFm f m = 0 by unfold badFm; rw [if_pos ⟨h.f0, h.f4⟩, if_pos ⟨hm.m0, hm.m5⟩]] at kn
  obtain ⟨r, g1, g2⟩ := rread_ev (s := s) (by omega)
  have start : ∀ {x}, _ → Ev (fun k => vernierref15_Parse k f m s) x := fun hh => Ev.congr (fun k => vernierref15_Parse_eq k _ _ _) (Ev.bind kn (Ev.neg (nF rfl) (Ev.neg (dF (by omega)) (Ev.bind g1 hh))))
  have hsd : ∀ (d : List Int) (b : Nat) (v : Int), sdF 30000 (sgnL (bl s)).2 = .num d b v → HexL d ∧ d.length ≤ 2000 ∧ b ≤ d.length ∧ -((30000 : Nat) : Int) ≤ v ∧ v ≤ ((30000 : Nat) : Int) := fun d b v => sd_len hs (d := d) (b := b) (v := v) (cap := 30000)
  generalize sdF 30000 (sgnL (bl s)).2 = sd at *
  generalize (sgnL (bl s)).1 = neg at *
  match sd, g2, hsd with
  | .bad, g2, _ => exact start (Ev.pos (by rw [show r.2.2.2.2.2.2 = false from g2]; rfl) (Ev.some _))
  | .nan, g2, _ => exact start (Ev.neg (by rw [g2.2]; simp) (Ev.pos g2.1 (Ev.bind (Ev.of fun k => rQuiet h k) (Ev.some _))))
  | .inf, g2, _ =>
    obtain ⟨g3, g4, g5, g6⟩ := g2
    refine start (Ev.neg (by rw [g6]; simp) (Ev.neg (by rw [g3]; simp) (Ev.pos g4 (Ev.bind (Ev.of fun k => ?_) (Ev.some _)))))
    rw [g5]; exact rInf h k neg
  | .num d b v, g2, hsd =>
    obtain ⟨a1, a2, a3, a4, a5⟩ := hsd d b v rfl
    have hr : r = (false, (false, (neg, (neg, (d32 (hexN d), (v - 4 * (b : Int), true)))))) := g2
    subst hr
    obtain ⟨b1, b2, b3⟩ := hex_blen a1 a2
    have g3 := rFinal h hm neg neg (n := hexN d) b2 (e := v - 4 * (b : Int)) (by omega)
    exact start (Ev.neg (by simp) (Ev.neg (by simp) (Ev.neg (by simp) (Ev.bind g3 (Ev.eq (Ev.some _) rfl)))))
theorem num_ev {m : Int} (hm : Md m) (neg : Bool) {d ws : List Int} (hd : HexL d) (hl : d.length ≤ 2000) {b : Nat} (hb : b ≤ d.length) (hw : WF ws) (hv : val ws = hexN d) (hwl : ws.length = d.length / 16 + 1) {v : Int} (v0 : -1099511627776 ≤ v) (v1 : v ≤ 1099511627776) :
    Ev (fun k => ((dyad_Sign k neg ws 0)).bind fun o3 => (if o3 == 0 then ((format_Zero k f neg)).bind fun o4 => some (o4.1, (0, o4.2)) else ((dyad_Top k neg ws 0)).bind fun o5 => (if decide ((IntKind.i64.wrap (o5.1 + (IntKind.i64.wrap (v - (IntKind.i64.wrap (4 * (b : Int))))))) > 5000) then ((round_Parts k f m neg 0 1 5000 false)).bind fun o6 => some (o6.1, (o6.2.1, o6.2.2)) else (if decide ((IntKind.i64.wrap (o5.1 + (IntKind.i64.wrap (v - (IntKind.i64.wrap (4 * (b : Int))))))) < (-5000)) then ((round_Parts k f m neg 0 1 (-5000) false)).bind fun o7 => some (o7.1, (o7.2.1, o7.2.2)) else ((round_Exact k f m neg ws (IntKind.i64.wrap (v - (IntKind.i64.wrap (4 * (b : Int))))))).bind fun o8 => some (o8.1, (o8.2.1, o8.2.2))))))
      (ansF W P em m (.num d b (clE v)) neg) := by
  have h8 := h.p8
  have h53 := h.p53
  have m0 := h.m0
  have m1 := h.m1
  obtain ⟨x1, x2, x3⟩ := fm_ex h
  obtain ⟨b1, b2, b3⟩ := hex_blen hd hl
  have hlb : Lb ws := by unfold Lb; omega
  have hwE : IntKind.i64.wrap (v - IntKind.i64.wrap (4 * (b : Int))) = v - 4 * (b : Int) := by rw [wrapI (x := 4 * (b : Int)) (by omega) (by omega), wrapI (by omega) (by omega)]
  rw [hwE]
  have hsg : Ev (fun k => dyad_Sign k neg ws 0) (if hexN d = 0 then 0 else if neg then -1 else 1) := by
    refine Ev.congr (fun k => dyad_Sign_eq k _ _ _) (Ev.bind (Trim_ev hw hlb) ?_)
    rw [hv]
    by_cases c : hexN d = 0
    · rw [if_pos c, c, digs_zero]; exact Ev.pos (bT rfl) (Ev.some _)
    · rw [if_neg c]
      have := digs_len_pos.2 c
      refine Ev.neg (bF (by omega)) ?_
      cases neg
      · exact Ev.neg (by simp) (Ev.some _)
      · exact Ev.pos rfl (Ev.some _)
  refine Ev.bind hsg ?_
  unfold ansF finR
  simp only
  by_cases c : hexN d = 0
  · rw [if_pos c, if_pos c]
    exact Ev.pos (bT rfl) (Ev.bind (Ev.of fun k => zero_at h k neg) (Ev.some _))
  · rw [if_neg c, if_neg c]
    have hbp := blen_pos c
    have htop : Ev (fun k => dyad_Top k neg ws 0) ((blen (hexN d) : Int) - 1, (0 : Int)) := by
      have hbad : badE ws 0 = 0 := by unfold badE; rw [if_neg (by omega), if_neg (by omega)]
      have g1 := refuses_all ws 0 neg
      rw [hbad] at g1
      have g2 := Len_ev hw hlb
      rw [hv] at g2
      refine Ev.congr (fun k => dyad_Top_eq k _ _ _) (Ev.bind g1 (Ev.neg (nF rfl) (Ev.bind g2 (Ev.neg (bF (by omega)) (Ev.eq (Ev.some _) ?_)))))
      rw [wrapI (x := (blen (hexN d) : Int) - 1) (by omega) (by omega), wrapI (by omega) (by omega), Int.add_zero]
    have hsn : ¬ (((if neg = true then (-1 : Int) else 1) == 0) = true) := by cases neg <;> decide
    refine Ev.neg hsn (Ev.bind htop ?_)
    rw [wrapI (x := (blen (hexN d) : Int) - 1 + (v - 4 * (b : Int))) (by omega) (by omega)]
    have one : blen 1 = 1 := by decide
    have hpa : ∀ e : Int, e = 5000 ∨ e = -5000 → Ev (fun k => round_Parts k f m neg 0 1 e false) ((rnOut W P m neg (qA 1 e false (em - (P : Int) + 1)) (qB e false (em - (P : Int) + 1))).1, ((rnOut W P m neg (qA 1 e false (em - (P : Int) + 1)) (qB e false (em - (P : Int) + 1))).2, 0)) := by
      intro e he
      have g := Parts_ev h hm (hi := 0) (lo := 1) (by decide) (by decide) e neg false
      refine Ev.eq g ?_
      unfold paR
      rw [if_neg (by omega), if_neg (by simp), if_neg (by decide)]
    unfold clE
    by_cases t1 : (blen (hexN d) : Int) - 1 + (v - 4 * (b : Int)) > 5000
    · refine Ev.pos (dT t1) (Ev.bind (hpa 5000 (.inl rfl)) (Ev.eq (Ev.some _) ?_))
      rw [rn_over h (by decide) (by rw [one]; omega), rn_over h c (e := (if v < -30000 then -30000 else if 30000 < v then 30000 else v) - 4 * (b : Int)) (by split <;> (try split) <;> omega)]
    · refine Ev.neg (dF t1) ?_
      by_cases t2 : (blen (hexN d) : Int) - 1 + (v - 4 * (b : Int)) < -5000
      · refine Ev.pos (dT t2) (Ev.bind (hpa (-5000) (.inr rfl)) (Ev.eq (Ev.some _) ?_))
        rw [rn_under h (by decide) (by rw [one]; omega), rn_under h c (e := (if v < -30000 then -30000 else if 30000 < v then 30000 else v) - 4 * (b : Int)) (by split <;> (try split) <;> omega)]
      · have hcl : (if v < -30000 then (-30000 : Int) else if 30000 < v then 30000 else v) = v := by rw [if_neg (by omega), if_neg (by omega)]
        rw [hcl]
        refine Ev.neg (dF t2) (Ev.bind (Exact_ev h hm hw (v - 4 * (b : Int)) neg) (Ev.eq (Ev.some _) ?_))
        have htz := tz_blen c
        unfold exR
        rw [if_neg (by unfold badE; rw [if_neg (by omega), if_neg (by omega)]; decide), hv, if_neg c, if_neg (by omega)]
        rfl
theorem parse_j1 {m : Int} (hm : Md m) {s : ByteArray} (hs : s.size ≤ 2000) (neg : Bool) : Ev (fun k => hexes_Parse.j1 k f m s ((infP W P + 2 ^ (P - 2) : Nat) : Int) neg) (ansF W P em m (sdF 30000 (bl s)) neg) := by
  have l1 := bl_length s
  have n0 : bl hexes_Parse.s2 = nanL := by decide
  have n1 : bl hexes_Parse.s3 = infL := by decide
  have a0 := letters_ev (s := s) (w := hexes_Parse.s2) (by rw [n0]; exact small_nan) (by omega)
  have a1 := letters_ev (s := s) (w := hexes_Parse.s3) (by rw [n1]; exact small_inf) (by omega)
  rw [n0] at a0
  rw [n1] at a1
  have start : ∀ {r}, _ → Ev (fun k => hexes_Parse.j1 k f m s ((infP W P + 2 ^ (P - 2) : Nat) : Int) neg) r := fun hh => Ev.congr (fun k => hexes_Parse.j1_eq k _ _ _ _ _) (Ev.bind a0 hh)
  unfold sdF
  cases c0 : isW (bl s) nanL with
  | true =>
    rw [c0] at start
    exact start (Ev.pos rfl (Ev.some _))
  | false =>
    rw [c0] at start
    simp only [Bool.false_eq_true, if_false]
    cases c1 : isW (bl s) infL with
    | true =>
      rw [c1] at a1
      exact start (Ev.neg (by simp) (Ev.bind a1 (Ev.pos rfl (Ev.bind (Ev.of fun k => inf_at h k neg) (Ev.some _)))))
    | false =>
      rw [c1] at a1
      simp only [Bool.false_eq_true, if_false]
      have go : ∀ {r}, _ → Ev (fun k => hexes_Parse.j1 k f m s ((infP W P + 2 ^ (P - 2) : Nat) : Int) neg) r := fun hh => start (Ev.neg (by simp) (Ev.bind a1 (Ev.neg (by simp) hh)))
      have bad : Ev (fun k => hexes_Parse.j2 k f m s neg true) (ansF W P em m .bad neg) := Ev.congr (fun k => hexes_Parse.j2_eq k _ _ _ _ _) (Ev.pos rfl (Ev.some _))
      have b0 := bt_get s 0
      have b1 := bt_get s 1
      by_cases c2 : s.size < 2
      · rw [show pre0x (bl s) = false by unfold pre0x; rw [decide_eq_false (by omega), Bool.false_and]]
        exact go (Ev.pos (dT (by omega)) bad)
      · have g0 : ∀ {r}, _ → Ev (fun k => hexes_Parse.j1 k f m s ((infP W P + 2 ^ (P - 2) : Nat) : Int) neg) r := fun hh => go (Ev.neg (dF (by omega)) (Ev.pos ⟨by omega, by omega⟩ hh))
        by_cases c3 : (bl s).getD 0 0 = 48
        · by_cases c4 : (bl s).getD 1 0 = 120 ∨ (bl s).getD 1 0 = 88
          · have hp : pre0x (bl s) = true := by
              unfold pre0x
              rw [decide_eq_true (by omega), beq_iff_eq.2 c3, Bool.true_and, Bool.true_and, Bool.or_eq_true, beq_iff_eq, beq_iff_eq]; exact c4
            rw [hp]
            simp only [if_true]
            have e2 : ((2 : Int).toNat) = 2 := rfl
            have hbd := bl_drop s 2 (by omega)
            obtain ⟨r, q1, q2⟩ := read_ev (s := s.extract 2 s.size) (by rw [← bl_length, hbd, List.length_drop]; omega)
            rw [hbd] at q2
            have fin : Ev (fun k => hexes_Parse.j3 k f m s neg) (ansF W P em m (match readF 30000 ((bl s).drop 2) with | none => .bad | some (d, b, v) => .num d b v) neg) := by
              refine Ev.congr (fun k => hexes_Parse.j3_eq k _ _ _ _) (Ev.pos ⟨by omega, by omega⟩ (Ev.bind q1 ?_))
              rw [readF_two]
              cases hr : readF 1099511627776 ((bl s).drop 2) with
              | none =>
                rw [hr] at q2
                exact Ev.pos (by rw [show r.2.2.2 = false from q2]; rfl) (Ev.some _)
              | some t =>
                obtain ⟨d, b, v⟩ := t
                rw [hr] at q2
                have hre : r = (d, ((b : Int), (v, true))) := q2
                subst hre
                obtain ⟨a1, a2, a3, a4⟩ := readF_facts hr
                have hbd2 := readF_bound hr
                rw [List.length_drop] at a3
                obtain ⟨ws, w1, w2, w3, w4⟩ := natural_ev a1 (by omega)
                exact Ev.neg (by simp) (Ev.bind w1 (num_ev h hm neg a1 (by omega) a2 w2 w3 w4 (v := v) (by omega) (by omega)))
            have fin2 : Ev (fun k => hexes_Parse.j2 k f m s neg false) (ansF W P em m (match readF 30000 ((bl s).drop 2) with | none => .bad | some (d, b, v) => .num d b v) neg) := Ev.congr (fun k => hexes_Parse.j2_eq k _ _ _ _ _) (Ev.neg (by simp) fin)
            refine g0 (Ev.neg (nF (by rw [show (0 : Int) = ((0 : Nat) : Int) from rfl, b0]; exact c3)) (Ev.pos ⟨by omega, by omega⟩ ?_))
            rw [show (1 : Int) = ((1 : Nat) : Int) from rfl, b1]
            by_cases c5 : (bl s).getD 1 0 = 120
            · exact Ev.neg (nF c5) fin2
            · have c6 : (bl s).getD 1 0 = 88 := c4.resolve_left c5
              refine Ev.pos (nT c5) (Ev.pos ⟨by omega, by omega⟩ ?_)
              rw [show ((bl s).getD 1 0 != 88) = false by rw [c6]; rfl]
              exact fin2
          · have hp : pre0x (bl s) = false := by
              unfold pre0x
              rw [show ((bl s).getD 1 0 == 120 || (bl s).getD 1 0 == 88) = false by
                rw [beq_eq_false_iff_ne.2 (fun e => c4 (.inl e)), beq_eq_false_iff_ne.2 (fun e => c4 (.inr e))]; rfl, Bool.and_false, Bool.and_false]
            rw [hp]
            refine g0 (Ev.neg (nF (by rw [show (0 : Int) = ((0 : Nat) : Int) from rfl, b0]; exact c3)) (Ev.pos ⟨by omega, by omega⟩ ?_))
            rw [show (1 : Int) = ((1 : Nat) : Int) from rfl, b1]
            refine Ev.pos (nT (fun e => c4 (.inl e))) (Ev.pos ⟨by omega, by omega⟩ ?_)
            rw [show ((bl s).getD 1 0 != 88) = true by simpa using fun e => c4 (.inr e)]
            exact bad
        · have hp : pre0x (bl s) = false := by
            unfold pre0x
            rw [beq_eq_false_iff_ne.2 c3, Bool.false_and, Bool.and_false]
          rw [hp]
          exact g0 (Ev.pos (nT (by rw [show (0 : Int) = ((0 : Nat) : Int) from rfl, b0]; exact c3)) bad)
theorem parse_ok {m : Int} (hm : Md m) {s : ByteArray} (hs : s.size ≤ 2000) : Ev (fun k => hexes_Parse k f m s) (ansF W P em m (sdF 30000 (sgnL (bl s)).2) (sgnL (bl s)).1) := by
  have hm0 := hm.m0
  have hm5 := hm.m5
  have p0 : bl hexes_Parse.s0 = [45] := by decide
  have p1 : bl hexes_Parse.s1 = [43] := by decide
  have e1 : ((1 : Int).toNat) = 1 := rfl
  refine Ev.congr (fun k => hexes_Parse_eq k _ _ _) (Ev.bind (Ev.of fun k => nan_at h k) (Ev.neg (nF rfl) (Ev.neg (dF (by omega)) (Ev.neg (dF (by omega)) (Ev.neg (dF (by omega)) (Ev.congr (fun k => hexes_Parse.j0_eq k _ _ _ _) (Ev.bind (Ev.of fun k => prefix_at s _ p0 k) ?_)))))))
  have cut : ∀ c, headIs (bl s) c = true → (s.extract 1 s.size).size ≤ 2000 := by
    intro c hc
    rw [← bl_length, sgn_size hc, List.length_drop, bl_length]; omega
  cases h1 : headIs (bl s) 45 with
  | true =>
    have hz := headIs_size h1
    have g := parse_j1 h hm (cut 45 h1) true
    rw [sgn_size h1] at g
    rw [sgnL_minus h1]
    exact Ev.pos rfl (Ev.pos ⟨by omega, by omega⟩ g)
  | false =>
    refine Ev.neg (by simp) (Ev.bind (Ev.of fun k => prefix_at s _ p1 k) ?_)
    cases h2 : headIs (bl s) 43 with
    | true =>
      have hz := headIs_size h2
      have g := parse_j1 h hm (cut 43 h2) false
      rw [sgn_size h2] at g
      rw [sgnL_plus h1 h2]
      exact Ev.pos rfl (Ev.pos ⟨by omega, by omega⟩ g)
    | false =>
      rw [sgnL_none h1 h2]
      exact Ev.neg (by simp) (parse_j1 h hm hs false)
end
end Go.Proofs.YtmoeaeflljpboaaDoor.X
/- Plain law: both sides' readers of hexadecimal texts answer the same, for every format, mode and text; the closed calls. Conditions: none. -/
namespace Go.Proofs.YtmoeaeflljpboaaDoor.X
open Go Go.Rex
set_option linter.unusedVariables false

theorem wk_hex : rnOut 32 24 3 false (16777217 * 2 ^ 125) 1 = (1065353217, 16) := by
  have hb : blen (16777217 * 2 ^ 125 / 1) = 149 + 1 := blen_is (by decide +kernel) (by decide +kernel)
  have hs : shf 24 (16777217 * 2 ^ 125) 1 = 126 := by unfold shf; rw [hb]
  unfold rnOut rnd lftP tinyB
  rw [hs]
  decide +kernel
theorem print_at (m : Nat) : hexes_Print (m + 200) 2 3226468352 = some (vernierlaw15_awake.s1, 0) := by kernel_rfl
theorem said_at : sdF 30000 (sgnL (bl vernierlaw15_awake.s0)).2 = .num [1, 0, 0, 0, 0, 0, 1] 6 0 ∧ (sgnL (bl vernierlaw15_awake.s0)).1 = false := by
  have e : bl vernierlaw15_awake.s0 = [48, 120, 49, 46, 48, 48, 48, 48, 48, 49, 80, 48] := by decide
  rw [e]
  exact ⟨by kernel_rfl, by decide⟩
theorem parse_at : Ev (fun k => hexes_Parse k 2 3 vernierlaw15_awake.s0) (1065353217, (16, 0)) := by
  have g := parse_ok fm32 (m := 3) ⟨by decide, by decide⟩ (s := vernierlaw15_awake.s0) (by decide)
  rw [said_at.1, said_at.2] at g
  have e : finR 32 24 (-126) 3 false (hexN [1, 0, 0, 0, 0, 0, 1]) (0 - 4 * ((6 : Nat) : Int)) = (1065353217, 16) := by
    have hN : hexN [1, 0, 0, 0, 0, 0, 1] = 16777217 := by decide
    rw [hN]
    unfold finR
    rw [if_neg (by decide)]
    have hA : qA 16777217 (0 - 4 * ((6 : Nat) : Int)) false (-126 - ((24 : Nat) : Int) + 1) = 16777217 * 2 ^ 125 := rfl
    have hB : qB (0 - 4 * ((6 : Nat) : Int)) false (-126 - ((24 : Nat) : Int) + 1) = 1 := rfl
    rw [hA, hB, wk_hex]
  unfold ansF at g
  simp only at g
  rw [e] at g
  exact g
theorem awake15_ev : Ev (fun k => vernierlaw15_awake k) true := by
  have p : Ev (fun k => hexes_Print k 2 3226468352) (vernierlaw15_awake.s1, (0 : Int)) := ⟨200, fun k hk => by
    obtain ⟨m, rfl⟩ := Nat.exists_eq_add_of_le hk
    rw [Nat.add_comm]
    exact print_at m⟩
  exact Ev.congr (fun k => vernierlaw15_awake_eq k) (Ev.bind p (Ev.bind parse_at (Ev.pos (by rw [toList_bl]; simp) (Ev.pos (bT rfl) (Ev.pos (bT rfl) (Ev.pos (bT rfl) (Ev.eq (Ev.some _) rfl)))))))
theorem nan_bad {f : Int} (hf : f < 0 ∨ 4 ≤ f) : Ev (fun k => format_NaN k f) ((0 : Int), (2 : Int)) :=
  Ev.congr (fun k => format_NaN_eq k f) (Ev.bind (Ev.congr (fun k => format_special_none_top_eq k f false) (Ev.bind (params_bad hf) (Ev.pos (nT (by decide)) (Ev.some _)))) (Ev.some _))
theorem parse_any (f m : Int) (s : ByteArray) : ∃ r, Ev (fun k => hexes_Parse k f m s) r ∧ Ev (fun k => vernierref15_Parse k f m s) r := by
  have kn := known_ev f m
  unfold badFm at kn
  by_cases hf : 0 ≤ f ∧ f < 4
  · obtain ⟨W, P, em, ex, h⟩ := fm_of hf.1 hf.2
    rw [if_pos hf] at kn
    have st : ∀ {r}, _ → Ev (fun k => hexes_Parse k f m s) r := fun hh => Ev.congr (fun k => hexes_Parse_eq k _ _ _) (Ev.bind (Ev.of fun k => nan_at h k) (Ev.neg (nF rfl) hh))
    by_cases hm : 0 ≤ m ∧ m ≤ 5
    · rw [if_pos hm] at kn
      by_cases hs : s.size ≤ 2000
      · exact ⟨_, parse_ok h ⟨hm.1, hm.2⟩ hs, rparse_ok h ⟨hm.1, hm.2⟩ hs⟩
      · exact ⟨_, st (Ev.neg (dF (by omega)) (Ev.neg (dF (by omega)) (Ev.pos (dT (by omega)) (Ev.some _)))), Ev.congr (fun k => vernierref15_Parse_eq k _ _ _) (Ev.bind kn (Ev.neg (nF rfl) (Ev.pos (dT (by omega)) (Ev.some _))))⟩
    · rw [if_neg hm] at kn
      have r2 : Ev (fun k => vernierref15_Parse k f m s) (0, (0, 3)) := Ev.congr (fun k => vernierref15_Parse_eq k _ _ _) (Ev.bind kn (Ev.pos (nT (by decide)) (Ev.some _)))
      by_cases c : m < 0
      · exact ⟨_, st (Ev.pos (dT c) (Ev.some _)), r2⟩
      · exact ⟨_, st (Ev.neg (dF c) (Ev.pos (dT (by omega)) (Ev.some _))), r2⟩
  · rw [if_neg hf] at kn
    exact ⟨(0, (0, 2)), Ev.congr (fun k => hexes_Parse_eq k _ _ _) (Ev.bind (nan_bad (by omega)) (Ev.pos (nT (by decide)) (Ev.some _))), Ev.congr (fun k => vernierref15_Parse_eq k _ _ _) (Ev.bind kn (Ev.pos (nT (by decide)) (Ev.some _)))⟩
end Go.Proofs.YtmoeaeflljpboaaDoor.X
