/- Plain law: what the hexadecimal texts' readers make of a text's bytes: letters, signs, exponents, digits. Conditions: the texts are short. -/
import Derived.Test.YtmoeaeflljpboaaDoorNatK
namespace Go.Proofs.YtmoeaeflljpboaaDoor.X
open Go Go.Rex
set_option linter.unusedVariables false

/-! ### Letters of a text -/
theorem get_bl (s : ByteArray) (i : Nat) : ((s.get! i).toNat : Int) = (bl s).getD i 0 := by
  have := bt_bl s (i : Int)
  rw [Int.toNat_natCast] at this
  rw [← this]
  unfold bt
  rw [Int.toNat_natCast]
  congr 2
  show s.data.getD i default = _
  simp only [Array.getD_eq_getD_getElem?, List.getD_eq_getElem?_getD, Array.getElem?_toList]
  rfl
theorem u8_low {s : ByteArray} {i : Nat} (h : (bl s).getD i 0 < 128) : u8c s i = (bl s).getD i 0 ∧ u8w s i = 1 := by
  have g := get_bl s i
  have hb : (s.get! (i + 0)).toNat < 128 := by rw [Nat.add_zero]; omega
  unfold u8c u8w Utf8.decode
  simp only
  rw [if_pos hb]
  exact ⟨by rw [Nat.add_zero]; exact g, rfl⟩
theorem u8_high {s : ByteArray} {i : Nat} (h : 128 ≤ (bl s).getD i 0) : 128 ≤ u8c s i := by
  have g := get_bl s i
  have hb : ¬ (s.get! (i + 0)).toNat < 128 := by rw [Nat.add_zero]; omega
  have hr : 128 ≤ Utf8.runeError := by decide
  unfold u8c Utf8.decode
  simp only
  rw [if_neg hb]
  have e : ∀ x : Nat × Nat, 128 ≤ x.1 → 128 ≤ ((x.1 : Nat) : Int) := fun x hx => by omega
  apply e
  split
  · split
    · assumption
    · exact hr
  · split
    · split
      · rename_i hc
        simp only [Bool.and_eq_true, decide_eq_true_eq] at hc
        exact Nat.le_trans (by decide) hc.1
      · exact hr
    · split
      · split
        · rename_i hc
          simp only [Bool.and_eq_true, decide_eq_true_eq] at hc
          exact Nat.le_trans (by decide) hc.1
        · exact hr
      · exact hr
theorem bl_drop (s : ByteArray) (a : Nat) (h : a ≤ s.size) : bl (s.extract a s.size) = (bl s).drop a := by
  rw [bl_extract]
  refine List.take_of_length_le ?_
  rw [List.length_drop, bl_length]; omega
theorem drop_cons {l : List Int} {i : Nat} (h : i < l.length) : l.drop i = l.getD i 0 :: l.drop (i + 1) := by
  rw [List.drop_eq_getElem_cons h, List.getD_eq_getElem?_getD, List.getElem?_eq_getElem h]; rfl

/-! ### Words in letters of any case -/
/-- Are these the letters of that word, in letters of any case? -/
def isW : List Int → List Int → Bool
  | [], [] => true
  | a :: l, b :: w => (a == b || a + 32 == b) && isW l w
  | _, _ => false
/-- A word of small letters. -/
def Small (w : List Int) : Prop := ∀ b ∈ w, 97 ≤ b ∧ b ≤ 122
theorem isW_len : ∀ {l w : List Int}, l.length ≠ w.length → isW l w = false
  | [], [], h => absurd rfl h
  | [], _ :: _, _ => rfl
  | _ :: _, [], _ => rfl
  | a :: l, b :: w, h => by
    rw [isW, isW_len (l := l) (w := w) (by intro c; exact h (by simp [c])), Bool.and_false]
theorem or32 : ∀ a : Fin 256, ∀ b : Fin 26, (orK IntKind.u8 (a.val : Int) 32 != ((b.val : Int) + 97)) = !((a.val : Int) == (b.val : Int) + 97 || (a.val : Int) + 32 == (b.val : Int) + 97) := by decide +kernel
theorem up32 : ∀ a : Fin 256, ∀ b : Fin 26, (IntKind.u8.wrap ((a.val : Int) + 32) != ((b.val : Int) + 97)) = !((a.val : Int) + 32 == (b.val : Int) + 97) := by decide +kernel
theorem or32_at {a b : Int} (ha : 0 ≤ a ∧ a < 256) (hb : 97 ≤ b ∧ b ≤ 122) : (orK IntKind.u8 a 32 != b) = !(a == b || a + 32 == b) := by
  have := or32 ⟨a.toNat, by omega⟩ ⟨(b - 97).toNat, by omega⟩
  simp only at this
  rwa [show ((a.toNat : Nat) : Int) = a by omega, show (((b - 97).toNat : Nat) : Int) + 97 = b by omega] at this
theorem up32_at {a b : Int} (ha : 0 ≤ a ∧ a < 256) (hb : 97 ≤ b ∧ b ≤ 122) : (IntKind.u8.wrap (a + 32) != b) = !(a + 32 == b) := by
  have := up32 ⟨a.toNat, by omega⟩ ⟨(b - 97).toNat, by omega⟩
  simp only at this
  rwa [show ((a.toNat : Nat) : Int) = a by omega, show (((b - 97).toNat : Nat) : Int) + 97 = b by omega] at this
theorem bytes_getD {l : List Int} (h : Bytes l) (i : Nat) : 0 ≤ l.getD i 0 ∧ l.getD i 0 < 256 := by
  rw [List.getD_eq_getElem?_getD]
  rcases Nat.lt_or_ge i l.length with g | g
  · rw [List.getElem?_eq_getElem g]; exact h _ (List.getElem_mem g)
  · rw [List.getElem?_eq_none g]; simp
theorem small_getD {w : List Int} (h : Small w) {i : Nat} (g : i < w.length) : 97 ≤ w.getD i 0 ∧ w.getD i 0 ≤ 122 := by
  rw [List.getD_eq_getElem?_getD, List.getElem?_eq_getElem g]; exact h _ (List.getElem_mem g)
theorem letters_l0 {s w : ByteArray} (hw : Small (bl w)) (hl : s.size = w.size) (hs : s.size ≤ 100000) (n : Nat) : ∀ i, i + n = s.size → Ev2 (fun k m => hexes_letters.l0 k m s w (s.size : Int) (i : Int)) (isW ((bl s).drop i) ((bl w).drop i)) := by
  have l1 := bl_length s
  have l2 := bl_length w
  induction n with
  | zero =>
    intro i hi
    rw [List.drop_of_length_le (by omega), List.drop_of_length_le (by omega)]
    exact Ev2.step (fun k m => hexes_letters.l0_eq k m _ _ _ _) (Ev2.neg (dF (by omega)) (Ev2.some _))
  | succ n ih =>
    intro i hi
    rw [drop_cons (l := bl s) (by omega), drop_cons (l := bl w) (by omega), isW]
    refine Ev2.step (fun k m => hexes_letters.l0_eq k m _ _ _ _) (Ev2.pos (dT (by omega)) (Ev2.pos ⟨by omega, by omega⟩ (Ev2.pos ⟨by omega, by omega⟩ ?_)))
    rw [bt_bl, bt_bl, Int.toNat_natCast, or32_at (bytes_getD (bl_bytes s) i) (small_getD hw (by omega)), show IntKind.i64.wrap ((i : Int) + 1) = ((i + 1 : Nat) : Int) by rw [wrapI (by omega) (by omega)]; omega]
    cases ((bl s).getD i 0 == (bl w).getD i 0 || (bl s).getD i 0 + 32 == (bl w).getD i 0) with
    | false => rw [Bool.false_and]; exact Ev2.pos rfl (Ev2.some _)
    | true => rw [Bool.true_and]; exact Ev2.neg (by simp) (ih (i + 1) (by omega))
theorem letters_ev {s w : ByteArray} (hw : Small (bl w)) (hs : s.size ≤ 100000) : Ev (fun k => hexes_letters k s w) (isW (bl s) (bl w)) := by
  refine Ev.congr (fun k => hexes_letters_eq k s w) ?_
  by_cases c : s.size = w.size
  · have := (letters_l0 hw c hs s.size 0 (by omega)).ev
    rw [List.drop_zero, List.drop_zero] at this
    exact Ev.neg (nF (by omega)) this
  · rw [isW_len (by rw [bl_length, bl_length]; exact c)]
    exact Ev.pos (nT (by omega)) (Ev.some _)
theorem word_l0 {s w : ByteArray} (hw : Small (bl w)) (hl : s.size = w.size) (hs : s.size ≤ 100000) (n : Nat) : ∀ i, i + n = s.size → Ev2 (fun k m => vernierref15_word.l0 k m s w (i : Int)) (isW ((bl s).drop i) ((bl w).drop i)) := by
  have l1 := bl_length s
  have l2 := bl_length w
  induction n with
  | zero =>
    intro i hi
    rw [List.drop_of_length_le (by omega), List.drop_of_length_le (by omega)]
    exact Ev2.step (fun k m => vernierref15_word.l0_eq k m _ _ _) (Ev2.neg (dF (by omega)) (Ev2.some _))
  | succ n ih =>
    intro i hi
    rw [drop_cons (l := bl s) (by omega), drop_cons (l := bl w) (by omega), isW]
    refine Ev2.step (fun k m => vernierref15_word.l0_eq k m _ _ _) (Ev2.pos (dT (by omega)) (Ev2.pos ⟨by omega, by omega⟩ (Ev2.pos ⟨by omega, by omega⟩ ?_)))
    rw [bt_bl, bt_bl, Int.toNat_natCast, up32_at (bytes_getD (bl_bytes s) i) (small_getD hw (by omega)), show IntKind.i64.wrap ((i : Int) + 1) = ((i + 1 : Nat) : Int) by rw [wrapI (by omega) (by omega)]; omega]
    have hi1 := ih (i + 1) (by omega)
    by_cases e : (bl s).getD i 0 = (bl w).getD i 0
    · rw [beq_iff_eq.2 e, Bool.true_or, Bool.true_and]
      exact Ev2.neg (nF e) hi1
    · rw [beq_eq_false_iff_ne.2 e, Bool.false_or]
      refine Ev2.pos (nT e) (Ev2.pos ⟨by omega, by omega⟩ (Ev2.pos ⟨by omega, by omega⟩ ?_))
      cases ((bl s).getD i 0 + 32 == (bl w).getD i 0) with
      | false => rw [Bool.false_and]; exact Ev2.pos rfl (Ev2.some _)
      | true => rw [Bool.true_and]; exact Ev2.neg (by simp) hi1
theorem word_ev {s w : ByteArray} (hw : Small (bl w)) (hs : s.size ≤ 100000) : Ev (fun k => vernierref15_word k s w) (isW (bl s) (bl w)) := by
  refine Ev.congr (fun k => vernierref15_word_eq k s w) ?_
  by_cases c : s.size = w.size
  · have := (word_l0 hw c hs s.size 0 (by omega)).ev
    rw [List.drop_zero, List.drop_zero] at this
    exact Ev.neg (nF (by omega)) this
  · rw [isW_len (by rw [bl_length, bl_length]; exact c)]
    exact Ev.pos (nT (by omega)) (Ev.some _)

/-! ### Signs -/
/-- A sign, and what stands behind it. -/
def sgnL : List Int → Bool × List Int
  | c :: r => if c = 45 then (true, r) else if c = 43 then (false, r) else (false, c :: r)
  | [] => (false, [])
def headIs (l : List Int) (c : Int) : Bool := match l with | [] => false | a :: _ => a == c
theorem headIs_size {s : ByteArray} {c : Int} (h : headIs (bl s) c = true) : 1 ≤ s.size := by
  rw [← bl_length]
  cases hs : bl s with
  | nil => rw [hs] at h; cases h
  | cons a r => simp
theorem prefix_at (s p : ByteArray) {c : Int} (hp : bl p = [c]) (k : Nat) : strings_HasPrefix k s p = some (headIs (bl s) c) := by
  have l1 : p.size = 1 := by rw [← bl_length, hp]; rfl
  have l2 := bl_length s
  rw [strings_HasPrefix_eq, stringslite_HasPrefix_eq]
  cases hs : bl s with
  | nil =>
    rw [hs] at l2
    have : s.size = 0 := by simpa using l2.symm
    rw [if_neg (dF (by omega))]; rfl
  | cons a r =>
    rw [hs] at l2
    have : 1 ≤ s.size := by rw [← l2]; simp
    rw [if_pos (dT (by omega)), if_pos ⟨by omega, by omega⟩, toList_bl, bl_extract, hp, hs, show 0 + ((p.size : Nat) : Int).toNat - 0 = 1 by omega]
    show some (decide ([a] = [c])) = some (a == c)
    congr 1
    by_cases e : a = c
    · subst e; simp
    · rw [decide_eq_false (by simpa using e), beq_eq_false_iff_ne.2 e]

/-! ### Exponents -/
/-- Decimal digits, brought to a bound at each step. -/
def xvF (cap : Nat) : List Int → Nat → Option Nat
  | [], x => some x
  | c :: r, x => if 48 ≤ c ∧ c ≤ 57 then xvF cap r (min (10 * x + (c - 48).toNat) cap) else none
def expF (cap : Nat) (l : List Int) : Option Int :=
  if (sgnL l).2 = [] then none else (xvF cap (sgnL l).2 0).map fun x => if (sgnL l).1 then -(x : Int) else (x : Int)
theorem xvF_le {cap : Nat} : ∀ {l : List Int} {x v : Nat}, x ≤ cap → xvF cap l x = some v → v ≤ cap
  | [], x, v, h, e => by cases e; exact h
  | c :: r, x, v, h, e => by
    rw [xvF] at e
    split at e
    · exact xvF_le (Nat.min_le_right _ _) e
    · cases e
theorem i32_at {x : Int} (h0 : -2147483648 ≤ x) (h1 : x < 2147483648) : IntKind.i32.wrap x = x := by
  simp [IntKind.wrap, IntKind.signed, IntKind.bits]
  split <;> omega
/-- Two bounds. -/
theorem xvF_two {a b : Nat} (hab : b ≤ a) : ∀ {l : List Int} {x y : Nat}, min x b = y → (xvF a l x).map (fun v => min v b) = xvF b l y
  | [], x, y, h => by rw [xvF, xvF, Option.map_some, h]
  | c :: r, x, y, h => by
    rw [xvF, xvF]
    split
    · exact xvF_two hab (by omega)
    · rfl
theorem min10 {x cap : Nat} {c : Int} (hx : x ≤ cap) (hc : cap ≤ 1099511627776) (h : 48 ≤ c ∧ c ≤ 57) : mnI (IntKind.i64.wrap ((IntKind.i64.wrap (10 * (x : Int))) + (IntKind.i64.wrap (IntKind.i32.wrap (c - 48))))) (cap : Int) = ((min (10 * x + (c - 48).toNat) cap : Nat) : Int) := by
  have w1 : IntKind.i32.wrap (c - 48) = c - 48 := i32_at (by omega) (by omega)
  rw [w1, wrapI (x := c - 48) (by omega) (by omega), wrapI (x := 10 * (x : Int)) (by omega) (by omega), wrapI (by omega) (by omega)]
  unfold mnI
  split <;> omega
end Go.Proofs.YtmoeaeflljpboaaDoor.X
