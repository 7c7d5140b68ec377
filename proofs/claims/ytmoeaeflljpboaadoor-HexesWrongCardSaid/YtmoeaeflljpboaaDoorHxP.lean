/- Plain law: numbers in base ten and hexadecimal digits as texts, by the library and by the reference. Conditions: the numbers are small. -/
import Derived.Test.YtmoeaeflljpboaaDoorHxM
namespace Go.Proofs.YtmoeaeflljpboaaDoor.X
open Go Go.Rex
set_option linter.unusedVariables false

/-! ### Numbers in base ten -/
/-- The decimal text of a natural. -/
def decL (n : Nat) : List Int := if n = 0 then [48] else (decs n).reverse
/-- With its sign, + too. -/
def numT (q : Int) : List Int := (if q < 0 then 45 else 43) :: decL q.natAbs
theorem Bytes.decL (n : Nat) : Bytes (decL n) := by
  unfold X.decL
  split
  · intro x hx; simp at hx; omega
  · intro x hx; exact Bytes.decs n x (List.mem_reverse.1 hx)
/-- Up to four digits. -/
def dec4 (n : Nat) : List Int :=
  if n < 10 then [((48 + n : Nat) : Int)]
  else if n < 100 then [((48 + n / 10 : Nat) : Int), ((48 + n % 10 : Nat) : Int)]
  else if n < 1000 then [((48 + n / 100 : Nat) : Int), ((48 + n / 10 % 10 : Nat) : Int), ((48 + n % 10 : Nat) : Int)]
  else [((48 + n / 1000 : Nat) : Int), ((48 + n / 100 % 10 : Nat) : Int), ((48 + n / 10 % 10 : Nat) : Int), ((48 + n % 10 : Nat) : Int)]
theorem dec4_at {n : Nat} (h : n < 10000) : decL n = dec4 n := by
  unfold decL dec4
  have one : ∀ {x : Nat}, x ≠ 0 → x < 10 → decs x = [((48 + x : Nat) : Int)] := by
    intro x h0 h1
    rw [decs_pos h0, show x / 10 = 0 by omega, decs_zero, show x % 10 = x by omega]
  by_cases c0 : n = 0
  · subst c0; rfl
  · rw [if_neg c0]
    by_cases c1 : n < 10
    · rw [if_pos c1, one c0 c1]; rfl
    · rw [if_neg c1, decs_pos c0]
      by_cases c2 : n < 100
      · rw [if_pos c2, one (x := n / 10) (by omega) (by omega)]; rfl
      · rw [if_neg c2, decs_pos (n := n / 10) (by omega)]
        by_cases c3 : n < 1000
        · rw [if_pos c3, one (x := n / 10 / 10) (by omega) (by omega), show n / 10 / 10 = n / 100 by omega]; rfl
        · rw [if_neg c3, decs_pos (n := n / 10 / 10) (by omega), one (x := n / 10 / 10 / 10) (by omega) (by omega), show n / 10 / 10 = n / 100 by omega, show n / 100 / 10 = n / 1000 by omega]; rfl
/-- Is the answer this text? -/
def okS (o : Option ByteArray) (l : List Int) : Bool := match o with | some s => decide (bl s = l) | none => false
theorem okS_ev {g : Nat → Option ByteArray} {l : List Int} {c : Nat} (h : ∀ m, okS (g (m + c)) l = true) : ∃ o, Ev g o ∧ bl o = l := by
  have h0 := h 0
  have key : ∀ m, ∃ o, g (m + c) = some o ∧ bl o = l := by
    intro m
    have := h m
    unfold okS at this
    split at this
    · rename_i s hs; exact ⟨s, hs, of_decide_eq_true this⟩
    · cases this
  obtain ⟨o, -, ho⟩ := key 0
  refine ⟨o, ⟨c, fun k hk => ?_⟩, ho⟩
  obtain ⟨m, rfl⟩ := Nat.exists_eq_add_of_le hk
  obtain ⟨o', e1, e2⟩ := key m
  rw [Nat.add_comm, e1, bl_inj (e2.trans ho.symm)]
def hexc (d : Nat) : Int := if d < 10 then ((48 + d : Nat) : Int) else ((87 + d : Nat) : Int)
theorem hex_tab (m : Nat) : ((List.range 16).all fun d => okS (strconv_FormatUint (m + 100) (d : Int) 16) [hexc d]) = true := by kernel_rfl
theorem hex_ev {d : Nat} (h : d < 16) : ∃ o, Ev (fun k => strconv_FormatUint k (d : Int) 16) o ∧ bl o = [hexc d] :=
  okS_ev (c := 100) fun m => List.all_eq_true.1 (hex_tab m) d (List.mem_range.2 h)
theorem smalls : ∀ r : Fin 100, bt istrconv_formatBase10.s0 ((r.val * 2 + 1 : Nat) : Int) = ((48 + r.val % 10 : Nat) : Int) ∧ bt istrconv_formatBase10.s0 ((r.val * 2 : Nat) : Int) = ((48 + r.val / 10 : Nat) : Int) := by decide +kernel
theorem smalls_at {r : Nat} (h : r < 100) : bt istrconv_formatBase10.s0 ((r * 2 + 1 : Nat) : Int) = ((48 + r % 10 : Nat) : Int) ∧ bt istrconv_formatBase10.s0 ((r * 2 : Nat) : Int) = ((48 + r / 10 : Nat) : Int) := smalls ⟨r, h⟩
theorem size200 : istrconv_formatBase10.s0.size = 200 := by decide +kernel
theorem u32s {x : Nat} (h : x < 4294967296) : IntKind.u32.wrap (x : Int) = (x : Int) := by rw [u32w, Nat.mod_eq_of_lt h]
theorem pair_at {r : Nat} (h : r < 100) : IntKind.u32.wrap ((r : Int) * 2) = ((r * 2 : Nat) : Int) ∧ IntKind.u32.wrap (((r * 2 : Nat) : Int) + 1) = ((r * 2 + 1 : Nat) : Int) := by
  constructor
  · rw [show (r : Int) * 2 = ((r * 2 : Nat) : Int) by omega, u32s (by omega)]
  · rw [show ((r * 2 : Nat) : Int) + 1 = ((r * 2 + 1 : Nat) : Int) by omega, u32s (by omega)]
theorem byte48 {x : Nat} (h : x < 10) : IntKind.u8.wrap (IntKind.u32.wrap (48 + (x : Int))) = ((48 + x : Nat) : Int) := by
  rw [show (48 : Int) + (x : Int) = ((48 + x : Nat) : Int) by omega, u32s (by omega)]
  simp [IntKind.wrap, IntKind.signed, IntKind.bits]; omega
theorem fb_j0 (k : Nat) (x : Int) (l : List Int) : istrconv_formatBase10.j1 k 0 x l = some l := by
  rw [istrconv_formatBase10.j1_eq, if_neg (by decide), if_neg (by decide)]
theorem fb_j1 (k : Nat) {x : Nat} (h : x < 10) : istrconv_formatBase10.j1 k 1 (x : Int) [0] = some [((48 + x : Nat) : Int)] := by
  rw [istrconv_formatBase10.j1_eq, if_neg (by decide), if_pos (by decide), if_pos (by decide), byte48 h]; rfl
theorem fb_j2 (k : Nat) {x : Nat} (h : x < 100) : istrconv_formatBase10.j1 k 2 (x : Int) [0, 0] = some [((48 + x / 10 : Nat) : Int), ((48 + x % 10 : Nat) : Int)] := by
  have t1 : ((x : Nat) : Int).tmod 100 = ((x % 100 : Nat) : Int) := rfl
  have hx : x % 100 = x := Nat.mod_eq_of_lt h
  obtain ⟨p1, p2⟩ := pair_at (r := x) h
  obtain ⟨q1, q2⟩ := smalls_at h
  rw [istrconv_formatBase10.j1_eq, t1, hx, p1, p2, q1, q2, size200, if_pos (by decide), if_pos ⟨by omega, by omega⟩, if_pos ⟨by omega, by omega⟩, if_pos (by decide), if_pos ⟨by decide, by rw [List.length_set]; decide⟩, if_neg (by decide)]
  rfl
theorem fb_j3 (k : Nat) {x : Nat} (h : x < 1000) : istrconv_formatBase10.j1 k 3 (x : Int) [0, 0, 0] = some [((48 + x / 100 : Nat) : Int), ((48 + x / 10 % 10 : Nat) : Int), ((48 + x % 10 : Nat) : Int)] := by
  have t1 : ((x : Nat) : Int).tmod 100 = ((x % 100 : Nat) : Int) := rfl
  have t2 : ((x : Nat) : Int).tdiv 100 = ((x / 100 : Nat) : Int) := rfl
  have hr : x % 100 < 100 := Nat.mod_lt _ (by decide)
  obtain ⟨p1, p2⟩ := pair_at hr
  obtain ⟨q1, q2⟩ := smalls_at hr
  have e1 : 48 + x % 100 % 10 = 48 + x % 10 := by omega
  have e2 : 48 + x % 100 / 10 = 48 + x / 10 % 10 := by omega
  rw [istrconv_formatBase10.j1_eq, t1, t2, p1, p2, q1, q2, size200, e1, e2, u32s (x := x / 100) (by omega), byte48 (x := x / 100) (by omega), if_pos (by decide), if_pos ⟨by omega, by omega⟩, if_pos ⟨by omega, by omega⟩, if_pos (by decide), if_pos ⟨by decide, by rw [List.length_set]; decide⟩, if_pos (by decide), if_pos ⟨by decide, by rw [List.length_set, List.length_set]; decide⟩]
  rfl
theorem fb_l4 (k n : Nat) {x : Nat} (h : x < 10000) : istrconv_formatBase10.l0 k (n + 1) (x : Int) 4 [0, 0, 0, 0] = some [((48 + x / 1000 : Nat) : Int), ((48 + x / 100 % 10 : Nat) : Int), ((48 + x / 10 % 10 : Nat) : Int), ((48 + x % 10 : Nat) : Int)] := by
  have t0 : ((x : Nat) : Int).tmod 10000 = (x : Int) := by
    show ((x % 10000 : Nat) : Int) = _
    rw [Nat.mod_eq_of_lt h]
  have t1 : ((x : Nat) : Int).tmod 100 = ((x % 100 : Nat) : Int) := rfl
  have t2 : ((x : Nat) : Int).tdiv 100 = ((x / 100 : Nat) : Int) := rfl
  have hr : x % 100 < 100 := Nat.mod_lt _ (by decide)
  obtain ⟨p1, p2⟩ := pair_at hr
  obtain ⟨q1, q2⟩ := smalls_at hr
  obtain ⟨p3, p4⟩ := pair_at (r := x / 100) (by omega)
  obtain ⟨q3, q4⟩ := smalls_at (r := x / 100) (by omega)
  have e1 : 48 + x % 100 % 10 = 48 + x % 10 := by omega
  have e2 : 48 + x % 100 / 10 = 48 + x / 10 % 10 := by omega
  have e3 : 48 + x / 100 / 10 = 48 + x / 1000 := by omega
  rw [istrconv_formatBase10.l0_eq, if_neg (by decide), u32s (x := x) (by omega), t0, t1, t2, u32s (x := x / 100) (by omega), p1, p2, p3, p4, q1, q2, q3, q4, size200, e1, e2, e3, if_pos (by decide), if_pos ⟨by omega, by omega⟩, if_pos ⟨by omega, by omega⟩, if_pos (by decide), if_pos ⟨by decide, by rw [List.length_set]; decide⟩, if_pos ⟨by omega, by omega⟩, if_pos ⟨by omega, by omega⟩, if_pos ⟨by decide, by rw [List.length_set, List.length_set]; decide⟩, if_pos ⟨by decide, by rw [List.length_set, List.length_set, List.length_set]; decide⟩]
  rw [show IntKind.i64.wrap (4 - 4) = 0 by decide, fb_j0]
  rfl
theorem fb_l3 (k n : Nat) {x : Nat} (h : x < 4294967296) {nd : Int} (hn : nd < 4) (l : List Int) : istrconv_formatBase10.l0 k (n + 1) (x : Int) nd l = istrconv_formatBase10.j1 k nd (x : Int) l := by
  rw [istrconv_formatBase10.l0_eq, if_neg (dF (by omega)), if_neg (dF (by omega)), u32s h]
/-- The digits of a number, put into a row as long as they. -/
theorem fb_ev {x : Nat} (h : x < 10000) : Ev (fun k => istrconv_formatBase10 k (List.replicate (dec4 x).length 0) (x : Int)) (dec4 x) := by
  refine ⟨1, fun k hk => ?_⟩
  obtain ⟨n, rfl⟩ : ∃ n, k = n + 1 := ⟨k - 1, by omega⟩
  show istrconv_formatBase10 (n + 1) _ _ = _
  rw [istrconv_formatBase10_eq]
  unfold dec4
  by_cases c1 : x < 10
  · rw [if_pos c1]; exact (fb_l3 _ _ (by omega) (by simp) _).trans (fb_j1 _ c1)
  · rw [if_neg c1]
    by_cases c2 : x < 100
    · rw [if_pos c2]; exact (fb_l3 _ _ (by omega) (by simp) _).trans (fb_j2 _ c2)
    · rw [if_neg c2]
      by_cases c3 : x < 1000
      · rw [if_pos c3]; exact (fb_l3 _ _ (by omega) (by simp) _).trans (fb_j3 _ c3)
      · rw [if_neg c3]; exact fb_l4 _ _ h
theorem p10_at : ∀ t : Fin 5, (p10T).getD t.val 0 = ((10 ^ t.val : Nat) : Int) := by decide
/-- How many digits a number has. -/
theorem nd_ev {x : Nat} (h0 : 1 ≤ x) (h : x < 10000) (k : Nat) : istrconv_numDigits k (x : Int) = some (((dec4 x).length : Nat) : Int) := by
  have b1 := blen_le (n := x) (by omega)
  have b2 := blen_lt x
  have b3 : blen x ≤ 14 := blen_le_iff.2 (by omega)
  have b0 := blen_pos (n := x) (by omega)
  have key : ∀ (b : Nat) (t : Nat), blen x = b → t < 5 → shrK IntKind.i64 (IntKind.i64.wrap ((b : Int) * 78913)) 18 = (t : Int) → (dec4 x).length = t + (if 10 ^ t ≤ x then 1 else 0) → istrconv_numDigits k (x : Int) = some (((dec4 x).length : Nat) : Int) := by
    intro b t hb ht hs hl
    rw [istrconv_numDigits_eq, len64 k x (by omega), Option.bind_some, istrconv_log10Pow2_eq, Option.bind_some, hb, hs, if_pos ⟨by omega, by omega⟩, Int.toNat_natCast, p10_at ⟨t, ht⟩, istrconv_bool2int_eq, hl]
    by_cases c : 10 ^ t ≤ x
    · rw [if_pos (dT (by show ((10 ^ t : Nat) : Int) ≤ (x : Int); omega)), if_pos c, Option.bind_some, wrapI (by omega) (by omega)]; rfl
    · rw [if_neg (dF (by show ¬ ((10 ^ t : Nat) : Int) ≤ (x : Int); omega)), if_neg c, Option.bind_some, wrapI (by omega) (by omega)]; rfl
  have len4 : (dec4 x).length = if x < 10 then 1 else if x < 100 then 2 else if x < 1000 then 3 else 4 := by
    unfold dec4
    split
    · rfl
    · split
      · rfl
      · split <;> rfl
  have hb : blen x = 1 ∨ blen x = 2 ∨ blen x = 3 ∨ blen x = 4 ∨ blen x = 5 ∨ blen x = 6 ∨ blen x = 7 ∨ blen x = 8 ∨ blen x = 9 ∨ blen x = 10 ∨ blen x = 11 ∨ blen x = 12 ∨ blen x = 13 ∨ blen x = 14 := by omega
  rcases hb with e | e | e | e | e | e | e | e | e | e | e | e | e | e <;> rw [e] at b1 b2
  · exact key 1 0 e (by decide) (by decide) (by rw [len4]; simp at b1 b2 ⊢; split <;> (try split) <;> (try split) <;> (try split) <;> omega)
  · exact key 2 0 e (by decide) (by decide) (by rw [len4]; simp at b1 b2 ⊢; split <;> (try split) <;> (try split) <;> (try split) <;> omega)
  · exact key 3 0 e (by decide) (by decide) (by rw [len4]; simp at b1 b2 ⊢; split <;> (try split) <;> (try split) <;> (try split) <;> omega)
  · exact key 4 1 e (by decide) (by decide) (by rw [len4]; simp at b1 b2 ⊢; split <;> (try split) <;> (try split) <;> (try split) <;> omega)
  · exact key 5 1 e (by decide) (by decide) (by rw [len4]; simp at b1 b2 ⊢; split <;> (try split) <;> (try split) <;> (try split) <;> omega)
  · exact key 6 1 e (by decide) (by decide) (by rw [len4]; simp at b1 b2 ⊢; split <;> (try split) <;> (try split) <;> (try split) <;> omega)
  · exact key 7 2 e (by decide) (by decide) (by rw [len4]; simp at b1 b2 ⊢; split <;> (try split) <;> (try split) <;> (try split) <;> omega)
  · exact key 8 2 e (by decide) (by decide) (by rw [len4]; simp at b1 b2 ⊢; split <;> (try split) <;> (try split) <;> (try split) <;> omega)
  · exact key 9 2 e (by decide) (by decide) (by rw [len4]; simp at b1 b2 ⊢; split <;> (try split) <;> (try split) <;> (try split) <;> omega)
  · exact key 10 3 e (by decide) (by decide) (by rw [len4]; simp at b1 b2 ⊢; split <;> (try split) <;> (try split) <;> (try split) <;> omega)
  · exact key 11 3 e (by decide) (by decide) (by rw [len4]; simp at b1 b2 ⊢; split <;> (try split) <;> (try split) <;> (try split) <;> omega)
  · exact key 12 3 e (by decide) (by decide) (by rw [len4]; simp at b1 b2 ⊢; split <;> (try split) <;> (try split) <;> (try split) <;> omega)
  · exact key 13 3 e (by decide) (by decide) (by rw [len4]; simp at b1 b2 ⊢; split <;> (try split) <;> (try split) <;> (try split) <;> omega)
  · exact key 14 4 e (by decide) (by decide) (by rw [len4]; simp at b1 b2 ⊢; split <;> (try split) <;> (try split) <;> (try split) <;> omega)
theorem small_tab : ∀ i : Fin 100, (if i.val < 10 then bl (istrconv_small.s0.extract i.val (i.val + (i.val + 1 - i.val))) else bl (istrconv_small.s1.extract (i.val * 2) (i.val * 2 + (i.val * 2 + 2 - i.val * 2)))) = dec4 i.val := by decide +kernel
theorem small_ev {i : Nat} (h : i < 100) : ∃ o, (∀ k, istrconv_small k (i : Int) = some o) ∧ bl o = dec4 i := by
  have ht := small_tab ⟨i, h⟩
  simp only at ht
  have s0 : istrconv_small.s0.size = 36 := by decide +kernel
  have s1 : istrconv_small.s1.size = 200 := by decide +kernel
  by_cases c : i < 10
  · rw [if_pos c] at ht
    refine ⟨_, fun k => ?_, ht⟩
    rw [istrconv_small_eq, if_pos (dT (by omega)), show IntKind.i64.wrap ((i : Int) + 1) = ((i + 1 : Nat) : Int) by rw [wrapI (by omega) (by omega)]; omega, s0, if_pos ⟨by omega, by omega, by omega⟩, Int.toNat_natCast, Int.toNat_natCast]
  · rw [if_neg c] at ht
    refine ⟨_, fun k => ?_, ht⟩
    rw [istrconv_small_eq, if_neg (dF (by omega)), show IntKind.i64.wrap ((i : Int) * 2) = ((i * 2 : Nat) : Int) by rw [wrapI (by omega) (by omega)]; omega, show IntKind.i64.wrap (((i * 2 : Nat) : Int) + 2) = ((i * 2 + 2 : Nat) : Int) by rw [wrapI (by omega) (by omega)]; omega, s1, if_pos ⟨by omega, by omega, by omega⟩, Int.toNat_natCast, Int.toNat_natCast]
theorem dec4_bytes (n : Nat) (h : n < 10000) : Bytes (dec4 n) := by rw [← dec4_at h]; exact Bytes.decL n
theorem dec4_len (n : Nat) : (dec4 n).length = 1 ∨ (dec4 n).length = 2 ∨ (dec4 n).length = 3 ∨ (dec4 n).length = 4 := by
  unfold dec4
  split
  · exact .inl rfl
  · split
    · exact .inr (.inl rfl)
    · split
      · exact .inr (.inr (.inl rfl))
      · exact .inr (.inr (.inr rfl))
theorem row_pos (l : List Int) (h : l.length = 1 ∨ l.length = 2 ∨ l.length = 3 ∨ l.length = 4) : (((((List.replicate 24 (0 : Int)).take 1) ++ (l ++ ((List.replicate 24 (0 : Int)).drop (1 + ((((l.length + 1 : Nat) : Int)).toNat - ((1 : Int).toNat)))))).drop 1).take ((((l.length + 1 : Nat) : Int)).toNat - ((1 : Int).toNat))) = l ∧
    (((((List.replicate 24 (0 : Int)).take 1) ++ (l ++ ((List.replicate 24 (0 : Int)).drop (1 + ((((l.length + 1 : Nat) : Int)).toNat - ((1 : Int).toNat)))))).set 0 45).take (((l.length + 1 : Nat) : Int)).toNat) = 45 :: l ∧ (((List.replicate 24 (0 : Int)).drop 1).take ((((l.length + 1 : Nat) : Int)).toNat - ((1 : Int).toNat))) = List.replicate l.length 0 := by
  match l, h with
  | [a], _ => exact ⟨rfl, rfl, rfl⟩
  | [a, b], _ => exact ⟨rfl, rfl, rfl⟩
  | [a, b, c], _ => exact ⟨rfl, rfl, rfl⟩
  | [a, b, c, d], _ => exact ⟨rfl, rfl, rfl⟩
  | [], h => simp at h
  | _ :: _ :: _ :: _ :: _ :: _, h => simp at h
theorem ito_ev {q : Int} (h : -1100 ≤ q ∧ q < 1100) : ∃ o, Ev (fun k => strconv_Itoa k q) o ∧ bl o = (if q < 0 then [45] else []) ++ decL q.natAbs := by
  rw [dec4_at (by omega)]
  have start : ∀ {o}, Ev (fun k => istrconv_FormatInt k q 10) o → Ev (fun k => strconv_Itoa k q) o := fun g => Ev.congr (fun k => strconv_Itoa_eq k q) (Ev.bind (Ev.congr (fun k => istrconv_Itoa_eq k q) (Ev.bind g (Ev.some _))) (Ev.some _))
  have st2 : ∀ {o}, _ → Ev (fun k => istrconv_FormatInt k q 10) o := fun hh => Ev.congr (fun k => istrconv_FormatInt_eq k q 10) (Ev.pos (by decide) hh)
  have hx : q.natAbs < 10000 := by omega
  have hlen := dec4_len q.natAbs
  obtain ⟨r1, r2, r3⟩ := row_pos (dec4 q.natAbs) hlen
  have hby := dec4_bytes q.natAbs hx
  have wl : IntKind.i64.wrap (1 + (((dec4 q.natAbs).length : Nat) : Int)) = (((dec4 q.natAbs).length + 1 : Nat) : Int) := by rw [wrapI (by omega) (by omega)]; omega
  have fb := fb_ev hx
  by_cases c : q < 0
  · rw [if_pos c]
    have w0 : IntKind.u64.wrap (0 - (IntKind.u64.wrap q)) = ((q.natAbs : Nat) : Int) := by rw [wrap_u64, wrap_u64]; omega
    refine ⟨bytesOf (45 :: dec4 q.natAbs), start (st2 (Ev.neg (dF (by omega)) (Ev.congr (fun k => istrconv_FormatInt.j0_eq k q) (Ev.pos (dT c) ?_)))), ?_⟩
    · rw [w0]
      refine Ev.bind (Ev.of fun k => nd_ev (by omega) hx k) ?_
      rw [wl, r3]
      refine Ev.pos ⟨by decide, by omega, by omega⟩ (Ev.bind fb (Ev.pos (dT c) (Ev.pos ⟨by omega, by omega⟩ ?_)))
      rw [r2]
      exact Ev.some _
    · rw [bl_of]
      · rfl
      · intro y hy
        rcases List.mem_cons.1 hy with g | g
        · subst g; decide
        · exact hby y g
  · rw [if_neg c, List.nil_append]
    have hq : ((q.natAbs : Nat) : Int) = q := by omega
    by_cases c2 : q < 100
    · obtain ⟨o, g1, g2⟩ := small_ev (i := q.natAbs) (by omega)
      rw [hq] at g1
      exact ⟨o, start (st2 (Ev.pos (dT (by omega)) (Ev.pos (dT c2) (Ev.bind (Ev.of g1) (Ev.some _))))), g2⟩
    · have w0 : IntKind.u64.wrap q = ((q.natAbs : Nat) : Int) := by rw [wrap_u64]; omega
      refine ⟨bytesOf (dec4 q.natAbs), start (st2 (Ev.pos (dT (by omega)) (Ev.neg (dF (by omega)) (Ev.congr (fun k => istrconv_FormatInt.j0_eq k q) (Ev.neg (dF c) ?_))))), bl_of hby⟩
      rw [w0]
      refine Ev.bind (Ev.of fun k => nd_ev (by omega) hx k) ?_
      rw [wl, r3]
      refine Ev.pos ⟨by decide, by omega, by omega⟩ (Ev.bind fb (Ev.neg (dF c) (Ev.pos ⟨by decide, by omega, by omega⟩ ?_)))
      rw [r1]
      exact Ev.some _
theorem cat_le {s t : ByteArray} (h : (bl s).length + (bl t).length ≤ 100000) : (((s.size + t.size) : Nat) : Int) ≤ 9223372036854775807 := by
  rw [bl_length, bl_length] at h; omega
theorem ten_at : ∀ d : Fin 10, ((bl vernierref15_number.s3).drop d.val).take (d.val + (d.val + 1 - d.val) - d.val) = [((48 + d.val : Nat) : Int)] := by decide
theorem ten_ext {d : Nat} (h : d < 10) : bl (vernierref15_number.s3.extract d (d + (d + 1 - d))) = [((48 + d : Nat) : Int)] := by rw [bl_extract]; exact ten_at ⟨d, h⟩
theorem number_l1 (s1 : ByteArray) (h1 : (bl s1).length ≤ 10) (B : Nat) (hB : B ≤ 1000) (n : Nat) : ∀ (s2 : ByteArray), n < 9223372036854775807 → (decs n).length + (bl s2).length ≤ B →
    ∃ o, Ev2 (fun k m => vernierref15_number.l1 k m (n : Int) s1 s2) o ∧ bl o = bl s1 ++ (if n = 0 ∧ bl s2 = [] then [48] else (decs n).reverse ++ bl s2) := by
  induction n using Nat.strongRecOn with
  | _ n ih =>
    intro s2 hn hb
    have hs3 : vernierref15_number.s3.size = 16 := by decide
    have he : bl vernierref15_number.s2 = [] := by decide
    have t1 : ((n : Nat) : Int).tmod 10 = ((n % 10 : Nat) : Int) := rfl
    have t2 : ((n : Nat) : Int).tdiv 10 = ((n / 10 : Nat) : Int) := rfl
    have w1 : IntKind.i64.wrap (((n % 10 : Nat) : Int) + 1) = ((n % 10 + 1 : Nat) : Int) := by rw [wrapI (by omega) (by omega)]; omega
    have w2 : IntKind.i64.wrap ((n / 10 : Nat) : Int) = ((n / 10 : Nat) : Int) := wrapI (by omega) (by omega)
    have hx := ten_ext (d := n % 10) (Nat.mod_lt _ (by decide))
    have start : ∀ {r}, _ → Ev2 (fun k m => vernierref15_number.l1 k m (n : Int) s1 s2) r := fun hh => Ev2.step (fun k m => vernierref15_number.l1_eq k m _ _ _) hh
    rw [t1, t2, w1, w2, Int.toNat_natCast, Int.toNat_natCast] at start
    generalize hT : vernierref15_number.s3.extract (n % 10) (n % 10 + (n % 10 + 1 - n % 10)) = T at *
    have hcat : bl (T ++ s2) = ((48 + n % 10 : Nat) : Int) :: bl s2 := by rw [bl_append, hx]; rfl
    by_cases c : n = 0
    · subst c
      by_cases e : bl s2 = []
      · -- the one digit
        have hcl : (bl T).length + (bl s2).length ≤ 100000 := by rw [hx, e]; simp
        have fin : Ev2 (fun k m => vernierref15_number.l1 k m ((0 : Nat) : Int) s1 (T ++ s2)) (s1 ++ (T ++ s2)) := by
          refine Ev2.step (fun k m => vernierref15_number.l1_eq k m _ _ _) (Ev2.neg (by decide) (Ev2.neg ?_ (Ev2.pos (cat_le (by rw [hcat, e]; simp; omega)) (Ev2.some _))))
          rw [toList_bl, hcat, he]; simp
        refine ⟨_, start (Ev2.neg (by decide) (Ev2.pos (by rw [toList_bl, e, he]; rfl) (Ev2.pos ⟨by omega, by omega, by omega⟩ (Ev2.pos (cat_le hcl) fin)))), ?_⟩
        rw [bl_append, hcat, e, if_pos ⟨rfl, rfl⟩]; rfl
      · refine ⟨_, start (Ev2.neg (by decide) (Ev2.neg ?_ (Ev2.pos (cat_le (by omega)) (Ev2.some _)))), ?_⟩
        · rw [toList_bl, he]; simpa using e
        · rw [bl_append, if_neg (fun h => e h.2), decs_zero]; rfl
    · have hl : (decs n).length = (decs (n / 10)).length + 1 := by rw [decs_pos c]; rfl
      obtain ⟨o, g1, g2⟩ := ih (n / 10) (by omega) (T ++ s2) (by omega) (by rw [hcat, List.length_cons]; omega)
      refine ⟨o, start (Ev2.pos (dT (by omega)) (Ev2.pos ⟨by omega, by omega, by omega⟩ (Ev2.pos (cat_le (by rw [hx]; simp; omega)) g1))), ?_⟩
      rw [g2, hcat, if_neg (by simp), if_neg (fun h => c h.1), decs_pos c, List.reverse_cons, List.append_assoc]; rfl
theorem number_ev {q : Int} (h : -100000 ≤ q ∧ q ≤ 100000) : ∃ o, Ev (fun k => vernierref15_number k q) o ∧ bl o = numT q := by
  have s0 : bl vernierref15_number.s0 = [45] := by decide
  have s1 : bl vernierref15_number.s1 = [43] := by decide
  have s2 : bl vernierref15_number.s2 = [] := by decide
  have hd : (decs q.natAbs).length ≤ 6 := decs_len.2 (by omega)
  have fin : ∀ (sg : ByteArray), (bl sg).length ≤ 10 → ∃ o, Ev (fun k => vernierref15_number.j0 k (q.natAbs : Int) sg) o ∧ bl o = bl sg ++ decL q.natAbs := by
    intro sg hsg
    obtain ⟨o, g1, g2⟩ := number_l1 sg hsg 1000 (by omega) q.natAbs vernierref15_number.s2 (by omega) (by rw [s2]; simp; omega)
    refine ⟨o, Ev.congr (fun k => vernierref15_number.j0_eq k _ _) g1.ev, ?_⟩
    rw [g2, s2, List.append_nil]
    unfold decL
    by_cases c : q.natAbs = 0
    · rw [if_pos ⟨c, rfl⟩, if_pos c]
    · rw [if_neg (fun h => c h.1), if_neg c]
  by_cases c : q < 0
  · obtain ⟨o, g1, g2⟩ := fin vernierref15_number.s0 (by rw [s0]; simp)
    refine ⟨o, Ev.congr (fun k => vernierref15_number_eq k q) (Ev.pos (dT c) ?_), by rw [g2, s0]; unfold numT; rw [if_pos c]; rfl⟩
    rw [show IntKind.i64.wrap (0 - q) = ((q.natAbs : Nat) : Int) by rw [wrapI (by omega) (by omega)]; omega]
    exact g1
  · obtain ⟨o, g1, g2⟩ := fin vernierref15_number.s1 (by rw [s1]; simp)
    rw [show ((q.natAbs : Nat) : Int) = q by omega] at g1
    exact ⟨o, Ev.congr (fun k => vernierref15_number_eq k q) (Ev.neg (dF c) g1), by rw [g2, s1]; unfold numT; rw [if_neg c]; rfl⟩
end Go.Proofs.YtmoeaeflljpboaaDoor.X
