/- Plain law: what Text, Parse and Power of naturals answer, by the numbers. Conditions: the words are words, the lists are not longer than memory; the texts are texts. -/
import Derived.Test.YtdhndlcijpgjgaaDoorNatI
namespace Go.Proofs.YtdhndlcijpgjgaaDoor.X
open Go Go.Rex
set_option linter.unusedVariables false

/-! ### Texts as lists of bytes -/
def Bytes (l : List Int) : Prop := ∀ x ∈ l, 0 ≤ x ∧ x < 256
def bl (s : ByteArray) : List Int := s.data.toList.map fun c => (c.toNat : Int)
theorem bl_bytes (s : ByteArray) : Bytes (bl s) := by
  intro x hx
  obtain ⟨c, _, rfl⟩ := List.mem_map.1 hx
  have := c.toNat_lt
  omega
theorem bl_length (s : ByteArray) : (bl s).length = s.size := by
  unfold bl; rw [List.length_map, Array.length_toList]; rfl
theorem bt_bl (s : ByteArray) (i : Int) : bt s i = (bl s).getD i.toNat 0 := by
  unfold bt bl
  simp only [List.getD_eq_getElem?_getD, List.getElem?_map]
  cases s.data.toList[i.toNat]? <;> rfl
theorem bl_of {l : List Int} (h : Bytes l) : bl (bytesOf l) = l := by
  unfold bl bytesOf
  rw [List.toList_toArray, List.map_map]
  conv => rhs; rw [← List.map_id l]
  refine List.map_congr_left fun x hx => ?_
  have := h x hx
  simp only [Function.comp, id]
  rw [UInt8.toNat_ofNat']
  omega
theorem bl_extract (s : ByteArray) (a b : Nat) : bl (s.extract a b) = ((bl s).drop a).take (b - a) := by
  unfold bl
  rw [ByteArray.data_extract, Array.toList_extract, List.extract_eq_take_drop, List.map_take, List.map_drop]
theorem bl_append (a b : ByteArray) : bl (a ++ b) = bl a ++ bl b := by
  unfold bl; simp
theorem bl_inj {a b : ByteArray} (h : bl a = bl b) : a = b := by
  obtain ⟨⟨x⟩⟩ := a
  obtain ⟨⟨y⟩⟩ := b
  unfold bl at h
  simp only at h
  have : x = y := by
    refine List.map_inj_right (f := fun c : UInt8 => (c.toNat : Int)) (fun u v e => ?_) |>.1 h
    have e' : (u.toNat : Int) = (v.toNat : Int) := e
    exact UInt8.toNat_inj.1 (by omega)
  rw [this]
theorem size_of {l : List Int} (h : Bytes l) : (bytesOf l).size = l.length := by rw [← bl_length, bl_of h]
theorem bt_of {l : List Int} (h : Bytes l) (i : Nat) : bt (bytesOf l) (i : Int) = l.getD i 0 := by rw [bt_bl, bl_of h]; rfl
theorem toList_bl (a b : ByteArray) : (a.toList == b.toList) = decide (bl a = bl b) := by
  by_cases h : bl a = bl b
  · rw [decide_eq_true h, bl_inj h]; simp
  · rw [decide_eq_false h]
    refine beq_eq_false_iff_ne.2 fun e => h ?_
    rw [ByteArray.toList_eq, ByteArray.toList_eq] at e
    unfold bl; rw [e]
theorem Bytes.append {a b : List Int} (ha : Bytes a) (hb : Bytes b) : Bytes (a ++ b) := by
  intro x hx
  rcases List.mem_append.1 hx with h | h
  · exact ha x h
  · exact hb x h

/-! ### Decimal digits, the lowest first -/
def decs (n : Nat) : List Int := if n = 0 then [] else ((48 + n % 10 : Nat) : Int) :: decs (n / 10)
termination_by n
decreasing_by exact Nat.div_lt_self (by omega) (by decide)
theorem decs_zero : decs 0 = [] := by rw [decs]; rfl
theorem decs_pos {n : Nat} (h : n ≠ 0) : decs n = ((48 + n % 10 : Nat) : Int) :: decs (n / 10) := by rw [decs, if_neg h]
theorem decs_dig (n : Nat) : ∀ x ∈ decs n, 48 ≤ x ∧ x ≤ 57 := by
  induction n using Nat.strongRecOn with
  | _ n ih =>
    intro x hx
    by_cases h : n = 0
    · subst h; rw [decs_zero] at hx; cases hx
    · rw [decs_pos h] at hx
      rcases List.mem_cons.1 hx with e | e
      · subst e; omega
      · exact ih _ (Nat.div_lt_self (by omega) (by decide)) x e
theorem decs_len {n k : Nat} : (decs n).length ≤ k ↔ n < 10 ^ k := by
  induction n using Nat.strongRecOn generalizing k with
  | _ n ih =>
    by_cases h : n = 0
    · subst h; rw [decs_zero]; simp [Nat.pow_pos]
    · rw [decs_pos h]
      cases k with
      | zero => simp; omega
      | succ k =>
        rw [List.length_cons, Nat.add_le_add_iff_right, ih _ (Nat.div_lt_self (by omega) (by decide)), Nat.pow_succ]
        exact Nat.div_lt_iff_lt_mul (by decide)
theorem decs_nil {n : Nat} : decs n = [] ↔ n = 0 := by
  constructor
  · intro h
    by_cases h0 : n = 0
    · exact h0
    · rw [decs_pos h0] at h; cases h
  · intro h; rw [h, decs_zero]
theorem Bytes.decs (n : Nat) : Bytes (decs n) := fun x hx => by have := decs_dig n x hx; omega
/-- A text's number, the highest digit first. -/
def dval (l : List Int) : Nat := l.foldl (fun v c => 10 * v + (c - 48).toNat) 0
theorem dval_from (l : List Int) : ∀ v : Nat, l.foldl (fun v c => 10 * v + (c - 48).toNat) v = v * 10 ^ l.length + dval l := by
  induction l with
  | nil => intro v; simp [dval]
  | cons c r ih =>
    intro v
    unfold dval
    rw [List.foldl_cons, List.foldl_cons, ih, ih (10 * 0 + _), List.length_cons, Nat.pow_succ]
    generalize 10 ^ r.length = p
    grind
theorem dval_append (a b : List Int) : dval (a ++ b) = dval a * 10 ^ b.length + dval b := by
  unfold dval; rw [List.foldl_append, dval_from]; rfl
theorem dval_decs (n : Nat) : dval (decs n).reverse = n := by
  induction n using Nat.strongRecOn with
  | _ n ih =>
    by_cases h : n = 0
    · subst h; rw [decs_zero]; rfl
    · rw [decs_pos h, List.reverse_cons, dval_append, ih _ (Nat.div_lt_self (by omega) (by decide))]
      simp only [List.length_cons, List.length_nil, dval, List.foldl_cons, List.foldl_nil]
      omega
theorem dval_lt {l : List Int} (h : ∀ x ∈ l, 48 ≤ x ∧ x ≤ 57) : dval l < 10 ^ l.length := by
  induction l with
  | nil => simp [dval]
  | cons c r ih =>
    have h1 := h c List.mem_cons_self
    have h2 := ih fun x hx => h x (List.mem_cons_of_mem _ hx)
    have := dval_append [c] r
    rw [List.singleton_append] at this
    rw [this, List.length_cons, Nat.pow_succ]
    have e : dval [c] ≤ 9 := by simp [dval]; omega
    have := Nat.mul_le_mul_right (10 ^ r.length) e
    omega

/-! ### Text -/
theorem cap1 {n : Nat} (h : n ≤ 140738562097152) : capOk 1 n = true := capOk_of (by omega)
theorem text_l2 {l : List Int} (hl : l.length ≤ 1000000000000) (m : Nat) : ∀ (i : Nat) (o : List Int), i + m = l.length → o = l.reverse.take i → Ev2 (fun k n => nat_Text.l2 k n (l.length : Int) (i : Int) l o) (bytesOf l.reverse, (0 : Int)) := by
  induction m with
  | zero =>
    intro i o hi ho
    refine Ev2.step (fun k n => nat_Text.l2_eq k n _ _ _ _) (Ev2.neg (dF (by omega)) (Ev2.eq (Ev2.some _) ?_))
    rw [ho, List.take_of_length_le (by simp; omega)]
  | succ m ih =>
    intro i o hi ho
    refine Ev2.step (fun k n => nat_Text.l2_eq k n _ _ _ _) ?_
    have e1 : IntKind.i64.wrap ((IntKind.i64.wrap ((l.length : Int) - 1)) - (i : Int)) = ((l.length - 1 - i : Nat) : Int) := by
      rw [wrapI (x := (l.length : Int) - 1) (by omega) (by omega), wrapI (by omega) (by omega)]; omega
    rw [e1, succ_i i (by omega), Int.toNat_natCast]
    have hol : o.length = i := by rw [ho]; simp; omega
    refine Ev2.pos (dT (by omega)) (Ev2.pos ⟨by omega, by omega⟩ (Ev2.pos (cap1 (by simp; omega)) (ih (i + 1) _ (by omega) ?_)))
    rw [ho, List.take_add_one]
    congr 1
    rw [List.getElem?_reverse (by omega), List.getD_eq_getElem?_getD, List.getElem?_eq_getElem (by omega)]
    rfl
theorem text_l01 {B : Nat} (hB : B ≤ 1000000000) (X : Nat) : ∀ (l : List Int), (decs X).length + l.length ≤ B → (digs X).length ≤ 1024 →
    Ev2 (fun k n => nat_Text.l0 k n (digs X) l) (bytesOf (l ++ decs X).reverse, (0 : Int)) := by
  induction X using Nat.strongRecOn with
  | _ X ih =>
    intro l hl hX
    have lX : Lb (digs X) := by unfold Lb; omega
    refine Ev2.step (fun k n => nat_Text.l0_eq k n _ _) ?_
    by_cases h0 : X = 0
    · subst h0
      rw [digs_zero, decs_zero]
      rw [decs_zero] at hl
      simp only [List.length_nil, Nat.zero_add] at hl
      refine Ev2.neg (dF (by simp)) (Ev2.pos ⟨by omega, by omega, by omega⟩ ?_)
      rw [List.take_zero, List.append_nil]
      exact Ev2.inner (text_l2 (l := l) (by omega) l.length 0 [] (by omega) (by simp))
    · have hp := digs_len_pos.2 h0
      have bw := byWord_ev (a := digs X) (WF.digs _) lX (d := 10000000000000000000) (by decide) (by decide)
      rw [val_digs] at bw
      refine Ev2.pos (dT (by omega)) (Ev2.call bw ?_)
      -- the digits of a piece
      have hx : X / 10000000000000000000 < X := Nat.div_lt_self (by omega) (by decide)
      have inner : ∀ (m : Nat) (i r : Nat) (o : List Int), i + m = 19 → r < 10 ^ m → o ++ decs (X / 10000000000000000000 * 10 ^ m + r) = l ++ decs X →
          Ev3 (fun k n0 n => nat_Text.l1 k n0 n (r : Int) (i : Int) (digs (X / 10000000000000000000)) o) (bytesOf (l ++ decs X).reverse, (0 : Int)) := by
        intro m
        induction m with
        | zero =>
          intro i r o hi hr ho
          refine Ev3.step (fun k n0 n => nat_Text.l1_eq k n0 n _ _ _ _) (Ev3.neg (dF (by omega)) ?_)
          have hr0 : r = 0 := by simpa using hr
          subst hr0
          rw [Nat.pow_zero, Nat.mul_one, Nat.add_zero] at ho
          have hlen := congrArg List.length ho
          rw [List.length_append, List.length_append] at hlen
          have := ih _ hx o (by omega) (Nat.le_trans (digs_len_mono (Nat.le_of_lt hx)) hX)
          rw [ho] at this
          exact Ev2.ev3 this
        | succ m ihm =>
          intro i r o hi hr ho
          refine Ev3.step (fun k n0 n => nat_Text.l1_eq k n0 n _ _ _ _) (Ev3.pos (dT (by omega)) ?_)
          have hlen := congrArg List.length ho
          rw [List.length_append, List.length_append] at hlen
          -- a further digit
          have more : X / 10000000000000000000 * 10 ^ (m + 1) + r ≠ 0 → Ev3 (fun k n0 n => nat_Text.j3 k n0 n (r : Int) (i : Int) (digs (X / 10000000000000000000)) o) (bytesOf (l ++ decs X).reverse, (0 : Int)) := by
            intro hne
            refine Ev3.congr (fun k n0 n => nat_Text.j3_eq k n0 n _ _ _ _) (Ev3.pos (cap1 (by simp; omega)) ?_)
            have h19 : 10 ^ (m + 1) ≤ 10 ^ 19 := Nat.pow_le_pow_right (by decide) (show m + 1 ≤ 19 by omega)
            have hr19 : r < 10000000000000000000 := Nat.lt_of_lt_of_le hr h19
            have e1 : IntKind.u8.wrap (IntKind.u64.wrap (48 + ((r : Int).tmod 10))) = ((48 + r % 10 : Nat) : Int) := by
              rw [show (10 : Int) = ((10 : Nat) : Int) from rfl, tmod_nat, wrap_u64, wrap_u8]; omega
            have e2 : IntKind.u64.wrap ((r : Int).tdiv 10) = ((r / 10 : Nat) : Int) := by
              rw [show (10 : Int) = ((10 : Nat) : Int) from rfl, tdiv_nat, wrapUn (by omega)]
            rw [e1, e2, succ_i i (by omega)]
            refine ihm (i + 1) (r / 10) _ (by omega) ?_ ?_
            · rw [Nat.pow_succ] at hr; omega
            · rw [← ho, decs_pos hne, List.append_assoc]
              congr 1
              rw [Nat.pow_succ, ← Nat.mul_assoc]
              rw [show (X / 10000000000000000000 * 10 ^ m * 10 + r) % 10 = r % 10 by omega, show (X / 10000000000000000000 * 10 ^ m * 10 + r) / 10 = X / 10000000000000000000 * 10 ^ m + r / 10 by omega]
              rfl
          by_cases hx0 : X / 10000000000000000000 = 0
          · rw [hx0] at more ho ⊢
            rw [digs_zero] at more ⊢
            refine Ev3.neg (dF (by simp)) ?_
            by_cases hr0 : r = 0
            · subst hr0
              rw [Nat.zero_mul, Nat.zero_add, decs_zero] at ho
              refine Ev3.neg (dF (by omega)) ?_
              have := ih 0 (by omega) o (by rw [decs_zero]; simp; omega) (by rw [digs_zero]; simp)
              rw [decs_zero, ho, digs_zero] at this
              exact Ev2.ev3 this
            · exact Ev3.pos (dT (by omega)) (more (by omega))
          · have hp := digs_len_pos.2 hx0
            refine Ev3.pos (dT (by omega)) (more ?_)
            have := Nat.mul_pos (Nat.pos_of_ne_zero hx0) (Nat.pow_pos (n := m + 1) (show 0 < 10 by decide))
            omega
      have hs := inner 19 0 (X % 10000000000000000000) l (by omega) (Nat.mod_lt _ (by decide)) (by
        congr 2
        have := Nat.div_add_mod X 10000000000000000000
        omega)
      exact Ev3.ev2 hs
/-- A natural's text. -/
def decT (n : Nat) : ByteArray := if n = 0 then bytesOf [48] else bytesOf (decs n).reverse
theorem dec_len_ {A k : Nat} (h : (digs A).length ≤ k) : (decs A).length ≤ 64 * k := by
  rw [decs_len]
  rw [digs_length_lt, ← two_64] at h
  exact Nat.lt_of_lt_of_le h (Nat.pow_le_pow_left (by decide) _)
theorem dec_len {A : Nat} (h : (digs A).length ≤ 1024) : (decs A).length ≤ 65536 := dec_len_ h
theorem Text_ev {a : List Int} (ha : WF a) (la : Lb a) (hl : (digs (val a)).length ≤ 1024) : Ev (fun k => nat_Text k a) (decT (val a), (0 : Int)) := by
  refine Ev.congr (fun k => nat_Text_eq k a) ?_
  rw [set1]
  refine Ev.bind (Ev.eq (great_ev (l := [a]) (fun x hx => by simp at hx; subst hx; exact ⟨ha, la⟩) (by simp)) (r' := false) (by simp; omega)) (Ev.neg (by simp) (Ev.bind (copied_ev ha la) ?_))
  unfold decT
  by_cases h : val a = 0
  · rw [h, digs_zero, if_pos rfl]
    exact Ev.pos (bT rfl) (Ev.some _)
  · have := digs_len_pos.2 h
    rw [if_neg h]
    refine Ev.neg (bF (by omega)) ?_
    have h2 := dec_len hl
    exact (text_l01 (B := 100000) (by omega) (val a) [] (by simp; omega) hl).ev
theorem Text_size {a : List Int} (ha : WF a) (la : Lb a) (hl : 1024 < (digs (val a)).length) : ∃ s, Ev (fun k => nat_Text k a) (s, (5 : Int)) := by
  refine ⟨nat_Text.s0, Ev.congr (fun k => nat_Text_eq k a) ?_⟩
  rw [set1]
  exact Ev.bind (Ev.eq (great_ev (l := [a]) (fun x hx => by simp at hx; subst hx; exact ⟨ha, la⟩) (by simp)) (r' := true) (by simp; omega)) (Ev.pos rfl (Ev.some _))
end Go.Proofs.YtdhndlcijpgjgaaDoor.X
