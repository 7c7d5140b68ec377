/- Plain law: what Text, Parse and Power of naturals answer, by the numbers. Conditions: the words are words, the lists are not longer than memory; the texts are texts. -/
import Derived.Test.YtmoeaeflljpboaaDoorNatI
namespace Go.Proofs.YtmoeaeflljpboaaDoor.X
open Go Go.Rex
set_option linter.unusedVariables false

/-! ### Texts as lists of bytes -/
def Bytes (l : List Int) : Prop := ∀ x ∈ l, 0 ≤ x ∧ x < 256
def bl (s : ByteArray) : List Int := s.data.toList.map fun c => (c.toNat : Int)
theorem bl_bytes (s : ByteArray) : Bytes (bl s) := by
  intro x hx
  obtain ⟨c, _, rfl⟩ := List.mem_map.1 hx
  have := c.toNat_lt
  omega
theorem bl_length (s : ByteArray) : (bl s).length = s.size := by
  unfold bl; rw [List.length_map, Array.length_toList]; rfl
theorem bt_bl (s : ByteArray) (i : Int) : bt s i = (bl s).getD i.toNat 0 := by
  unfold bt bl
  simp only [List.getD_eq_getElem?_getD, List.getElem?_map]
  cases s.data.toList[i.toNat]? <;> rfl
theorem bl_of {l : List Int} (h : Bytes l) : bl (bytesOf l) = l := by
  unfold bl bytesOf
  rw [List.toList_toArray, List.map_map]
  conv => rhs; rw [← List.map_id l]
  refine List.map_congr_left fun x hx => ?_
  have := h x hx
  simp only [Function.comp, id]
  rw [UInt8.toNat_ofNat']
  omega
theorem bl_extract (s : ByteArray) (a b : Nat) : bl (s.extract a b) = ((bl s).drop a).take (b - a) := by
  unfold bl
  rw [ByteArray.data_extract, Array.toList_extract, List.extract_eq_take_drop, List.map_take, List.map_drop]
theorem bl_append (a b : ByteArray) : bl (a ++ b) = bl a ++ bl b := by
  unfold bl; simp
theorem bl_inj {a b : ByteArray} (h : bl a = bl b) : a = b := by
  obtain ⟨⟨x⟩⟩ := a
  obtain ⟨⟨y⟩⟩ := b
  unfold bl at h
  simp only at h
  have : x = y := by
    refine List.map_inj_right (f := fun c : UInt8 => (c.toNat : Int)) (fun u v e => ?_) |>.1 h
    have e' : (u.toNat : Int) = (v.toNat : Int) := e
    exact UInt8.toNat_inj.1 (by omega)
  rw [this]
theorem size_of {l : List Int} (h : Bytes l) : (bytesOf l).size = l.length := by rw [← bl_length, bl_of h]
theorem bt_of {l : List Int} (h : Bytes l) (i : Nat) : bt (bytesOf l) (i : Int) = l.getD i 0 := by rw [bt_bl, bl_of h]; rfl
theorem toList_bl (a b : ByteArray) : (a.toList == b.toList) = decide (bl a = bl b) := by
  by_cases h : bl a = bl b
  · rw [decide_eq_true h, bl_inj h]; simp
  · rw [decide_eq_false h]
    refine beq_eq_false_iff_ne.2 fun e => h ?_
    rw [ByteArray.toList_eq, ByteArray.toList_eq] at e
    unfold bl; rw [e]
theorem Bytes.append {a b : List Int} (ha : Bytes a) (hb : Bytes b) : Bytes (a ++ b) := by
  intro x hx
  rcases List.mem_append.1 hx with h | h
  · exact ha x h
  · exact hb x h

/-! ### Decimal digits, the lowest first -/
def decs (n : Nat) : List Int := if n = 0 then [] else ((48 + n % 10 : Nat) : Int) :: decs (n / 10)
termination_by n
decreasing_by exact Nat.div_lt_self (by omega) (by decide)
theorem decs_zero : decs 0 = [] := by rw [decs]; rfl
theorem decs_pos {n : Nat} (h : n ≠ 0) : decs n = ((48 + n % 10 : Nat) : Int) :: decs (n / 10) := by rw [decs, if_neg h]
theorem decs_dig (n : Nat) : ∀ x ∈ decs n, 48 ≤ x ∧ x ≤ 57 := by
  induction n using Nat.strongRecOn with
  | _ n ih =>
    intro x hx
    by_cases h : n = 0
    · subst h; rw [decs_zero] at hx; cases hx
    · rw [decs_pos h] at hx
      rcases List.mem_cons.1 hx with e | e
      · subst e; omega
      · exact ih _ (Nat.div_lt_self (by omega) (by decide)) x e
theorem decs_len {n k : Nat} : (decs n).length ≤ k ↔ n < 10 ^ k := by
  induction n using Nat.strongRecOn generalizing k with
  | _ n ih =>
    by_cases h : n = 0
    · subst h; rw [decs_zero]; simp [Nat.pow_pos]
    · rw [decs_pos h]
      cases k with
      | zero => simp; omega
      | succ k =>
        rw [List.length_cons, Nat.add_le_add_iff_right, ih _ (Nat.div_lt_self (by omega) (by decide)), Nat.pow_succ]
        exact Nat.div_lt_iff_lt_mul (by decide)
theorem decs_nil {n : Nat} : decs n = [] ↔ n = 0 := by
  constructor
  · intro h
    by_cases h0 : n = 0
    · exact h0
    · rw [decs_pos h0] at h; cases h
  · intro h; rw [h, decs_zero]
theorem Bytes.decs (n : Nat) : Bytes (decs n) := fun x hx => by have := decs_dig n x hx; omega
/-- A text's number, the highest digit first. -/
def dval (l : List Int) : Nat := l.foldl (fun v c => 10 * v + (c - 48).toNat) 0
theorem dval_from (l : List Int) : ∀ v : Nat, l.foldl (fun v c => 10 * v + (c - 48).toNat) v = v * 10 ^ l.length + dval l := by
  induction l with
  | nil => intro v; simp [dval]
  | cons c r ih =>
    intro v
    unfold dval
    rw [List.foldl_cons, List.foldl_cons, ih, ih (10 * 0 + _), List.length_cons, Nat.pow_succ]
    generalize 10 ^ r.length = p
    grind
theorem dval_append (a b : List Int) : dval (a ++ b) = dval a * 10 ^ b.length + dval b := by
  unfold dval; rw [List.foldl_append, dval_from]; rfl
theorem dval_decs (n : Nat) : dval (decs n).reverse = n := by
  induction n using Nat.strongRecOn with
  | _ n ih =>
    by_cases h : n = 0
    · subst h; rw [decs_zero]; rfl
    · rw [decs_pos h, List.reverse_cons, dval_append, ih _ (Nat.div_lt_self (by omega) (by decide))]
      simp only [List.length_cons, List.length_nil, dval, List.foldl_cons, List.foldl_nil]
      omega
theorem dval_lt {l : List Int} (h : ∀ x ∈ l, 48 ≤ x ∧ x ≤ 57) : dval l < 10 ^ l.length := by
  induction l with
  | nil => simp [dval]
  | cons c r ih =>
    have h1 := h c List.mem_cons_self
    have h2 := ih fun x hx => h x (List.mem_cons_of_mem _ hx)
    have := dval_append [c] r
    rw [List.singleton_append] at this
    rw [this, List.length_cons, Nat.pow_succ]
    have e : dval [c] ≤ 9 := by simp [dval]; omega
    have := Nat.mul_le_mul_right (10 ^ r.length) e
    omega

/-! ### Text -/
end Go.Proofs.YtmoeaeflljpboaaDoor.X
