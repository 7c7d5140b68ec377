/- Plain law: the reference's digits of 32 bits, words, product, Mul, DivMod, Gcd, by the numbers. Conditions: the words are words, the lists are short. -/
import Derived.Test.YtdhndlcijpgjgaaDoorRfB
namespace Go.Proofs.YtdhndlcijpgjgaaDoor.X
open Go Go.Rex
set_option linter.unusedVariables false

/-! ### Digits of 32 bits -/
def v32 : List Int → Nat
  | [] => 0
  | x :: r => x.toNat + 4294967296 * v32 r
def W32 (a : List Int) : Prop := ∀ x ∈ a, 0 ≤ x ∧ x < 4294967296
theorem v32_append (a b : List Int) : v32 (a ++ b) = v32 a + 4294967296 ^ a.length * v32 b := by
  induction a with
  | nil => simp [v32]
  | cons x r ih =>
    show x.toNat + 4294967296 * v32 (r ++ b) = x.toNat + 4294967296 * v32 r + _
    rw [ih, List.length_cons, Nat.pow_succ, Nat.mul_add, Nat.add_assoc]
    congr 2
    rw [← Nat.mul_assoc, Nat.mul_comm 4294967296]
theorem W32.getD {a : List Int} (h : W32 a) (i : Nat) : ∃ x : Nat, x < 4294967296 ∧ a.getD i 0 = (x : Int) := by
  rw [List.getD_eq_getElem?_getD]
  cases hi : a[i]? with
  | none => exact ⟨0, by decide, rfl⟩
  | some y =>
    have := h y (List.mem_of_getElem? hi)
    exact ⟨y.toNat, by omega, by simp; omega⟩
theorem W32.set {a : List Int} (h : W32 a) (i : Nat) {x : Nat} (hx : x < 4294967296) : W32 (a.set i (x : Int)) := by
  intro y hy
  rcases List.mem_or_eq_of_mem_set hy with e | e
  · exact h y e
  · subst e; omega
theorem W32.replicate (n : Nat) : W32 (List.replicate n 0) := by
  intro x hx
  rw [List.eq_of_mem_replicate hx]; decide
theorem W32.append {a b : List Int} (ha : W32 a) (hb : W32 b) : W32 (a ++ b) := by
  intro x hx
  rcases List.mem_append.1 hx with h | h
  · exact ha x h
  · exact hb x h
theorem v32_replicate (n : Nat) : v32 (List.replicate n 0) = 0 := by
  induction n with
  | zero => rfl
  | succ n ih => rw [List.replicate_succ]; show 0 + 4294967296 * v32 _ = 0; rw [ih]
theorem v32_take_succ (a : List Int) (i : Nat) : v32 (a.take (i + 1)) = v32 (a.take i) + 4294967296 ^ i * (a.getD i 0).toNat := by
  rcases Nat.lt_or_ge i a.length with hi | hi
  · rw [List.take_add_one, v32_append]
    have e : a[i]?.toList = [a.getD i 0] := by simp [List.getD_eq_getElem?_getD, List.getElem?_eq_getElem hi]
    rw [e]
    simp [v32, Nat.min_eq_left (Nat.le_of_lt hi)]
  · rw [List.take_of_length_le (by omega), List.take_of_length_le hi, getD_ge a hi]; simp
theorem v32_take_set_succ (a : List Int) {i : Nat} (h : i < a.length) (x : Int) : v32 ((a.set i x).take (i + 1)) = v32 (a.take i) + 4294967296 ^ i * x.toNat := by
  rw [v32_take_succ, take_set_ne, Rex.getD_set_self a h]
theorem v32_drop (a : List Int) {i : Nat} (hi : i < a.length) : v32 (a.drop i) = (a.getD i 0).toNat + 4294967296 * v32 (a.drop (i + 1)) := by
  rw [List.drop_eq_getElem_cons hi]
  simp [v32, List.getD_eq_getElem?_getD, List.getElem?_eq_getElem hi]
theorem v32_take_drop (a : List Int) (i : Nat) : v32 a = v32 (a.take i) + 4294967296 ^ i * v32 (a.drop i) := by
  rcases Nat.lt_or_ge i a.length with h | h
  · have := v32_append (a.take i) (a.drop i)
    rw [List.take_append_drop] at this
    rw [this]; simp [Nat.min_eq_left (Nat.le_of_lt h)]
  · rw [List.take_of_length_le h, List.drop_of_length_le h]; simp [v32]
theorem v32_set (a : List Int) {i : Nat} (hi : i < a.length) (x : Int) : v32 (a.set i x) + 4294967296 ^ i * (a.getD i 0).toNat = v32 a + 4294967296 ^ i * x.toNat := by
  rw [List.set_eq_take_append_cons_drop, if_pos hi, v32_append, v32_take_drop a i, v32_drop a hi]
  show v32 (a.take i) + 4294967296 ^ (a.take i).length * (x.toNat + 4294967296 * v32 (a.drop (i + 1))) + _ = _
  simp [Nat.min_eq_left (Nat.le_of_lt hi), Nat.mul_add]
  omega
theorem v32_lt {a : List Int} (h : W32 a) : v32 a < 4294967296 ^ a.length := by
  induction a with
  | nil => simp [v32]
  | cons x r ih =>
    have h1 := h x List.mem_cons_self
    have h2 := ih fun y hy => h y (List.mem_cons_of_mem _ hy)
    show x.toNat + 4294967296 * v32 r < _
    rw [List.length_cons, Nat.pow_succ, Nat.mul_comm (4294967296 ^ r.length)]
    have := Nat.mul_le_mul_left 4294967296 (show v32 r + 1 ≤ 4294967296 ^ r.length from h2)
    rw [Nat.mul_add] at this
    omega
theorem b32_even (j : Nat) : 4294967296 ^ (2 * j) = 18446744073709551616 ^ j := by rw [Nat.pow_mul]
theorem b32_odd (j : Nat) : 4294967296 ^ (2 * j + 1) = 18446744073709551616 ^ j * 4294967296 := by rw [Nat.pow_succ, b32_even]
theorem shr32 (x : Nat) : shrK .u64 (x : Int) 32 = ((x / 2 ^ 32 : Nat) : Int) := shrK_nat x 32 (by decide)
theorem two_i (i : Nat) (h : i ≤ 1000000000000) : IntKind.i64.wrap (2 * (i : Int)) = ((2 * i : Nat) : Int) := by rw [wrapI (by omega) (by omega)]; omega

theorem rdig_l0 {a : List Int} (ha : WF a) {N : Nat} (hN : N ≤ 1000000000000) (hNa : N ≤ a.length) (n : Nat) : ∀ (i : Nat) (d : List Int), i + n = N → W32 d → d.length = 2 * N → v32 (d.take (2 * i)) = val (a.take i) →
    ∃ e, W32 e ∧ e.length = 2 * N ∧ v32 e = val (a.take N) ∧ Ev2 (fun k m => vernierref02_digits.l0 k m a (N : Int) (i : Int) d) e := by
  induction n with
  | zero =>
    intro i d hi hd hl hv
    have hi' : i = N := by omega
    subst hi'
    exact ⟨d, hd, hl, by rw [← hv, List.take_of_length_le (by omega)], Ev2.step (fun k m => vernierref02_digits.l0_eq k m _ _ _ _) (Ev2.neg (dF (by omega)) (Ev2.some _))⟩
  | succ n ih =>
    intro i d hi hd hl hv
    obtain ⟨x, hx, ex⟩ := word_nat ha i
    have q1 : W32 ((d.set (2 * i) ((x % 4294967296 : Nat) : Int)).set (2 * i + 1) ((x / 2 ^ 32 : Nat) : Int)) := (hd.set _ (by omega)).set _ (by omega)
    have v1 := v32_take_set_succ (d.set (2 * i) ((x % 4294967296 : Nat) : Int)) (i := 2 * i + 1) (by rw [List.length_set]; omega) ((x / 2 ^ 32 : Nat) : Int)
    have v2 := v32_take_set_succ d (i := 2 * i) (by omega) ((x % 4294967296 : Nat) : Int)
    rw [Int.toNat_natCast] at v1 v2
    obtain ⟨e, e1, e2, e3, e4⟩ := ih (i + 1) _ (by omega) q1 (by rw [List.length_set, List.length_set]; exact hl) (by
      rw [show 2 * (i + 1) = 2 * i + 1 + 1 by omega, v1, v2, hv, take_succ_val a (by omega), ex, Int.toNat_natCast, b32_even, b32_odd, show (2 : Nat) ^ 32 = 4294967296 from rfl]
      have hm := Nat.div_add_mod x 4294967296
      generalize x / 4294967296 = hi' at *
      generalize x % 4294967296 = lo at *
      rw [← hm]
      generalize 18446744073709551616 ^ i = P
      grind)
    refine ⟨e, e1, e2, e3, Ev2.step (fun k m => vernierref02_digits.l0_eq k m _ _ _ _) ?_⟩
    rw [two_i i (by omega), succ_i (2 * i) (by omega), succ_i i (by omega), Int.toNat_natCast, Int.toNat_natCast, Int.toNat_natCast, ex, andK_32 x hx, shr32]
    exact Ev2.pos (dT (by omega)) (Ev2.pos ⟨by omega, by omega⟩ (Ev2.pos ⟨by omega, by omega⟩ (Ev2.pos ⟨by omega, by omega⟩ (Ev2.pos ⟨by omega, by rw [List.length_set]; omega⟩ e4))))
theorem rdig_ev {a : List Int} (ha : WF a) (la : Lb a) (hl : (digs (val a)).length ≤ 100000000) : ∃ e, W32 e ∧ e.length = 2 * (digs (val a)).length ∧ v32 e = val a ∧ Ev (fun k => vernierref02_digits k a) e := by
  have sa := size_le a ha
  obtain ⟨e, e1, e2, e3, e4⟩ := rdig_l0 ha (N := (digs (val a)).length) (by omega) sa (digs (val a)).length 0 (List.replicate (2 * (digs (val a)).length) 0) (by omega) (W32.replicate _) (by simp) (by simp [v32, val])
  refine ⟨e, e1, e2, by rw [e3, val_take_size ha (Nat.le_refl _)], Ev.congr (fun k => vernierref02_digits_eq k a) (Ev.bind (rsize_ev ha la) ?_)⟩
  rw [two_i _ (by omega), Int.toNat_natCast]
  exact Ev.pos ⟨by omega, by omega⟩ e4.ev
theorem rwords_l0 {d : List Int} (hd : W32 d) (hl : d.length ≤ 1000000000) (n : Nat) : ∀ (i : Nat) (w : List Int), i + n = d.length → WF w → w.length = (d.length + 1) / 2 → val w = v32 (d.take i) → (∀ j, (i + 1) / 2 ≤ j → w.getD j 0 = 0) → (i % 2 = 1 → w.getD (i / 2) 0 < 4294967296) →
    Ev2 (fun k m => vernierref02_words.l0 k m d (i : Int) w) (digs (v32 d)) := by
  induction n with
  | zero =>
    intro i w hi hw hwl hv hz ho
    refine Ev2.step (fun k m => vernierref02_words.l0_eq k m _ _ _) (Ev2.neg (dF (by omega)) (Ev2.call (Ev.eq (rTrim_ev hw (by unfold Lb; omega)) ?_) (Ev2.some _)))
    rw [hv, List.take_of_length_le (by omega)]
  | succ n ih =>
    intro i w hi hw hwl hv hz ho
    refine Ev2.step (fun k m => vernierref02_words.l0_eq k m _ _ _) ?_
    obtain ⟨x, hx, ex⟩ := hd.getD i
    obtain ⟨c, hc, ec⟩ := word_nat hw (i / 2)
    have ew : IntKind.i64.wrap ((i : Int).tdiv 2) = ((i / 2 : Nat) : Int) := by
      rw [show (2 : Int) = ((2 : Nat) : Int) from rfl, tdiv_nat, wrapI (by omega) (by omega)]
    have es : IntKind.u64.wrap (IntKind.i64.wrap (32 * ((i : Int).tmod 2))) = ((32 * (i % 2) : Nat) : Int) := by
      rw [show (2 : Int) = ((2 : Nat) : Int) from rfl, tmod_nat, wrapI (by omega) (by omega), wrap_u64]; omega
    have hiw : i / 2 < w.length := by omega
    have v1 := v32_take_succ d i
    rw [ex, Int.toNat_natCast] at v1
    rw [ew, es, succ_i i (by omega), Int.toNat_natCast, Int.toNat_natCast, ex, ec]
    -- the word that is written
    have key : ∃ z : Nat, z < 18446744073709551616 ∧ orK .u64 (c : Int) (shlK .u64 (x : Int) ((32 * (i % 2) : Nat) : Int)) = (z : Int) ∧ 18446744073709551616 ^ (i / 2) * z = 18446744073709551616 ^ (i / 2) * c + 4294967296 ^ i * x ∧ (i % 2 = 0 → z < 4294967296) := by
      rcases (show i % 2 = 0 ∨ i % 2 = 1 by omega) with h | h
      · have hc0 : c = 0 := by
          have := hz (i / 2) (by omega)
          omega
        refine ⟨x, by omega, ?_, ?_, fun _ => hx⟩
        · rw [h, show 32 * 0 = 0 from rfl, shlK_exact x 0 (by omega) (by omega), hc0, Nat.pow_zero, Nat.mul_one]
          have := orK_add' 0 x 0 (by decide) (Nat.mod_one _) (by omega)
          rw [this, Nat.zero_add]
        · rw [hc0, Nat.mul_zero, Nat.zero_add]
          conv => rhs; rw [show i = 2 * (i / 2) by omega, b32_even]
      · have hc2 : c < 4294967296 := by have := ho h; omega
        refine ⟨c + x * 4294967296, by omega, ?_, ?_, fun e => by omega⟩
        · rw [h, show 32 * 1 = 32 from rfl, shlK_exact x 32 (by omega) (by rw [show (2 : Nat) ^ 32 = 4294967296 from rfl]; omega), show (2 : Nat) ^ 32 = 4294967296 from rfl]
          exact orK_add' c (x * 4294967296) 32 hc2 (Nat.mul_mod_left _ _) (by omega)
        · conv => rhs; rw [show 4294967296 ^ i = 4294967296 ^ (2 * (i / 2) + 1) by congr 1; omega, b32_odd]
          rw [Nat.mul_add, Nat.mul_assoc, Nat.mul_comm x]
    obtain ⟨z, hz1, hz2, hz3, hz4⟩ := key
    rw [hz2]
    have sv := set_val w hiw (z : Int)
    rw [ec, Int.toNat_natCast, Int.toNat_natCast] at sv
    refine Ev2.pos (dT (by omega)) (Ev2.pos ⟨by omega, by omega⟩ (Ev2.pos ⟨by omega, by omega⟩ (Ev2.pos (by omega) (Ev2.pos ⟨by omega, by omega⟩ ?_))))
    refine ih (i + 1) (w.set (i / 2) (z : Int)) (by omega) (hw.set _ (by omega) (by omega)) (by rw [List.length_set]; exact hwl) (by rw [v1]; omega) (fun j hj => ?_) (fun h => ?_)
    · rw [Rex.getD_set_ne w (by omega)]; exact hz j (by omega)
    · rw [show (i + 1) / 2 = i / 2 by omega, Rex.getD_set_self w hiw]
      have := hz4 (by omega)
      omega
theorem rwords_ev {d : List Int} (hd : W32 d) (hl : d.length ≤ 1000000000) : Ev (fun k => vernierref02_words k d) (digs (v32 d)) := by
  refine Ev.congr (fun k => vernierref02_words_eq k d) ?_
  have e1 : IntKind.i64.wrap ((IntKind.i64.wrap ((d.length : Int) + 1)).tdiv 2) = (((d.length + 1) / 2 : Nat) : Int) := by
    rw [succ_i _ (by omega), show (2 : Int) = ((2 : Nat) : Int) from rfl, tdiv_nat, wrapI (by omega) (by omega)]
  rw [e1, Int.toNat_natCast]
  have hrep : ∀ (m j : Nat), (List.replicate m (0 : Int)).getD j 0 = 0 := fun m j => by
    simp [List.getD_eq_getElem?_getD, List.getElem?_replicate]; split <;> rfl
  exact Ev.pos ⟨by omega, by omega⟩ (rwords_l0 hd hl d.length 0 (List.replicate ((d.length + 1) / 2) 0) (by omega) (WF.replicate _) (by simp) (by rw [val_replicate]; simp [v32]) (fun j _ => hrep _ j) (fun h => by omega)).ev
/-! ### product -/
theorem mac32 {x y p c : Nat} (hx : x < 4294967296) (hy : y < 4294967296) (hp : p < 4294967296) (hc : c < 4294967296) : x * y + p + c < 18446744073709551616 := by
  have : x * y ≤ 4294967295 * 4294967295 := Nat.mul_le_mul (by omega) (by omega)
  omega
theorem rprod_arith {P Q V0 V1 A x y p c lo hi T : Nat} (v1 : V1 + P * Q * p = V0 + P * Q * lo) (h : lo + 4294967296 * hi = x * y + p + c) (hv : V0 + P * Q * c = A + P * (x * T)) : V1 + P * (Q * 4294967296) * hi = A + P * (x * (T + Q * y)) := by
  have e1 : P * Q * (lo + 4294967296 * hi) = P * Q * (x * y) + P * Q * p + P * Q * c := by rw [h]; grind
  have e2 : P * Q * (lo + 4294967296 * hi) = P * Q * lo + P * (Q * 4294967296) * hi := by grind
  have e3 : P * (x * (T + Q * y)) = P * (x * T) + P * Q * (x * y) := by grind
  omega
theorem rprod_l1 {x y : List Int} (hx : W32 x) (hy : W32 y) (hxl : x.length ≤ 1000000) (hyl : y.length ≤ 1000000) {i X : Nat} (hi : i < x.length) (hX : X < 4294967296) (eX : x.getD i 0 = (X : Int)) {p0 : Nat} {r : List Int}
    (hr : ∀ (c : Nat) (p : List Int), c < 4294967296 → W32 p → p.length = x.length + y.length → (∀ j, i + y.length ≤ j → p.getD j 0 = 0) → v32 p + 4294967296 ^ i * 4294967296 ^ y.length * c = p0 + 4294967296 ^ i * (X * v32 y) →
      Ev2 (fun k n0 => (if decide ((y.length : Int) > 0) then (if 0 ≤ (IntKind.i64.wrap ((i : Int) + (y.length : Int))) ∧ (IntKind.i64.wrap ((i : Int) + (y.length : Int))) < (p.length : Int) then vernierref02_product.l0 k n0 (IntKind.i64.wrap ((i : Int) + 1)) x y (p.set ((IntKind.i64.wrap ((i : Int) + (y.length : Int))).toNat) (c : Int)) else none) else vernierref02_product.l0 k n0 (IntKind.i64.wrap ((i : Int) + 1)) x y p)) r) (n : Nat) :
    ∀ (j c : Nat) (p : List Int), j + n = y.length → c < 4294967296 → W32 p → p.length = x.length + y.length → (∀ q, i + y.length ≤ q → p.getD q 0 = 0) → v32 p + 4294967296 ^ i * 4294967296 ^ j * c = p0 + 4294967296 ^ i * (X * v32 (y.take j)) →
      Ev3 (fun k n0 l => vernierref02_product.l1 k n0 l (i : Int) (c : Int) (j : Int) x y p) r := by
  induction n with
  | zero =>
    intro j c p hj hc hp hpl hz hv
    obtain rfl : j = y.length := by omega
    refine Ev3.step (fun k n0 l => vernierref02_product.l1_eq k n0 l _ _ _ _ _ _) (Ev3.neg (dF (by omega)) ?_)
    rw [List.take_length] at hv
    exact Ev2.ev3 (hr c p hc hp hpl hz hv)
  | succ n ih =>
    intro j c p hj hc hp hpl hz hv
    refine Ev3.step (fun k n0 l => vernierref02_product.l1_eq k n0 l _ _ _ _ _ _) ?_
    obtain ⟨Y, hY, eY⟩ := hy.getD j
    obtain ⟨q, hq, eq⟩ := hp.getD (i + j)
    have hm := mac32 hX hY hq hc
    have e1 := v32_take_succ y j
    rw [eY, Int.toNat_natCast] at e1
    rw [add_i i j (by omega), succ_i j (by omega), Int.toNat_natCast, Int.toNat_natCast, Int.toNat_natCast, eX, eY, eq]
    have hXY : X * Y ≤ 4294967295 * 4294967295 := Nat.mul_le_mul (by omega) (by omega)
    have et : IntKind.u64.wrap ((IntKind.u64.wrap ((IntKind.u64.wrap ((X : Int) * (Y : Int))) + (q : Int))) + (c : Int)) = ((X * Y + q + c : Nat) : Int) := by
      rw [mulu_nat X Y (by omega), show (((X * Y : Nat) : Int) + (q : Int)) = ((X * Y + q : Nat) : Int) by omega, wrapUn (by omega), show (((X * Y + q : Nat) : Int) + (c : Int)) = ((X * Y + q + c : Nat) : Int) by omega, wrapUn (by omega)]
    rw [et, andK_32 _ hm, shr32, show (2 : Nat) ^ 32 = 4294967296 from rfl]
    refine Ev3.pos (dT (by omega)) (Ev3.pos ⟨by omega, by omega⟩ (Ev3.pos ⟨by omega, by omega⟩ (Ev3.pos ⟨by omega, by omega⟩ (Ev3.pos ⟨by omega, by omega⟩ ?_))))
    have hdm := Nat.mod_add_div (X * Y + q + c) 4294967296
    have hml := Nat.mod_lt (X * Y + q + c) (show 0 < 4294967296 by decide)
    have hdl : (X * Y + q + c) / 4294967296 < 4294967296 := by omega
    generalize (X * Y + q + c) / 4294967296 = hi' at *
    generalize (X * Y + q + c) % 4294967296 = lo at *
    have sv := v32_set p (i := i + j) (by omega) (lo : Int)
    rw [eq, Int.toNat_natCast, Int.toNat_natCast, Nat.pow_add] at sv
    refine ih (j + 1) hi' _ (by omega) hdl (hp.set _ hml) (by rw [List.length_set]; exact hpl) (fun t ht => ?_) ?_
    · rw [Rex.getD_set_ne p (by omega)]; exact hz t ht
    · rw [e1, Nat.pow_succ]
      exact rprod_arith sv hdm hv
theorem rprod_l0 {x y : List Int} (hx : W32 x) (hy : W32 y) (hxl : x.length ≤ 1000000) (hyl : y.length ≤ 1000000) (n : Nat) : ∀ (i : Nat) (p : List Int), i + n = x.length → W32 p → p.length = x.length + y.length → (∀ j, i + y.length ≤ j → p.getD j 0 = 0) → v32 p = v32 (x.take i) * v32 y →
    Ev2 (fun k m => vernierref02_product.l0 k m (i : Int) x y p) (digs (v32 x * v32 y)) := by
  induction n with
  | zero =>
    intro i p hi hp hpl hz hv
    refine Ev2.step (fun k m => vernierref02_product.l0_eq k m _ _ _ _) (Ev2.neg (dF (by omega)) (Ev2.call (Ev.eq (rwords_ev hp (by omega)) ?_) (Ev2.some _)))
    rw [hv, List.take_of_length_le (by omega)]
  | succ n ih =>
    intro i p hi hp hpl hz hv
    refine Ev2.step (fun k m => vernierref02_product.l0_eq k m _ _ _ _) (Ev2.pos (dT (by omega)) ?_)
    obtain ⟨X, hX, eX⟩ := hx.getD i
    have e1 := v32_take_succ x i
    rw [eX, Int.toNat_natCast] at e1
    have hfin : v32 p + 4294967296 ^ i * (X * v32 y) = v32 (x.take (i + 1)) * v32 y := by
      rw [hv, e1]; grind
    refine Ev3.ev2 (rprod_l1 hx hy hxl hyl (i := i) (by omega) hX eX (p0 := v32 p) (fun c q hc hq hql hqz hqv => ?_) y.length 0 0 p (by omega) (by decide) hp hpl (fun t ht => hz t ht) (by simp [v32]))
    rw [succ_i i (by omega), add_i i _ (by omega), Int.toNat_natCast]
    by_cases h0 : y.length = 0
    · have hy0 : y = [] := List.length_eq_zero_iff.1 h0
      refine Ev2.neg (dF (by omega)) (ih (i + 1) q (by omega) hq hql (fun t ht => hqz t (by omega)) ?_)
      have hq0 := v32_lt hq
      subst hy0
      rw [show v32 [] = 0 from rfl, Nat.mul_zero] at *
      rw [Nat.mul_zero] at hqv
      rw [show v32 p = 0 from hv] at hqv
      omega
    · refine Ev2.pos (dT (by omega)) (Ev2.pos ⟨by omega, by omega⟩ ?_)
      have sv := v32_set q (i := i + y.length) (by omega) (c : Int)
      rw [hqz _ (Nat.le_refl _), Nat.pow_add] at sv
      simp only [Int.toNat_natCast, Int.toNat_zero, Nat.mul_zero, Nat.add_zero] at sv
      refine ih (i + 1) _ (by omega) (hq.set _ hc) (by rw [List.length_set]; exact hql) (fun t ht => ?_) (by omega)
      rw [Rex.getD_set_ne q (by omega)]; exact hqz t (by omega)
theorem rproduct_ev {a b : List Int} (ha : WF a) (hb : WF b) (la : Lb a) (lb : Lb b) (ca : (digs (val a)).length ≤ 100000) (cb : (digs (val b)).length ≤ 100000) : Ev (fun k => vernierref02_product k a b) (digs (val a * val b)) := by
  obtain ⟨x, x1, x2, x3, x4⟩ := rdig_ev ha la (by omega)
  obtain ⟨y, y1, y2, y3, y4⟩ := rdig_ev hb lb (by omega)
  refine Ev.congr (fun k => vernierref02_product_eq k a b) (Ev.bind x4 (Ev.bind y4 ?_))
  have hrep : ∀ (m j : Nat), (List.replicate m (0 : Int)).getD j 0 = 0 := fun m j => by
    simp [List.getD_eq_getElem?_getD, List.getElem?_replicate]; split <;> rfl
  rw [add_i _ _ (by omega), Int.toNat_natCast, ← x3, ← y3]
  exact Ev.pos ⟨by omega, by omega⟩ (rprod_l0 x1 y1 (by omega) (by omega) x.length 0 (List.replicate (x.length + y.length) 0) (by omega) (W32.replicate _) (by simp) (fun j _ => hrep _ j) (by rw [v32_replicate]; simp [v32])).ev
theorem rMul_ev {a b : List Int} (ha : WF a) (hb : WF b) (la : Lb a) (lb : Lb b) : Ev (fun k => vernierref02_Mul k a b) (if (digs (val a)).length ≤ 1024 ∧ (digs (val b)).length ≤ 1024 ∧ (digs (val a * val b)).length ≤ 1024 then (digs (val a * val b), (0 : Int)) else (([] : List Int), (5 : Int))) := by
  refine Ev.congr (fun k => vernierref02_Mul_eq k a b) (Ev.bind (rsize_ev ha la) ?_)
  by_cases c1 : (digs (val a)).length ≤ 1024
  · refine Ev.neg (dF (by omega)) (Ev.bind (rsize_ev hb lb) ?_)
    by_cases c2 : (digs (val b)).length ≤ 1024
    · refine Ev.neg (dF (by omega)) (Ev.bind (rproduct_ev ha hb la lb (by omega) (by omega)) ?_)
      by_cases c3 : (digs (val a * val b)).length ≤ 1024
      · rw [if_pos (show _ ∧ _ ∧ _ from ⟨c1, c2, c3⟩)]; exact Ev.neg (dF (by omega)) (Ev.some _)
      · rw [if_neg (show ¬ (_ ∧ _ ∧ _) from fun h => c3 h.2.2)]; exact Ev.pos (dT (by omega)) (Ev.some _)
    · rw [if_neg (fun h => c2 h.2.1)]; exact Ev.pos (dT (by omega)) (Ev.some _)
  · rw [if_neg (fun h => c1 h.1)]; exact Ev.pos (dT (by omega)) (Ev.some _)
theorem rDivMod_ev {a b : List Int} (ha : WF a) (hb : WF b) (la : Lb a) (lb : Lb b) : Ev (fun k => vernierref02_DivMod k a b) (if (digs (val a)).length ≤ 1024 ∧ (digs (val b)).length ≤ 1024 then (if val b = 0 then (([] : List Int), (([] : List Int), (10 : Int))) else (digs (val a / val b), (digs (val a % val b), (0 : Int)))) else (([] : List Int), (([] : List Int), (5 : Int)))) := by
  refine Ev.congr (fun k => vernierref02_DivMod_eq k a b) (Ev.bind (rsize_ev ha la) ?_)
  by_cases c1 : (digs (val a)).length ≤ 1024
  · refine Ev.neg (dF (by omega)) (Ev.bind (rsize_ev hb lb) ?_)
    by_cases c2 : (digs (val b)).length ≤ 1024
    · rw [if_pos ⟨c1, c2⟩]
      refine Ev.neg (dF (by omega)) (Ev.bind (rsize_ev hb lb) ?_)
      by_cases c3 : val b = 0
      · rw [if_pos c3, c3, digs_zero]; exact Ev.pos (bT rfl) (Ev.some _)
      · have := digs_len_pos.2 c3
        rw [if_neg c3]; exact Ev.neg (bF (by omega)) (Ev.bind (rquot_ev ha hb la lb c3 (by omega)) (Ev.some _))
    · rw [if_neg (fun h => c2 h.2)]; exact Ev.pos (dT (by omega)) (Ev.some _)
  · rw [if_neg (fun h => c1 h.1)]; exact Ev.pos (dT (by omega)) (Ev.some _)
/-! ### Gcd -/
theorem cop2 {y : Nat} (h : y % 2 = 1) : Nat.Coprime 2 y := by
  unfold Nat.Coprime
  rw [Nat.gcd_rec, h]; rfl
theorem gcd_half {x y : Nat} (hx : x % 2 = 0) (hy : y % 2 = 1) : Nat.gcd (x / 2) y = Nat.gcd x y := by
  have e : x = 2 * (x / 2) := by omega
  conv => rhs; rw [e]
  exact (Nat.Coprime.gcd_mul_left_cancel _ (cop2 hy)).symm
theorem gcd_half' {x y : Nat} (hx : x % 2 = 1) (hy : y % 2 = 0) : Nat.gcd x (y / 2) = Nat.gcd x y := by
  rw [Nat.gcd_comm, gcd_half hy hx, Nat.gcd_comm]
theorem gcd_sub {x y : Nat} (h : x ≤ y) : Nat.gcd x (y - x) = Nat.gcd x y := by
  obtain ⟨d, rfl⟩ : ∃ d, y = x + d := ⟨y - x, by omega⟩
  rw [show x + d - x = d by omega, Nat.gcd_self_add_right]
theorem bit0 {x : Nat} (hl : Lb (digs x)) : Ev (fun k => vernierref02_Bit k (digs x) 0) ((x % 2 : Nat) : Int) := by
  have := rBit_ev (a := digs x) (WF.digs _) 0 (by decide)
  rw [val_digs, Nat.pow_zero, Nat.div_one] at this; exact this
theorem down1 {x : Nat} (hl : Lb (digs x)) : Ev (fun k => vernierref02_down k (digs x) 1) (digs (x / 2)) := by
  have := rdown_ev (a := digs x) (WF.digs _) hl 1 (by decide)
  rw [val_digs, Nat.pow_one] at this; exact this
section
variable {t B : Nat} (ht : t ≤ 100000) (hB : B ≤ 2000)
include hB
theorem rgcd_l5 {x : Nat} {r : List Int × Int} (hx : x % 2 = 1) (lx : (digs x).length ≤ B) (G : Nat) (rec : ∀ u v : Nat, u + v < x + G → u % 2 = 1 → (digs u).length ≤ B → (digs v).length ≤ B → Nat.gcd u v = Nat.gcd x G → Ev2 (fun k n => vernierref02_Gcd.l3 k n (t : Int) (digs u) (digs v)) r) (y : Nat) :
    y ≠ 0 → y ≤ G → (digs y).length ≤ B → Nat.gcd x y = Nat.gcd x G → Ev3 (fun k n0 n => vernierref02_Gcd.l5 k n0 n (t : Int) (digs x) (digs y)) r := by
  induction y using Nat.strongRecOn with
  | _ y ih =>
    intro h0 hle hl hg
    refine Ev3.step (fun k n0 n => vernierref02_Gcd.l5_eq k n0 n _ _ _) (Ev3.call (bit0 (by unfold Lb; omega)) ?_)
    by_cases c : y % 2 = 0
    · refine Ev3.pos (bT (by omega)) (Ev3.call (down1 (by unfold Lb; omega)) (ih (y / 2) (by omega) (by omega) (by omega) (Nat.le_trans (digs_len_mono (Nat.div_le_self _ _)) hl) ?_))
      rw [gcd_half' hx c, hg]
    · have hcm := rCmp_ev (a := digs x) (b := digs y) (WF.digs _) (WF.digs _) (by unfold Lb; omega) (by unfold Lb; omega)
      rw [val_digs, val_digs] at hcm
      refine Ev3.neg (bF (by omega)) (Ev3.call hcm ?_)
      by_cases c2 : y < x
      · have hle2 := rless_ev (a := digs x) (b := digs y) (WF.digs _) (WF.digs _) (by unfold Lb; omega) (by rw [val_digs, val_digs]; omega)
        rw [val_digs, val_digs] at hle2
        refine Ev3.pos (dT (by rw [cmpN, if_neg (by omega), if_pos c2]; decide)) (Ev3.call hle2 (Ev2.ev3 (rec y (x - y) (by omega) (by omega) hl (Nat.le_trans (digs_len_mono (Nat.sub_le _ _)) lx) ?_)))
        rw [gcd_sub (by omega), Nat.gcd_comm, hg]
      · have hle2 := rless_ev (a := digs y) (b := digs x) (WF.digs _) (WF.digs _) (by unfold Lb; omega) (by rw [val_digs, val_digs]; omega)
        rw [val_digs, val_digs] at hle2
        refine Ev3.neg (dF (by rw [cmpN_pos]; exact c2)) (Ev3.call hle2 (Ev2.ev3 (rec x (y - x) (by omega) hx lx (Nat.le_trans (digs_len_mono (Nat.sub_le _ _)) hl) ?_)))
        rw [gcd_sub (by omega), hg]
theorem rgcd_l4 {y : Nat} {r : List Int × Int} (hy : y ≠ 0) (ly : (digs y).length ≤ B) (G : Nat) (rec : ∀ u v : Nat, u + v < G + y → u % 2 = 1 → (digs u).length ≤ B → (digs v).length ≤ B → Nat.gcd u v = Nat.gcd G y → Ev2 (fun k n => vernierref02_Gcd.l3 k n (t : Int) (digs u) (digs v)) r) (x : Nat) :
    x ≠ 0 → x ≤ G → (x % 2 = 1 ∨ y % 2 = 1) → (digs x).length ≤ B → Nat.gcd x y = Nat.gcd G y → Ev3 (fun k n0 n => vernierref02_Gcd.l4 k n0 n (t : Int) (digs x) (digs y)) r := by
  induction x using Nat.strongRecOn with
  | _ x ih =>
    intro h0 hle ho hl hg
    refine Ev3.step (fun k n0 n => vernierref02_Gcd.l4_eq k n0 n _ _ _) (Ev3.call (bit0 (by unfold Lb; omega)) ?_)
    by_cases c : x % 2 = 0
    · have hy1 : y % 2 = 1 := by omega
      refine Ev3.pos (bT (by omega)) (Ev3.call (down1 (by unfold Lb; omega)) (ih (x / 2) (by omega) (by omega) (by omega) (.inr hy1) (Nat.le_trans (digs_len_mono (Nat.div_le_self _ _)) hl) ?_))
      rw [gcd_half c hy1, hg]
    · refine Ev3.neg (bF (by omega)) ?_
      have := rgcd_l5 hB (x := x) (by omega) hl y (fun u v h1 h2 h3 h4 h5 => rec u v (by omega) h2 h3 h4 (by rw [h5, hg])) y hy (Nat.le_refl _) ly rfl
      exact Ev2.ev3 (Ev3.ev2 this)
include ht
theorem rgcd_l3 (S : Nat) : ∀ x y : Nat, x + y = S → x ≠ 0 → (x % 2 = 1 ∨ y % 2 = 1) → (digs x).length ≤ B → (digs y).length ≤ B → Ev2 (fun k n => vernierref02_Gcd.l3 k n (t : Int) (digs x) (digs y)) (digs (Nat.gcd x y * 2 ^ t), (0 : Int)) := by
  induction S using Nat.strongRecOn with
  | _ S ih =>
    intro x y hS hx ho lx ly
    refine Ev2.step (fun k n => vernierref02_Gcd.l3_eq k n _ _ _) ?_
    by_cases hy : y = 0
    · subst hy
      rw [digs_zero, Nat.gcd_zero_right]
      have := rup_ev (a := digs x) (WF.digs _) (by unfold Lb; omega) (t := t) (by omega) (by rw [val_digs]; omega)
      rw [val_digs] at this
      exact Ev2.neg (dF (by simp)) (Ev2.call this (Ev2.some _))
    · have hp := digs_len_pos.2 hy
      refine Ev2.pos (dT (by omega)) (Ev3.ev2 (rgcd_l4 hB hy ly x (fun u v h1 h2 h3 h4 h5 => ?_) x hx (Nat.le_refl _) ho lx rfl))
      rw [← h5]
      exact ih (u + v) (by omega) u v rfl (by omega) (.inl h2) h3 h4
end
theorem rgcd_l1 {B : Nat} (hB : B ≤ 1024) (x : Nat) : ∀ (t y : Nat), x ≠ 0 → y ≠ 0 → t + blen x ≤ 70000 → (digs x).length ≤ B → (digs y).length ≤ B → Ev2 (fun k n => vernierref02_Gcd.l1 k n (t : Int) (digs x) (digs y)) (digs (Nat.gcd x y * 2 ^ t), (0 : Int)) := by
  induction x using Nat.strongRecOn with
  | _ x ih =>
    intro t y hx hy ht lx ly
    have hb := blen_half hx
    refine Ev2.step (fun k n => vernierref02_Gcd.l1_eq k n _ _ _) (Ev2.call (bit0 (by unfold Lb; omega)) ?_)
    have out : (x % 2 = 1 ∨ y % 2 = 1) → Ev2 (fun k n => vernierref02_Gcd.j2 k (t : Int) (digs x) (digs y)) (digs (Nat.gcd x y * 2 ^ t), (0 : Int)) := fun h =>
      Ev2.congr (fun k n => vernierref02_Gcd.j2_eq k _ _ _) (Ev2.inner (rgcd_l3 (t := t) (by omega) (B := B) (by omega) (x + y) x y rfl hx h lx ly))
    by_cases c : x % 2 = 0
    · refine Ev2.pos (bT (by omega)) (Ev2.call (bit0 (by unfold Lb; omega)) ?_)
      by_cases c2 : y % 2 = 0
      · refine Ev2.pos (bT (by omega)) (Ev2.call (down1 (by unfold Lb; omega)) (Ev2.call (down1 (by unfold Lb; omega)) ?_))
        rw [succ_i t (by omega)]
        have := ih (x / 2) (by omega) (t + 1) (y / 2) (by omega) (by omega) (by omega) (Nat.le_trans (digs_len_mono (Nat.div_le_self _ _)) lx) (Nat.le_trans (digs_len_mono (Nat.div_le_self _ _)) ly)
        have e : Nat.gcd x y = 2 * Nat.gcd (x / 2) (y / 2) := by
          rw [← Nat.gcd_mul_left]; congr 1 <;> omega
        rw [e, show 2 * Nat.gcd (x / 2) (y / 2) * 2 ^ t = Nat.gcd (x / 2) (y / 2) * 2 ^ (t + 1) by rw [Nat.pow_succ]; grind]
        exact this
      · exact Ev2.neg (bF (by omega)) (out (by omega))
    · exact Ev2.neg (bF (by omega)) (out (by omega))
theorem rGcd_ev {a b : List Int} (ha : WF a) (hb : WF b) (la : Lb a) (lb : Lb b) : Ev (fun k => vernierref02_Gcd k a b) (if (digs (val a)).length ≤ 1024 ∧ (digs (val b)).length ≤ 1024 then (digs (Nat.gcd (val a) (val b)), (0 : Int)) else (([] : List Int), (5 : Int))) := by
  refine Ev.congr (fun k => vernierref02_Gcd_eq k a b) (Ev.bind (rsize_ev ha la) ?_)
  by_cases c1 : (digs (val a)).length ≤ 1024
  · refine Ev.neg (dF (by omega)) (Ev.bind (rsize_ev hb lb) ?_)
    by_cases c2 : (digs (val b)).length ≤ 1024
    · rw [if_pos ⟨c1, c2⟩]
      refine Ev.neg (dF (by omega)) (Ev.congr (fun k => vernierref02_Gcd.j0_eq k _ _) (Ev.bind (rTrim_ev ha la) (Ev.bind (rTrim_ev hb lb) ?_)))
      by_cases h1 : val a = 0
      · rw [h1, digs_zero, Nat.gcd_zero_left]
        exact Ev.pos (bT rfl) (Ev.some _)
      · have p1 := digs_len_pos.2 h1
        refine Ev.neg (bF (by omega)) ?_
        by_cases h2 : val b = 0
        · rw [h2, digs_zero, Nat.gcd_zero_right]
          exact Ev.pos (bT rfl) (Ev.some _)
        · have p2 := digs_len_pos.2 h2
          have hbl : blen (val a) ≤ 64 * 1024 := blen_len c1
          have := (rgcd_l1 (B := 1024) (by omega) (val a) 0 (val b) h1 h2 (by omega) c1 c2).ev
          rw [Nat.pow_zero, Nat.mul_one] at this
          exact Ev.neg (bF (by omega)) this
    · rw [if_neg (fun h => c2 h.2)]; exact Ev.pos (dT (by omega)) (Ev.some _)
  · rw [if_neg (fun h => c1 h.1)]; exact Ev.pos (dT (by omega)) (Ev.some _)
end Go.Proofs.YtdhndlcijpgjgaaDoor.X
