/- Plain law: the reference's naturals in digits of 32 bits: Trim, Digits, Words, Bits, Left, Right, Cmp, Plus, Minus. Conditions: the lists are short. -/
import Derived.Test.YtmoeaeflljpboaaDoorTpM
namespace Go.Proofs.YtmoeaeflljpboaaDoor.X
open Go Go.Rex
set_option linter.unusedVariables false

theorem cap8 {n : Nat} (h : n ≤ 2000000) : capOk 8 n = true := capOk_of (by omega)
theorem b32 : (4294967296 : Int) = ((4294967296 : Nat) : Int) := rfl
/-- Digits without the zeros at their end. -/
theorem trim_d32 {d : List Int} (h : W32 d) : digs (val d) = d32 (v32 d) := by
  obtain ⟨h1, h2, -⟩ := v32_trim h
  have := d32_val h2 (Neat.digs _)
  rw [h1] at this
  exact this.symm
theorem rTrim3 {d : List Int} (h : W32 d) (hl : d.length ≤ 2000000) : Ev (fun k => vernierref03_Trim k d) (d32 (v32 d)) := by
  rw [← trim_d32 h]
  exact r3Trim_ev h.wf (by unfold Lb; omega)
theorem rDigits {a : List Int} (ha : WF a) (hl : a.length ≤ 1000000) : Ev (fun k => vernierref03_Digits k a) (d32 (val a)) := by
  obtain ⟨e, e1, e2, e3, e4, e5⟩ := r3Dig_ev ha hl
  rw [← e4, d32_val e1 e2]; exact e5
theorem rWords {n : Nat} (hl : (d32 n).length ≤ 1000000) : Ev (fun k => vernierref03_Words k (d32 n)) (digs n) := by
  have := r3Words_ev (W32.d32 n) (by omega)
  rwa [v32_d32] at this
theorem rRight {n t : Nat} (hl : (d32 n).length ≤ 1000000) (ht : t ≤ 30000000) : Ev (fun k => vernierref03_Right k (d32 n) (t : Int)) (d32 (n / 2 ^ t)) := by
  by_cases c : t / 32 ≤ (d32 n).length
  · obtain ⟨e, e1, e2, e3, e4, e5⟩ := r3Right_ev (W32.d32 n) hl (t := t) c
    rw [v32_d32] at e4
    rw [← e4, d32_val e1 e2]; exact e5
  · -- nothing is left
    have ew : IntKind.i64.wrap ((t : Int).tdiv 32) = ((t / 32 : Nat) : Int) := by
      rw [show (32 : Int) = ((32 : Nat) : Int) from rfl, tdiv_nat, wrapI (by omega) (by omega)]
    have es : IntKind.u64.wrap ((t : Int).tmod 32) = ((t % 32 : Nat) : Int) := by
      rw [show (32 : Int) = ((32 : Nat) : Int) from rfl, tmod_nat, wrapUn (by omega)]
    have ei : (t : Int).tdiv 32 = ((t / 32 : Nat) : Int) := by rw [show (32 : Int) = ((32 : Nat) : Int) from rfl, tdiv_nat]
    have hn : n < 2 ^ t := by
      have h1 := d32_len.1 (Nat.le_refl (d32 n).length)
      rw [show (4294967296 : Nat) = 2 ^ 32 from rfl, ← Nat.pow_mul] at h1
      exact Nat.lt_of_lt_of_le h1 (pow_mono2 (by omega))
    rw [Nat.div_eq_of_lt hn, d32_zero]
    have tr := rTrim3 (d := []) (fun x hx => by cases hx) (by simp)
    rw [show v32 [] = 0 from rfl, d32_zero] at tr
    refine Ev.congr (fun k => vernierref03_Right_eq k _ _) ?_
    rw [es, ew]
    exact Ev.pos (by omega) (Ev2.ev (g := fun k m => vernierref03_Right.l0 k m (d32 n) (shlK IntKind.u64 1 ((t % 32 : Nat) : Int)) ((t / 32 : Nat) : Int) []) (Ev2.step (fun k m => vernierref03_Right.l0_eq k m _ _ _ _) (Ev2.neg (dF (by omega)) (Ev2.call tr (Ev2.some _)))))
theorem rBits_l0 (c : Nat) : ∀ (b x : Nat), x < 2 ^ c → c ≤ 64 → b + c ≤ 100000000 → x < 18446744073709551616 → Ev2 (fun k m => vernierref03_Bits.l0 k m (b : Int) (x : Int)) ((b + blen x : Nat) : Int) := by
  induction c with
  | zero =>
    intro b x hx hc hb h64
    have : x = 0 := by simpa using hx
    subst this
    exact Ev2.step (fun k m => vernierref03_Bits.l0_eq k m _ _) (Ev2.neg (dF (by omega)) (Ev2.eq (Ev2.some _) (by rw [show blen 0 = 0 by decide, Nat.add_zero])))
  | succ c ih =>
    intro b x hx hc hb h64
    refine Ev2.step (fun k m => vernierref03_Bits.l0_eq k m _ _) ?_
    by_cases c0 : x = 0
    · subst c0
      exact Ev2.neg (dF (by omega)) (Ev2.eq (Ev2.some _) (by rw [show blen 0 = 0 by decide, Nat.add_zero]))
    · have hd := blen_div_pow c0 1
      rw [Nat.pow_one] at hd
      have hp := blen_pos c0
      have nx := ih (b + 1) (x / 2) (by rw [Nat.pow_succ] at hx; omega) (by omega) (by omega) (by omega)
      rw [show b + 1 + blen (x / 2) = b + blen x by omega] at nx
      have e2 : IntKind.u64.wrap ((x : Int).tdiv 2) = ((x / 2 : Nat) : Int) := by rw [show (2 : Int) = ((2 : Nat) : Int) from rfl, tdiv_nat, wrapUn (by omega)]
      rw [e2, succ_i b (by omega)]
      exact Ev2.pos (dT (by omega)) nx
theorem rBits {n : Nat} (hl : (d32 n).length ≤ 1000000) : Ev (fun k => vernierref03_Bits k (d32 n)) ((blen n : Nat) : Int) := by
  have tr := rTrim3 (W32.d32 n) (by omega)
  rw [v32_d32] at tr
  refine Ev.congr (fun k => vernierref03_Bits_eq k _) (Ev.bind tr ?_)
  by_cases c : n = 0
  · rw [c, d32_zero]
    exact Ev.pos (bT rfl) (Ev.eq (Ev.some _) rfl)
  · have hp := d32_len_pos.2 c
    obtain ⟨x, hx, ex⟩ := (W32.d32 n).getD ((d32 n).length - 1)
    have ht := d32_top c
    have hs := v32_take_succ (d32 n) ((d32 n).length - 1)
    rw [show (d32 n).length - 1 + 1 = (d32 n).length by omega, List.take_length, v32_d32, ex, Int.toNat_natCast] at hs
    have hlt := v32_lt ((W32.d32 n).take ((d32 n).length - 1))
    rw [List.length_take, Nat.min_eq_left (by omega)] at hlt
    have e32 : 4294967296 ^ ((d32 n).length - 1) = 2 ^ (32 * ((d32 n).length - 1)) := by rw [show (4294967296 : Nat) = 2 ^ 32 from rfl, ← Nat.pow_mul]
    have hdiv : n / 2 ^ (32 * ((d32 n).length - 1)) = x := by
      have dv : ∀ {a b c y : Nat}, a = b + c * y → b < c → a / c = y := fun h1 h2 => by rw [h1, Nat.add_mul_div_left _ _ (by omega), Nat.div_eq_of_lt h2, Nat.zero_add]
      rw [← e32]; exact dv hs hlt
    have hb := blen_div_pow c (32 * ((d32 n).length - 1))
    rw [hdiv] at hb
    have hx0 : x ≠ 0 := fun e => by
      rw [e, Nat.mul_zero, Nat.add_zero] at hs
      omega
    have hbp := blen_pos hx0
    have w1 : IntKind.i64.wrap (((d32 n).length : Int) - 1) = (((d32 n).length - 1 : Nat) : Int) := by rw [wrapI (by omega) (by omega)]; omega
    have w2 : IntKind.i64.wrap (32 * (((d32 n).length - 1 : Nat) : Int)) = ((32 * ((d32 n).length - 1) : Nat) : Int) := by rw [wrapI (by omega) (by omega)]; omega
    rw [w1, w2, Int.toNat_natCast, ex]
    have g := (rBits_l0 32 (32 * ((d32 n).length - 1)) x hx (by decide) (by omega) (by omega)).ev
    rw [show 32 * ((d32 n).length - 1) + blen x = blen n by omega] at g
    exact Ev.neg (bF (by omega)) (Ev.pos ⟨by omega, by omega⟩ g)
theorem rCmp3_l0 {a b : List Int} (ha : W32 a) (hb : W32 b) (hab : a.length = b.length) (n : Nat) : n ≤ a.length → a.length ≤ 1000000 → Ev2 (fun k m => vernierref03_Cmp.l0 k m a b ((n : Int) - 1)) (cmpN (v32 (a.take n)) (v32 (b.take n))) := by
  induction n with
  | zero =>
    intro _ _
    refine Ev2.step (fun k m => vernierref03_Cmp.l0_eq k m _ _ _) (Ev2.neg (dF (by omega)) (Ev2.eq (Ev2.some _) ?_))
    simp [v32, cmpN]
  | succ n ih =>
    intro hn hl
    refine Ev2.step (fun k m => vernierref03_Cmp.l0_eq k m _ _ _) ?_
    obtain ⟨x, hx, ex⟩ := ha.getD n
    obtain ⟨y, hy, ey⟩ := hb.getD n
    have la := v32_lt (ha.take n)
    have lb := v32_lt (hb.take n)
    rw [List.length_take, Nat.min_eq_left (by omega)] at la lb
    rw [show (((n + 1 : Nat) : Int) - 1) = (n : Int) by omega, Int.toNat_natCast, v32_take_succ a, v32_take_succ b, ex, ey, Int.toNat_natCast, Int.toNat_natCast]
    refine Ev2.pos (dT (by omega)) (Ev2.pos ⟨by omega, by omega⟩ (Ev2.pos ⟨by omega, by omega⟩ ?_))
    by_cases c1 : x < y
    · refine Ev2.pos (dT (by omega)) (Ev2.eq (Ev2.some _) ?_)
      have := Nat.mul_le_mul_left (4294967296 ^ n) (show x + 1 ≤ y from c1)
      rw [Nat.mul_add] at this
      unfold cmpN; rw [if_pos (by omega)]
    · refine Ev2.neg (dF (by omega)) (Ev2.pos ⟨by omega, by omega⟩ (Ev2.pos ⟨by omega, by omega⟩ ?_))
      by_cases c2 : y < x
      · refine Ev2.pos (dT (by omega)) (Ev2.eq (Ev2.some _) ?_)
        have := Nat.mul_le_mul_left (4294967296 ^ n) (show y + 1 ≤ x from c2)
        rw [Nat.mul_add] at this
        unfold cmpN; rw [if_neg (by omega), if_pos (by omega)]
      · have : x = y := by omega
        have nx := ih (by omega) hl
        refine Ev2.neg (dF (by omega)) ?_
        rw [this, cmpN_add, wrapI (x := (n : Int) - 1) (by omega) (by omega)]
        exact nx
theorem rCmp {n m : Nat} (hn : (d32 n).length ≤ 1000000) (hm : (d32 m).length ≤ 1000000) : Ev (fun k => vernierref03_Cmp k (d32 n) (d32 m)) (cmpN n m) := by
  refine Ev.congr (fun k => vernierref03_Cmp_eq k _ _) ?_
  by_cases c : (d32 n).length = (d32 m).length
  · refine Ev.neg (nF (by omega)) ?_
    have := (rCmp3_l0 (W32.d32 n) (W32.d32 m) c (d32 n).length (Nat.le_refl _) hn).ev
    rw [List.take_length, c, List.take_length, v32_d32, v32_d32] at this
    rw [wrapI (x := ((d32 n).length : Int) - 1) (by omega) (by omega), c]
    exact this
  · refine Ev.pos (nT (by omega)) ?_
    by_cases c2 : (d32 n).length < (d32 m).length
    · refine Ev.pos (dT (by omega)) (Ev.eq (Ev.some _) ?_)
      have : n < m := Nat.lt_of_not_le fun g => by have := d32_mono g; omega
      unfold cmpN; rw [if_pos this]
    · refine Ev.neg (dF (by omega)) (Ev.eq (Ev.some _) ?_)
      have : m < n := Nat.lt_of_not_le fun g => by have := d32_mono g; omega
      unfold cmpN; rw [if_neg (by omega), if_pos this]
theorem rPlus_l0 {a b : List Int} (ha : W32 a) (hb : W32 b) (la : a.length ≤ 500000) (lb : b.length ≤ 500000) (n : Nat) : ∀ (i c : Nat) (o : List Int), i + n = max a.length b.length → c ≤ 1 → W32 o → o.length = i → v32 o + 4294967296 ^ i * c = v32 (a.take i) + v32 (b.take i) →
    Ev2 (fun k m => vernierref03_Plus.l0 k m a b ((max a.length b.length : Nat) : Int) (c : Int) (i : Int) o) (d32 (v32 a + v32 b)) := by
  induction n with
  | zero =>
    intro i c o hi hc ho hl hv
    rw [List.take_of_length_le (by omega), List.take_of_length_le (by omega)] at hv
    refine Ev2.step (fun k m => vernierref03_Plus.l0_eq k m _ _ _ _ _ _) (Ev2.neg (dF (by omega)) ?_)
    rw [one_set]
    have t := rTrim3 (ho.snoc (x := c) (by omega)) (by simp; omega)
    rw [v32_snoc, hl, hv] at t
    exact Ev2.pos (cap8 (by simp; omega)) (Ev2.call t (Ev2.some _))
  | succ n ih =>
    intro i c o hi hc ho hl hv
    obtain ⟨x, hx, ex⟩ := ha.getD i
    obtain ⟨y, hy, ey⟩ := hb.getD i
    have e := Nat.div_add_mod (c + x + y) 4294967296
    have st : v32 o + 4294967296 ^ i * ((c + x + y) % 4294967296) + 4294967296 ^ i * 4294967296 * ((c + x + y) / 4294967296) = (v32 (a.take i) + 4294967296 ^ i * x) + (v32 (b.take i) + 4294967296 ^ i * y) := by
      have h1 : 4294967296 ^ i * (c + x + y) = 4294967296 ^ i * (4294967296 * ((c + x + y) / 4294967296)) + 4294967296 ^ i * ((c + x + y) % 4294967296) := by rw [← Nat.mul_add, e]
      rw [← Nat.mul_assoc] at h1
      have h2 : 4294967296 ^ i * (c + x + y) = 4294967296 ^ i * c + 4294967296 ^ i * x + 4294967296 ^ i * y := by rw [Nat.mul_add, Nat.mul_add]
      omega
    have nx := ih (i + 1) ((c + x + y) / 4294967296) (o ++ [(((c + x + y) % 4294967296 : Nat) : Int)]) (by omega) (by omega) (ho.snoc (by omega)) (by simp; omega) (by
      rw [v32_snoc, hl, v32_take_succ, v32_take_succ, ex, ey, Int.toNat_natCast, Int.toNat_natCast, Nat.pow_succ]; exact st)
    refine Ev2.step (fun k m => vernierref03_Plus.l0_eq k m _ _ _ _ _ _) (Ev2.pos (dT (by omega)) ?_)
    rw [Int.toNat_natCast, ex, ey, ← Int.natCast_add c x, wrapUn (n := c + x) (by omega), ← Int.natCast_add (c + x) y, wrapUn (n := c + x + y) (by omega), ← Int.natCast_add c y, wrapUn (n := c + y) (by omega), b32, tdiv_nat, tdiv_nat, tdiv_nat, tdiv_nat, tmod_nat, tmod_nat, tmod_nat, tmod_nat, wrapUn (n := (c + x + y) / 4294967296) (by omega), wrapUn (n := (c + x) / 4294967296) (by omega), wrapUn (n := (c + y) / 4294967296) (by omega), wrapUn (n := c / 4294967296) (by omega), one_set, one_set, one_set, one_set, succ_i i (by omega)]
    by_cases ca : i < a.length
    · refine Ev2.pos (dT (by omega)) (Ev2.pos ⟨by omega, by omega⟩ ?_)
      by_cases cb : i < b.length
      · exact Ev2.pos (dT (by omega)) (Ev2.pos ⟨by omega, by omega⟩ (Ev2.pos (cap8 (by simp; omega)) nx))
      · have y0 : y = 0 := by rw [getD_ge b (by omega)] at ey; omega
        subst y0
        exact Ev2.neg (dF (by omega)) (Ev2.pos (cap8 (by simp; omega)) nx)
    · have x0 : x = 0 := by rw [getD_ge a (by omega)] at ex; omega
      subst x0
      rw [Nat.add_zero] at nx
      refine Ev2.neg (dF (by omega)) ?_
      by_cases cb : i < b.length
      · exact Ev2.pos (dT (by omega)) (Ev2.pos ⟨by omega, by omega⟩ (Ev2.pos (cap8 (by simp; omega)) nx))
      · have y0 : y = 0 := by rw [getD_ge b (by omega)] at ey; omega
        subst y0
        exact Ev2.neg (dF (by omega)) (Ev2.pos (cap8 (by simp; omega)) nx)
theorem rPlus {n m : Nat} (hn : (d32 n).length ≤ 500000) (hm : (d32 m).length ≤ 500000) : Ev (fun k => vernierref03_Plus k (d32 n) (d32 m)) (d32 (n + m)) := by
  have := (rPlus_l0 (W32.d32 n) (W32.d32 m) hn hm (max (d32 n).length (d32 m).length) 0 0 [] (by omega) (by omega) (by intro x hx; cases hx) rfl (by simp [v32])).ev
  rw [v32_d32, v32_d32] at this
  refine Ev.congr (fun k => vernierref03_Plus_eq k _ _) ?_
  have emx : mxI ((d32 n).length : Int) ((d32 m).length : Int) = ((max (d32 n).length (d32 m).length : Nat) : Int) := by unfold mxI; split <;> omega
  rw [emx, succ_i _ (by omega), List.take_zero]
  exact Ev.pos ⟨by omega, by omega, by omega⟩ this
theorem rMinus_l0 {a b : List Int} (ha : W32 a) (hb : W32 b) (la : a.length ≤ 500000) (lb : b.length ≤ a.length) (hle : v32 b ≤ v32 a) (n : Nat) : ∀ (i c : Nat) (o : List Int), i + n = a.length → c ≤ 1 → W32 o → o.length = a.length → v32 (o.take i) + v32 (b.take i) = v32 (a.take i) + 4294967296 ^ i * c →
    Ev2 (fun k m => vernierref03_Minus.l0 k m a b (c : Int) (i : Int) o) (d32 (v32 a - v32 b)) := by
  induction n with
  | zero =>
    intro i c o hi hc ho hl hv
    rw [List.take_of_length_le (by omega), List.take_of_length_le (by omega), List.take_of_length_le (by omega)] at hv
    have lo := v32_lt ho
    rw [hl, show a.length = i by omega] at lo
    have c0 : c = 0 := by
      rcases Nat.eq_zero_or_pos c with g | g
      · exact g
      · have : c = 1 := by omega
        subst this
        omega
    subst c0
    refine Ev2.step (fun k m => vernierref03_Minus.l0_eq k m _ _ _ _ _) (Ev2.neg (dF (by omega)) ?_)
    have t := rTrim3 ho (by omega)
    rw [show v32 o = v32 a - v32 b by omega] at t
    exact Ev2.call t (Ev2.some _)
  | succ n ih =>
    intro i c o hi hc ho hl hv
    obtain ⟨x, hx, ex⟩ := ha.getD i
    obtain ⟨y, hy, ey⟩ := hb.getD i
    have sa := v32_take_succ a i
    have sb := v32_take_succ b i
    rw [ex, Int.toNat_natCast] at sa
    rw [ey, Int.toNat_natCast] at sb
    have ps : 4294967296 ^ (i + 1) = 4294967296 ^ i * 4294967296 := Nat.pow_succ _ _
    have st : ∀ z : Nat, v32 ((o.set i (z : Int)).take (i + 1)) = v32 (o.take i) + 4294967296 ^ i * z := fun z => by
      rw [v32_take_succ, List.take_set_of_le (Nat.le_refl i)]
      congr 2
      rw [List.getD_eq_getElem?_getD, List.getElem?_set_self (by omega)]
      simp
    have low : x < c + y → Ev2 (fun k m => vernierref03_Minus.l0 k m a b 1 ((i + 1 : Nat) : Int) (o.set i ((x + 4294967296 - (c + y) : Nat) : Int))) (d32 (v32 a - v32 b)) := fun g => by
      refine ih (i + 1) 1 _ (by omega) (by omega) (ho.set i (by omega)) (by rw [List.length_set]; exact hl) ?_
      rw [st, sa, sb, ps]
      obtain ⟨z, hz⟩ : ∃ z, x + 4294967296 = z + (c + y) := ⟨x + 4294967296 - (c + y), by omega⟩
      rw [show x + 4294967296 - (c + y) = z by omega]
      have := congrArg (4294967296 ^ i * ·) hz
      simp only [Nat.mul_add] at this
      omega
    have high : c + y ≤ x → Ev2 (fun k m => vernierref03_Minus.l0 k m a b 0 ((i + 1 : Nat) : Int) (o.set i ((x - (c + y) : Nat) : Int))) (d32 (v32 a - v32 b)) := fun g => by
      refine ih (i + 1) 0 _ (by omega) (by omega) (ho.set i (by omega)) (by rw [List.length_set]; exact hl) ?_
      rw [st, sa, sb, ps]
      obtain ⟨z, hz⟩ : ∃ z, x = z + (c + y) := ⟨x - (c + y), by omega⟩
      rw [show x - (c + y) = z by omega]
      have := congrArg (4294967296 ^ i * ·) hz
      simp only [Nat.mul_add] at this
      omega
    refine Ev2.step (fun k m => vernierref03_Minus.l0_eq k m _ _ _ _ _) (Ev2.pos (dT (by omega)) ?_)
    rw [Int.toNat_natCast, ex, ey, ← Int.natCast_add c y, wrapUn (n := c + y) (by omega), show ((x : Int) + 4294967296) = ((x + 4294967296 : Nat) : Int) by omega, wrapUn (n := x + 4294967296) (by omega), succ_i i (by omega)]
    by_cases cb : i < b.length
    · refine Ev2.pos (dT (by omega)) (Ev2.pos ⟨by omega, by omega⟩ (Ev2.pos ⟨by omega, by omega⟩ ?_))
      by_cases g : x < c + y
      · have e : IntKind.u64.wrap (((x + 4294967296 : Nat) : Int) - ((c + y : Nat) : Int)) = ((x + 4294967296 - (c + y) : Nat) : Int) := by rw [show ((x + 4294967296 : Nat) : Int) - ((c + y : Nat) : Int) = ((x + 4294967296 - (c + y) : Nat) : Int) by omega, wrapUn (by omega)]
        rw [e]
        exact Ev2.pos (dT (by omega)) (Ev2.pos ⟨by omega, by omega⟩ (low g))
      · have e : IntKind.u64.wrap ((x : Int) - ((c + y : Nat) : Int)) = ((x - (c + y) : Nat) : Int) := by rw [show (x : Int) - ((c + y : Nat) : Int) = ((x - (c + y) : Nat) : Int) by omega, wrapUn (by omega)]
        rw [e]
        exact Ev2.neg (dF (by omega)) (Ev2.pos ⟨by omega, by omega⟩ (high (by omega)))
    · have y0 : y = 0 := by rw [getD_ge b (by omega)] at ey; omega
      subst y0
      refine Ev2.neg (dF (by omega)) (Ev2.pos ⟨by omega, by omega⟩ ?_)
      by_cases g : x < c + 0
      · have e : IntKind.u64.wrap (((x + 4294967296 : Nat) : Int) - (c : Int)) = ((x + 4294967296 - (c + 0) : Nat) : Int) := by rw [show ((x + 4294967296 : Nat) : Int) - (c : Int) = ((x + 4294967296 - (c + 0) : Nat) : Int) by omega, wrapUn (by omega)]
        rw [e]
        exact Ev2.pos (dT (by omega)) (Ev2.pos ⟨by omega, by omega⟩ (low g))
      · have e : IntKind.u64.wrap ((x : Int) - (c : Int)) = ((x - (c + 0) : Nat) : Int) := by rw [show (x : Int) - (c : Int) = ((x - (c + 0) : Nat) : Int) by omega, wrapUn (by omega)]
        rw [e]
        exact Ev2.neg (dF (by omega)) (Ev2.pos ⟨by omega, by omega⟩ (high (by omega)))
theorem rMinus {n m : Nat} (hn : (d32 n).length ≤ 500000) (h : m ≤ n) : Ev (fun k => vernierref03_Minus k (d32 n) (d32 m)) (d32 (n - m)) := by
  have := (rMinus_l0 (W32.d32 n) (W32.d32 m) hn (d32_mono h) (by rw [v32_d32, v32_d32]; exact h) (d32 n).length 0 0 (List.replicate (d32 n).length 0) (by omega) (by omega) (W32.replicate _) (by simp) (by simp [v32])).ev
  rw [v32_d32, v32_d32] at this
  refine Ev.congr (fun k => vernierref03_Minus_eq k _ _) ?_
  rw [Int.toNat_natCast]
  exact Ev.pos ⟨by omega, by omega⟩ this
theorem rLeft_l0 {a : List Int} (ha : W32 a) (la : a.length ≤ 500000) {t q s : Nat} (ht : t = 32 * q + s) (hs : s < 32) (hq : q ≤ 400000) (n : Nat) : ∀ (i c : Nat) (o : List Int), i + n = a.length → c < 2 ^ s → W32 o → o.length = q + i → v32 o + 4294967296 ^ (q + i) * c = v32 (a.take i) * 2 ^ t →
    Ev2 (fun k m => vernierref03_Left.l0 k m a ((2 ^ s : Nat) : Int) (c : Int) (i : Int) o) (d32 (v32 a * 2 ^ t)) := by
  have s31 : 2 ^ s ≤ 2 ^ 31 := pow_mono2 (by omega)
  have h31 : (2 : Nat) ^ 31 = 2147483648 := rfl
  induction n with
  | zero =>
    intro i c o hi hc ho hl hv
    rw [List.take_of_length_le (by omega)] at hv
    refine Ev2.step (fun k m => vernierref03_Left.l0_eq k m _ _ _ _ _) (Ev2.neg (dF (by omega)) ?_)
    rw [one_set]
    have t := rTrim3 (ho.snoc (x := c) (by omega)) (by simp; omega)
    rw [v32_snoc, hl, hv] at t
    exact Ev2.pos (cap8 (by simp; omega)) (Ev2.call t (Ev2.some _))
  | succ n ih =>
    intro i c o hi hc ho hl hv
    obtain ⟨x, hx, ex⟩ := ha.getD i
    have hsum : x * 2 ^ s + c < 4294967296 * 2 ^ s := by
      have := Nat.mul_le_mul_right (2 ^ s) (show x + 1 ≤ 4294967296 from hx)
      rw [Nat.add_mul, Nat.one_mul] at this; omega
    have hlt : x * 2 ^ s + c < 18446744073709551616 := by
      have := Nat.mul_le_mul_left 4294967296 s31; omega
    have nx := ih (i + 1) ((x * 2 ^ s + c) / 4294967296) (o ++ [(((x * 2 ^ s + c) % 4294967296 : Nat) : Int)]) (by omega) (Nat.div_lt_of_lt_mul hsum) (ho.snoc (by omega)) (by simp; omega) (by
      rw [v32_snoc, hl, v32_take_succ, ex, Int.toNat_natCast, Nat.add_mul, ← hv, ← Nat.add_assoc q i 1, Nat.pow_succ]
      have e := Nat.div_add_mod (x * 2 ^ s + c) 4294967296
      generalize (x * 2 ^ s + c) / 4294967296 = hi' at *
      generalize (x * 2 ^ s + c) % 4294967296 = lo at *
      have pw : 4294967296 ^ i * x * 2 ^ t = 4294967296 ^ (q + i) * (x * 2 ^ s) := by
        rw [ht, Nat.pow_add 2, Nat.pow_mul, show (2 : Nat) ^ 32 = 4294967296 from rfl, Nat.pow_add]
        simp only [Nat.mul_assoc, Nat.mul_comm, Nat.mul_left_comm]
      rw [pw]
      generalize 4294967296 ^ (q + i) = P at *
      have := congrArg (P * ·) e
      simp only [Nat.mul_add] at this
      rw [Nat.mul_assoc P 4294967296]
      omega)
    refine Ev2.step (fun k m => vernierref03_Left.l0_eq k m _ _ _ _ _) ?_
    rw [Int.toNat_natCast, ex, mulu_nat x (2 ^ s) (by omega), ← Int.natCast_add (x * 2 ^ s) c, wrapUn (n := x * 2 ^ s + c) hlt, b32, tdiv_nat, tmod_nat, wrapUn (n := (x * 2 ^ s + c) / 4294967296) (by omega), one_set, one_set, succ_i i (by omega)]
    exact Ev2.pos (dT (by omega)) (Ev2.pos ⟨by omega, by omega⟩ (Ev2.pos (cap8 (by simp; omega)) nx))
theorem rLeft {n t : Nat} (hn : (d32 n).length ≤ 400000) (ht : t ≤ 3000000) : Ev (fun k => vernierref03_Left k (d32 n) (t : Int)) (d32 (n * 2 ^ t)) := by
  refine Ev.congr (fun k => vernierref03_Left_eq k _ _) ?_
  have ed : IntKind.i64.wrap ((t : Int).tdiv 32) = ((t / 32 : Nat) : Int) := by rw [show (32 : Int) = ((32 : Nat) : Int) from rfl, tdiv_nat, wrapI (by omega) (by omega)]
  have es : IntKind.u64.wrap ((t : Int).tmod 32) = ((t % 32 : Nat) : Int) := by rw [show (32 : Int) = ((32 : Nat) : Int) from rfl, tmod_nat, wrapUn (by omega)]
  have hp31 : 2 ^ (t % 32) ≤ 2 ^ 31 := Nat.pow_le_pow_right (by decide) (by omega)
  have h31 : (2 : Nat) ^ 31 = 2147483648 := rfl
  have sh := shlK_exact 1 (t % 32) (by omega) (by omega)
  rw [show ((1 : Nat) : Int) = 1 from rfl, Nat.one_mul] at sh
  have e2 : IntKind.i64.wrap (((t / 32 : Nat) : Int) + ((d32 n).length : Int)) = ((t / 32 + (d32 n).length : Nat) : Int) := by rw [wrapI (by omega) (by omega)]; omega
  rw [ed, es, sh, e2, succ_i _ (by omega), Int.toNat_natCast, Int.toNat_natCast]
  have l0 := (rLeft_l0 (W32.d32 n) (by omega) (t := t) (q := t / 32) (s := t % 32) (by omega) (by omega) (by omega) (d32 n).length 0 0 ((List.replicate (t / 32 + (d32 n).length + 1) (0 : Int)).take (t / 32)) (by omega) (Nat.two_pow_pos _) ((W32.replicate _).take _) (by simp; omega) (by rw [List.take_replicate]; simp [v32, v32_replicate])).ev
  rw [v32_d32] at l0
  exact Ev.pos ⟨by omega, by omega, by omega⟩ (Ev.pos (by omega) l0)
end Go.Proofs.YtmoeaeflljpboaaDoor.X
