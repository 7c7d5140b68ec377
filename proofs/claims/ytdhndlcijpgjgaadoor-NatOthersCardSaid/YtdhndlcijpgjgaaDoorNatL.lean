/- Plain law: what Parse and Power of naturals answer, by the numbers. Conditions: the words are words; the texts are texts. -/
import Derived.Test.YtdhndlcijpgjgaaDoorNatK
namespace Go.Proofs.YtdhndlcijpgjgaaDoor.X
open Go Go.Rex
set_option linter.unusedVariables false

/-! ### timesPlus -/
theorem tp_arith {P A B x m c c0 lo hi s d : Nat} (h1 : lo + 18446744073709551616 * hi = x * m) (h2 : s + 18446744073709551616 * d = lo + c) (hv : A + P * c = B * m + c0) : A + P * s + P * 18446744073709551616 * (hi + d) = (B + P * x) * m + c0 := by
  have e1 : P * 18446744073709551616 * (hi + d) + P * s = P * (18446744073709551616 * hi + (s + 18446744073709551616 * d)) := by grind
  rw [h2] at e1
  have e2 : P * (18446744073709551616 * hi + (lo + c)) = P * (x * m) + P * c := by rw [← h1]; grind
  have e3 : (B + P * x) * m = B * m + P * (x * m) := by grind
  omega
theorem tp_l0 {x : List Int} (hx : WF x) (hl : x.length ≤ 1000000) {m c0 : Nat} (hm : m < 18446744073709551616) (hc0 : c0 < 18446744073709551616) (n : Nat) : ∀ (i c : Nat) (p : List Int), i + n = x.length → c < 18446744073709551616 → WF p → p.length = x.length → (∀ j, i ≤ j → p.getD j 0 = x.getD j 0) → val (p.take i) + 18446744073709551616 ^ i * c = val (x.take i) * m + c0 →
    ∃ y, WF y ∧ val y = val x * m + c0 ∧ y.length ≤ x.length + 1 ∧ Ev2 (fun k l => nat_timesPlus.l0 k l (m : Int) (c : Int) (x.length : Int) (i : Int) p) y := by
  induction n with
  | zero =>
    intro i c p hi hc hp hpl hg hv
    have hi' : i = x.length := by omega
    rw [List.take_of_length_le (by omega), List.take_of_length_le (by omega)] at hv
    by_cases h0 : c = 0
    · subst h0
      refine ⟨p, hp, by omega, by omega, Ev2.step (fun k l => nat_timesPlus.l0_eq k l _ _ _ _ _) (Ev2.neg (dF (by omega)) (Ev2.neg (nF rfl) (Ev2.some _)))⟩
    · refine ⟨p ++ ((List.replicate 1 (0 : Int)).set 0 (c : Int)), hp.append (WF.cons (by omega) (by omega) WF.nil), ?_, by simp; omega, Ev2.step (fun k l => nat_timesPlus.l0_eq k l _ _ _ _ _) (Ev2.neg (dF (by omega)) (Ev2.pos (nT (by omega)) (Ev2.pos (capOk_of (by simp; omega)) (Ev2.some _))))⟩
      rw [val_append, show val ((List.replicate 1 (0 : Int)).set 0 (c : Int)) = c by simp [val], hpl, ← hi', hv]
  | succ n ih =>
    intro i c p hi hc hp hpl hg hv
    have rx := hx.getD i
    obtain ⟨w, ew⟩ := Int.eq_ofNat_of_zero_le rx.1
    have hw : w < 18446744073709551616 := by omega
    have hm1 := mul64_ev hw hm
    have hlo := Nat.mod_add_div (w * m) 18446744073709551616
    have hlt : w * m / 18446744073709551616 < 18446744073709551615 := by
      have := mul_lt' hw hm; omega
    have hml := Nat.mod_lt (w * m) (show 0 < 18446744073709551616 by decide)
    have ha := add64_ev (x := w * m % 18446744073709551616) (y := c) (c := 0) (by omega)
    have hs := Nat.mod_add_div (w * m % 18446744073709551616 + c + 0) 18446744073709551616
    have hsl := Nat.mod_lt (w * m % 18446744073709551616 + c + 0) (show 0 < 18446744073709551616 by decide)
    have hd1 : (w * m % 18446744073709551616 + c + 0) / 18446744073709551616 ≤ 1 := by omega
    have key := tp_arith (P := 18446744073709551616 ^ i) (A := val (p.take i)) (B := val (x.take i)) (x := w) (m := m) (c := c) (c0 := c0) hlo (by rw [Nat.add_zero] at hs; exact hs) hv
    generalize w * m / 18446744073709551616 = hi' at *
    generalize w * m % 18446744073709551616 = lo at *
    rw [Nat.add_zero] at *
    generalize (lo + c) / 18446744073709551616 = d at *
    generalize (lo + c) % 18446744073709551616 = s at *
    have hpl' : (p.set i (s : Int)).length = x.length := by rw [List.length_set]; exact hpl
    obtain ⟨y, y1, y2, y3, y4⟩ := ih (i + 1) (hi' + d) (p.set i (s : Int)) (by omega) (by omega) (hp.set _ (by omega) (by omega)) hpl' (fun j hj => by rw [Rex.getD_set_ne p (by omega)]; exact hg j (by omega)) (by
      rw [take_set_succ p (by omega), take_succ_val x (by omega), ew, Int.toNat_natCast, Int.toNat_natCast, pow_s]
      exact key)
    refine ⟨y, y1, y2, y3, Ev2.step (fun k l => nat_timesPlus.l0_eq k l _ _ _ _ _) ?_⟩
    rw [Int.toNat_natCast, hg i (Nat.le_refl i), ew, succ_i i (by omega)]
    refine Ev2.pos (dT (by omega)) (Ev2.pos ⟨by omega, by omega⟩ (Ev2.call hm1 (Ev2.call ha (Ev2.pos ⟨by omega, by omega⟩ ?_))))
    show Ev2 (fun k l => nat_timesPlus.l0 k l (m : Int) (IntKind.u64.wrap ((hi' : Int) + (d : Int))) (x.length : Int) ((i + 1 : Nat) : Int) (p.set i (s : Int))) y
    rw [show ((hi' : Int) + (d : Int)) = ((hi' + d : Nat) : Int) by omega, wrapUn (by omega)]
    exact y4
theorem tp_ev {x : List Int} (hx : WF x) (hl : x.length ≤ 1000000) {m c : Nat} (hm : m < 18446744073709551616) (hc : c < 18446744073709551616) :
    ∃ y, WF y ∧ val y = val x * m + c ∧ y.length ≤ x.length + 1 ∧ Ev (fun k => nat_timesPlus k x (m : Int) (c : Int)) y := by
  obtain ⟨y, y1, y2, y3, y4⟩ := tp_l0 hx hl hm hc x.length 0 c x (by omega) hc hx rfl (fun _ _ => rfl) (by simp [val])
  exact ⟨y, y1, y2, y3, Ev.congr (fun k => nat_timesPlus_eq k _ _ _) y4.ev⟩
/-! ### Parse -/
/-- Digits alone. -/
def Dig (l : List Int) : Prop := ∀ x ∈ l, 48 ≤ x ∧ x ≤ 57
theorem Dig.getD {l : List Int} (h : Dig l) {i : Nat} (hi : i < l.length) : 48 ≤ l.getD i 0 ∧ l.getD i 0 ≤ 57 := by
  rw [List.getD_eq_getElem?_getD, List.getElem?_eq_getElem hi]
  exact h _ (List.getElem_mem _)
theorem Dig.drop {l : List Int} (h : Dig l) (n : Nat) : Dig (l.drop n) := fun x hx => h x (List.mem_of_mem_drop hx)
theorem Dig.take {l : List Int} (h : Dig l) (n : Nat) : Dig (l.take n) := fun x hx => h x (List.mem_of_mem_take hx)
theorem dval_take_succ {l : List Int} {i : Nat} (hi : i < l.length) : dval (l.take (i + 1)) = 10 * dval (l.take i) + (l.getD i 0 - 48).toNat := by
  rw [List.take_add_one, dval_append]
  have e : l[i]?.toList = [l.getD i 0] := by simp [List.getD_eq_getElem?_getD, List.getElem?_eq_getElem hi]
  rw [e]
  simp [dval]; omega
theorem parse_l2 {s : ByteArray} (hd : Dig (bl s)) (hs : s.size ≤ 20000) {n : Nat} (hn : n ≤ 19) (hns : n ≤ s.size) {x : List Int} {r : List Int × Int}
    (hr : Ev2 (fun k n0 => ((nat_timesPlus k x ((10 ^ n : Nat) : Int) ((dval ((bl s).take n) : Nat) : Int))).bind fun o2 => nat_Parse.l1 k n0 (s.extract n s.size) o2) r) (m : Nat) : ∀ i : Nat, i + m = n →
    Ev3 (fun k n0 l => nat_Parse.l2 k n0 l s (n : Int) ((dval ((bl s).take i) : Nat) : Int) ((10 ^ i : Nat) : Int) (n : Int) (i : Int) x) r := by
  have hbl := bl_length s
  induction m with
  | zero =>
    intro i hi
    obtain rfl : i = n := by omega
    refine Ev3.step (fun k n0 l => nat_Parse.l2_eq k n0 l _ _ _ _ _ _ _) (Ev3.neg (dF (by omega)) (Ev3.pos ⟨by omega, by omega⟩ ?_))
    rw [Int.toNat_natCast]
    exact Ev2.ev3 hr
  | succ m ih =>
    intro i hi
    refine Ev3.step (fun k n0 l => nat_Parse.l2_eq k n0 l _ _ _ _ _ _ _) (Ev3.pos (dT (by omega)) (Ev3.pos ⟨by omega, by omega⟩ ?_))
    have hg := hd.getD (i := i) (by omega)
    have hv := dval_lt (l := (bl s).take i) (hd.take i)
    rw [List.length_take, Nat.min_eq_left (by omega)] at hv
    have hp : 10 ^ i ≤ 10 ^ 18 := Nat.pow_le_pow_right (by decide) (by omega)
    have hv2 : dval ((bl s).take i) < 1000000000000000000 := Nat.lt_of_lt_of_le hv hp
    have hp2 : 10 ^ i ≤ 1000000000000000000 := hp
    have e3 := dval_take_succ (l := bl s) (i := i) (by omega)
    have e1 : IntKind.u64.wrap ((IntKind.u64.wrap (10 * ((dval ((bl s).take i) : Nat) : Int))) + (IntKind.u64.wrap (IntKind.u8.wrap ((bt s (i : Int)) - 48)))) = ((dval ((bl s).take (i + 1)) : Nat) : Int) := by
      rw [bt_bl, Int.toNat_natCast, wrap_u8, e3, wrap_u64, wrap_u64, wrap_u64]
      omega
    have e2 : IntKind.u64.wrap (((10 ^ i : Nat) : Int) * 10) = ((10 ^ (i + 1) : Nat) : Int) := by
      rw [Nat.pow_succ, show (((10 ^ i : Nat) : Int) * 10) = ((10 ^ i * 10 : Nat) : Int) by omega, wrapUn (by omega)]
    rw [e1, e2, succ_i i (by omega)]
    exact ih (i + 1) (by omega)
theorem parse_l1 (L : Nat) : ∀ (s : ByteArray) (x : List Int), s.size = L → Dig (bl s) → L ≤ 20000 → WF x → x.length + L ≤ 50000 →
    Ev2 (fun k l => nat_Parse.l1 k l s x) (if (digs (val x * 10 ^ L + dval (bl s))).length ≤ 1024 then (digs (val x * 10 ^ L + dval (bl s)), (0 : Int)) else (([] : List Int), (5 : Int))) := by
  induction L using Nat.strongRecOn with
  | _ L ih =>
    intro s x hs hd hL hx hxl
    have hbl := bl_length s
    refine Ev2.step (fun k l => nat_Parse.l1_eq k l _ _) ?_
    by_cases h0 : L = 0
    · have hb0 : bl s = [] := List.length_eq_zero_iff.1 (by omega)
      rw [hb0, h0, show dval [] = 0 from rfl, Nat.pow_zero, Nat.mul_one, Nat.add_zero, set1]
      refine Ev2.neg (dF (by omega)) ?_
      by_cases c : (digs (val x)).length ≤ 1024
      · rw [if_pos c]
        exact Ev2.call (Ev.eq (great_ev (l := [x]) (fun y hy => by simp at hy; subst hy; exact ⟨hx, by unfold Lb; omega⟩) (by simp)) (r' := false) (by simp; omega)) (Ev2.neg (by simp) (Ev2.call (trim_ev hx (by unfold Lb; omega)) (Ev2.some _)))
      · rw [if_neg c]
        exact Ev2.call (Ev.eq (great_ev (l := [x]) (fun y hy => by simp at hy; subst hy; exact ⟨hx, by unfold Lb; omega⟩) (by simp)) (r' := true) (by simp; omega)) (Ev2.pos rfl (Ev2.some _))
    · refine Ev2.pos (dT (by omega)) ?_
      obtain ⟨n, hn⟩ : ∃ n, (L - 1) % 19 + 1 = n := ⟨_, rfl⟩
      have hn19 : n ≤ 19 := by omega
      have hnL : n ≤ L := by omega
      have en : IntKind.i64.wrap (((IntKind.i64.wrap ((s.size : Int) - 1)).tmod 19) + 1) = (n : Int) := by
        rw [hs, wrapI (x := (L : Int) - 1) (by omega) (by omega), show ((L : Int) - 1) = ((L - 1 : Nat) : Int) by omega, show (19 : Int) = ((19 : Nat) : Int) from rfl, tmod_nat, wrapI (by omega) (by omega)]
        omega
      rw [en]
      have hp : 10 ^ n ≤ 10 ^ 19 := Nat.pow_le_pow_right (by decide) hn19
      have hp2 : 10 ^ n ≤ 10000000000000000000 := hp
      have hv := dval_lt (l := (bl s).take n) (hd.take n)
      rw [List.length_take, Nat.min_eq_left (by omega)] at hv
      obtain ⟨y, y1, y2, y3, y4⟩ := tp_ev (x := x) hx (by omega) (m := 10 ^ n) (c := dval ((bl s).take n)) (by omega) (by omega)
      have hex : (s.extract n s.size).size = L - n := by
        rw [← bl_length, bl_extract, List.length_take, List.length_drop]; omega
      have hbe : bl (s.extract n s.size) = (bl s).drop n := by
        rw [bl_extract, List.take_of_length_le (by rw [List.length_drop]; omega)]
      have hrec := ih (L - n) (by omega) (s.extract n s.size) y hex (by rw [hbe]; exact hd.drop n) (by omega) y1 (by omega)
      have hval : val y * 10 ^ (L - n) + dval (bl (s.extract n s.size)) = val x * 10 ^ L + dval (bl s) := by
        rw [y2, hbe]
        have e1 := dval_append ((bl s).take n) ((bl s).drop n)
        rw [List.take_append_drop, List.length_drop, hbl, hs] at e1
        rw [e1, show L = n + (L - n) by omega, Nat.pow_add, show n + (L - n) - n = L - n by omega]
        generalize 10 ^ (L - n) = q
        grind
      rw [hval] at hrec
      have := parse_l2 (s := s) hd (by omega) hn19 (by omega) (x := x) (Ev2.call y4 hrec) n 0 (by omega)
      exact Ev3.ev2 this
theorem parse_l0 {s : ByteArray} (hs : s.size ≤ 20000) (m : Nat) : ∀ i : Nat, i + m = s.size → Dig ((bl s).take i) → 
    (Dig (bl s) → Ev2 (fun k l => nat_Parse.l0 k l s (s.size : Int) (i : Int)) (if (digs (dval (bl s))).length ≤ 1024 then (digs (dval (bl s)), (0 : Int)) else (([] : List Int), (5 : Int)))) ∧
    (¬ Dig (bl s) → Ev2 (fun k l => nat_Parse.l0 k l s (s.size : Int) (i : Int)) (([] : List Int), (8 : Int))) := by
  have hbl := bl_length s
  induction m with
  | zero =>
    intro i hi hd
    rw [List.take_of_length_le (by omega)] at hd
    refine ⟨fun _ => ?_, fun h => absurd hd h⟩
    refine Ev2.step (fun k l => nat_Parse.l0_eq k l _ _ _) (Ev2.neg (dF (by omega)) ?_)
    have e1 : IntKind.i64.wrap ((IntKind.i64.wrap ((s.size : Int).tdiv 19)) + 2) = ((s.size / 19 + 2 : Nat) : Int) := by
      rw [show (19 : Int) = ((19 : Nat) : Int) from rfl, tdiv_nat, wrapI (x := ((s.size / 19 : Nat) : Int)) (by omega) (by omega), wrapI (by omega) (by omega)]; omega
    rw [e1]
    refine Ev2.pos ⟨by omega, by omega, by omega⟩ ?_
    rw [List.take_zero]
    have := parse_l1 s.size s [] rfl hd hs WF.nil (by simp; omega)
    rw [show val [] = 0 from rfl, Nat.zero_mul, Nat.zero_add] at this
    exact Ev2.inner this
  | succ m ih =>
    intro i hi hd
    have ilt : i < (bl s).length := by omega
    have e0 : bt s (i : Int) = (bl s).getD i 0 := by rw [bt_bl]; rfl
    have step : ∀ r, ((bl s).getD i 0 < 48 → r = (([] : List Int), (8 : Int))) → (57 < (bl s).getD i 0 → r = (([] : List Int), (8 : Int))) → (48 ≤ (bl s).getD i 0 → (bl s).getD i 0 ≤ 57 → Ev2 (fun k l => nat_Parse.l0 k l s (s.size : Int) ((i + 1 : Nat) : Int)) r) →
        Ev2 (fun k l => nat_Parse.l0 k l s (s.size : Int) (i : Int)) r := by
      intro r h1 h2 h3
      refine Ev2.step (fun k l => nat_Parse.l0_eq k l _ _ _) ?_
      rw [e0, succ_i i (by omega)]
      refine Ev2.pos (dT (by omega)) (Ev2.pos ⟨by omega, by omega⟩ ?_)
      by_cases c1 : (bl s).getD i 0 < 48
      · exact Ev2.pos (dT c1) (Ev2.eq (Ev2.some _) (h1 c1).symm)
      · refine Ev2.neg (dF c1) (Ev2.pos ⟨by omega, by omega⟩ ?_)
        by_cases c2 : (bl s).getD i 0 > 57
        · exact Ev2.pos (dT c2) (Ev2.eq (Ev2.some _) (h2 c2).symm)
        · exact Ev2.neg (dF c2) (h3 (by omega) (by omega))
    have hmem : (bl s).getD i 0 ∈ bl s := by rw [List.getD_eq_getElem?_getD, List.getElem?_eq_getElem ilt]; exact List.getElem_mem _
    have next : 48 ≤ (bl s).getD i 0 → (bl s).getD i 0 ≤ 57 → Dig ((bl s).take (i + 1)) := by
      intro h1 h2 x hx
      rw [List.take_add_one] at hx
      rcases List.mem_append.1 hx with h | h
      · exact hd x h
      · rw [List.getElem?_eq_getElem ilt] at h
        simp at h
        have e : (bl s).getD i 0 = (bl s)[i] := by simp [List.getD_eq_getElem?_getD, List.getElem?_eq_getElem ilt]
        rw [e] at h1 h2
        subst h; exact ⟨h1, h2⟩
    refine ⟨fun hD => ?_, fun hD => ?_⟩
    · have := hD _ hmem
      exact step _ (fun h => by omega) (fun h => by omega) fun h1 h2 => (ih (i + 1) (by omega) (next h1 h2)).1 hD
    · exact step _ (fun _ => rfl) (fun _ => rfl) fun h1 h2 => (ih (i + 1) (by omega) (next h1 h2)).2 hD
theorem Parse_ev {s : ByteArray} (h0 : s.size ≠ 0) (hs : s.size ≤ 20000) (hd : Dig (bl s)) : Ev (fun k => nat_Parse k s) (if (digs (dval (bl s))).length ≤ 1024 then (digs (dval (bl s)), (0 : Int)) else (([] : List Int), (5 : Int))) := by
  refine Ev.congr (fun k => nat_Parse_eq k s) (Ev.neg (dF (by omega)) (Ev.neg ?_ ((parse_l0 hs s.size 0 (by omega) (fun x hx => by simp at hx)).1 hd).ev))
  rw [toList_bl]
  have hbl := bl_length s
  have : bl nat_Parse.s0 = [] := rfl
  rw [this]
  refine dF fun e => ?_
  rw [e] at hbl; simp at hbl; omega
theorem Parse_bad {s : ByteArray} (hs : s.size ≤ 20000) (hd : ¬ Dig (bl s) ∨ s.size = 0) : Ev (fun k => nat_Parse k s) (([] : List Int), (8 : Int)) := by
  refine Ev.congr (fun k => nat_Parse_eq k s) (Ev.neg (dF (by omega)) ?_)
  rw [toList_bl]
  have hbl := bl_length s
  have : bl nat_Parse.s0 = [] := rfl
  rw [this]
  by_cases h0 : s.size = 0
  · exact Ev.pos (dT (List.length_eq_zero_iff.1 (by omega))) (Ev.some _)
  · refine Ev.neg (dF fun e => ?_) ((parse_l0 hs s.size 0 (by omega) (fun x hx => by simp at hx)).2 (by rcases hd with h | h; exact h; exact absurd h h0)).ev
    rw [e] at hbl; simp at hbl; omega
theorem Parse_long {s : ByteArray} (hs : 20000 < s.size) : Ev (fun k => nat_Parse k s) (([] : List Int), (5 : Int)) :=
  Ev.congr (fun k => nat_Parse_eq k s) (Ev.pos (dT (by omega)) (Ev.some _))
/-! ### Power -/
theorem andI_one (n : Nat) (h : n < 9223372036854775808) : andK .i64 (n : Int) 1 = ((n % 2 : Nat) : Int) := by
  unfold andK
  show IntKind.i64.wrap ((BitVec.ofInt 64 (n : Int) &&& BitVec.ofInt 64 ((1 : Nat) : Int)).toNat : Int) = _
  rw [BitVec.toNat_and, ofInt_nat n (by omega), ofInt_nat 1 (by omega)]
  have : n &&& 1 = n % 2 := Nat.and_one_is_mod n
  rw [this, wrapI (by omega) (by omega)]
theorem shrI_one (n : Nat) : shrK .i64 (n : Int) 1 = ((n / 2 : Nat) : Int) := by
  unfold shrK
  have e : min (1 : Int).toNat IntKind.i64.bits = 1 := by decide
  rw [e, Int.fdiv_eq_ediv_of_nonneg _ (by decide)]
  rfl
theorem great1 {v : Nat} (hv : Lb (digs v)) : Ev (fun k => nat_great k ((List.replicate 1 []).set 0 (digs v))) (decide (1024 < (digs v).length)) := by
  rw [set1]
  exact Ev.eq (great_ev (l := [digs v]) (fun x hx => by simp at hx; subst hx; exact ⟨WF.digs _, hv⟩) (by simp)) (by simp [val_digs])
theorem prod_d {x y : Nat} (h1 : (digs x).length ≤ 10000) (h2 : (digs y).length ≤ 10000) : Ev (fun k => nat_product k (digs x) (digs y)) (digs (x * y)) := by
  have := product_ev (a := digs x) (b := digs y) (WF.digs _) (WF.digs _) (by unfold Lb; omega) (by unfold Lb; omega) (by rw [val_digs, val_digs]; omega)
  rwa [val_digs, val_digs] at this
theorem power_l2 (N : Nat) : ∀ p b : Nat, N ≤ 20000 → 1 ≤ p → (1 ≤ b ∨ N ≤ 1) → (digs p).length ≤ 1024 → (N = 0 ∨ (digs b).length ≤ 2048) →
    Ev2 (fun k n => nat_Power.l2 k n (N : Int) (digs p) (digs b)) (if (digs (p * b ^ N)).length ≤ 1024 then (digs (p * b ^ N), (0 : Int)) else (([] : List Int), (5 : Int))) := by
  induction N using Nat.strongRecOn with
  | _ N ih =>
    intro p b hN hp hb lp lb
    refine Ev2.step (fun k n => nat_Power.l2_eq k n _ _ _) ?_
    by_cases h0 : N = 0
    · subst h0
      rw [Nat.pow_zero, Nat.mul_one, if_pos lp]
      exact Ev2.neg (dF (by omega)) (Ev2.some _)
    · have lb : (digs b).length ≤ 2048 := by omega
      refine Ev2.pos (dT (by omega)) ?_
      rw [andI_one N (by omega), shrI_one]
      have hpb := mul_len lp lb
      have hbb := mul_len lb lb
      have hsq : ∀ q : Nat, q * (b * b) ^ (N / 2) = q * b ^ (2 * (N / 2)) := fun q => by rw [← Nat.pow_two, ← Nat.pow_mul]
      -- what comes behind the tests
      have rest : ∀ q : Nat, q * b ^ (2 * (N / 2)) = p * b ^ N → (1 ≤ q ∨ N ≤ 1) → (digs q).length ≤ 3072 → Ev2 (fun k n => ((nat_great k ((List.replicate 1 []).set 0 (digs q)))).bind fun o2 => (if o2 then some (([] : List Int), (5 : Int)) else (if decide ((N : Int) > 1) then ((nat_great k ((List.replicate 1 []).set 0 (digs b)))).bind fun o3 => (if o3 then some (([] : List Int), (5 : Int)) else ((nat_product k (digs b) (digs b))).bind fun o4 => nat_Power.l2 k n ((N / 2 : Nat) : Int) (digs q) o4) else ((nat_product k (digs b) (digs b))).bind fun o5 => nat_Power.l2 k n ((N / 2 : Nat) : Int) (digs q) o5)))
          (if (digs (p * b ^ N)).length ≤ 1024 then (digs (p * b ^ N), (0 : Int)) else (([] : List Int), (5 : Int))) := by
        intro q hq hq1 lq
        refine Ev2.call (great1 (by unfold Lb; omega)) ?_
        have hge : 2 ≤ N ∨ N = 1 := by omega
        by_cases c1 : 1024 < (digs q).length
        · rw [decide_eq_true c1]
          have : q ≤ p * b ^ N := by
            rw [← hq]
            rcases hge with h | h
            · exact Nat.le_mul_of_pos_right _ (Nat.pow_pos (by omega))
            · subst h; simp
          have := digs_len_mono this
          rw [if_neg (by omega)]
          exact Ev2.pos rfl (Ev2.some _)
        · rw [decide_eq_false c1]
          refine Ev2.neg (by simp) ?_
          rcases hge with h | h
          · refine Ev2.pos (dT (by omega)) (Ev2.call (great1 (by unfold Lb; omega)) ?_)
            have hb1 : 1 ≤ b := by omega
            have hq1 : 1 ≤ q := by omega
            by_cases c2 : 1024 < (digs b).length
            · rw [decide_eq_true c2]
              have : b ≤ p * b ^ N := by
                have h1 : b ^ 1 ≤ b ^ N := Nat.pow_le_pow_right hb1 (by omega)
                rw [Nat.pow_one] at h1
                exact Nat.le_trans h1 (Nat.le_mul_of_pos_left _ hp)
              have := digs_len_mono this
              rw [if_neg (by omega)]
              exact Ev2.pos rfl (Ev2.some _)
            · rw [decide_eq_false c2]
              refine Ev2.neg (by simp) (Ev2.call (prod_d (by omega) (by omega)) ?_)
              have hbb2 := mul_len (m := 1024) (n := 1024) (show (digs b).length ≤ 1024 by omega) (show (digs b).length ≤ 1024 by omega)
              have := ih (N / 2) (by omega) q (b * b) (by omega) hq1 (.inl (Nat.mul_pos hb1 hb1)) (by omega) (.inr (by omega))
              rw [hsq, hq] at this
              exact this
          · refine Ev2.neg (dF (by omega)) (Ev2.call (prod_d (by omega) (by omega)) ?_)
            subst h
            have hq' : q = p * b := by simpa using hq
            have e : ((1 / 2 : Nat) : Int) = ((0 : Nat) : Int) := rfl
            refine Ev2.step (fun k n => nat_Power.l2_eq k n _ _ _) (Ev2.neg (dF (by omega)) (Ev2.eq (Ev2.some _) ?_))
            rw [Nat.pow_one, ← hq', if_pos (by omega)]
      by_cases hodd : N % 2 = 1
      · refine Ev2.pos (bT (by omega)) (Ev2.call (prod_d (by omega) (by omega)) (rest (p * b) ?_ ?_ (by omega)))
        · rw [Nat.mul_assoc, ← Nat.pow_succ', show (2 * (N / 2)).succ = N by omega]
        · rcases hb with h | h
          · exact .inl (Nat.mul_pos hp h)
          · exact .inr h
      · refine Ev2.neg (bF (by omega)) (rest p ?_ (.inl hp) (by omega))
        rw [show 2 * (N / 2) = N by omega]
theorem Power_ev {b N : Nat} (hb : b < 18446744073709551616) (hN : N ≤ 20000) : Ev (fun k => nat_Power k (b : Int) (N : Int)) (if (digs (b ^ N)).length ≤ 1024 then (digs (b ^ N), (0 : Int)) else (([] : List Int), (5 : Int))) := by
  refine Ev.congr (fun k => nat_Power_eq k _ _) (Ev.neg (dF (by omega)) (Ev.neg (dF (by omega)) (Ev.congr (fun k => nat_Power.j0_eq k _ _) ?_)))
  have e1 : ((List.replicate 1 (0 : Int)).set 0 (b : Int)) = [(b : Int)] := rfl
  have e2 : ((List.replicate 1 (0 : Int)).set 0 1) = digs 1 := by rw [digs_pos (by decide)]; simp [digs_zero]
  have hv : val [(b : Int)] = b := by simp [val]
  have t := trim_ev (a := [(b : Int)]) (WF.cons (by omega) (by omega) WF.nil) (by unfold Lb; simp)
  rw [hv] at t
  have lb1 : (digs b).length ≤ 1 := digs_length_lt.2 (by rw [Nat.pow_one]; exact hb)
  have l1 : (digs 1).length ≤ 1 := digs_length_lt.2 (by decide)
  rw [e1, e2]
  refine Ev.bind t ?_
  by_cases c : b < 2
  · refine Ev.pos (dT (by omega)) (Ev.congr (fun k => nat_Power.j1_eq k _ _ _) ?_)
    have hm : mnI (N : Int) 1 = ((min N 1 : Nat) : Int) := by unfold mnI; split <;> omega
    rw [hm]
    have := (power_l2 (min N 1) 1 b (by omega) (by omega) (.inr (by omega)) (by omega) (.inr (by omega))).ev
    have e : 1 * b ^ (min N 1) = b ^ N := by
      rw [Nat.one_mul]
      have hb01 : b = 0 ∨ b = 1 := by omega
      rcases hb01 with rfl | rfl
      · cases N with
        | zero => rfl
        | succ N => rw [show min (N + 1) 1 = 1 by omega]; simp
      · simp
    rw [e] at this
    exact this
  · refine Ev.neg (dF (by omega)) (Ev.congr (fun k => nat_Power.j1_eq k _ _ _) ?_)
    have := (power_l2 N 1 b hN (by omega) (.inl (by omega)) (by omega) (.inr (by omega))).ev
    rw [Nat.one_mul] at this
    exact this
theorem Power_range {b n : Int} (h : n < 0 ∨ 20000 < n) : Ev (fun k => nat_Power k b n) (([] : List Int), (7 : Int)) := by
  refine Ev.congr (fun k => nat_Power_eq k _ _) ?_
  by_cases h0 : n < 0
  · exact Ev.pos (dT h0) (Ev.some _)
  · exact Ev.neg (dF h0) (Ev.pos (dT (by omega)) (Ev.some _))
end Go.Proofs.YtdhndlcijpgjgaaDoor.X
