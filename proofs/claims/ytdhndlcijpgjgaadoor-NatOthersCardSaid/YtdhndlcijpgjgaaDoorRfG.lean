/- Plain law: the reference's Text and Parse, by the numbers. Conditions: the words are words, the lists are not longer than memory; the texts are texts. -/
import Derived.Test.YtdhndlcijpgjgaaDoorRfC
import Derived.Test.YtdhndlcijpgjgaaDoorNatL
namespace Go.Proofs.YtdhndlcijpgjgaaDoor.X
open Go Go.Rex
set_option linter.unusedVariables false

/-! ### Text -/
theorem v32_zeros : ∀ {a : List Int}, (∀ j, a.getD j 0 = 0) → v32 a = 0
  | [], _ => rfl
  | x :: r, h => by
    have h0 := h 0
    have hr := v32_zeros (a := r) fun j => by have := h (j + 1); simpa using this
    simp at h0
    simp [v32, hr, h0]
theorem getD_drop' (a : List Int) (i j : Nat) : (a.drop i).getD j 0 = a.getD (i + j) 0 := by
  simp [List.getD_eq_getElem?_getD, List.getElem?_drop]
theorem v32_high {a : List Int} {n : Nat} (hz : ∀ j, n ≤ j → a.getD j 0 = 0) : v32 (a.drop n) = 0 :=
  v32_zeros fun j => by rw [getD_drop']; exact hz _ (by omega)
/-- A digit other than 0 makes the number other than 0. -/
theorem v32_ne {a : List Int} {i : Nat} (h : (a.getD i 0).toNat ≠ 0) : v32 a ≠ 0 := by
  have hi : i < a.length := by
    by_cases c : i < a.length
    · exact c
    · rw [List.getD_eq_getElem?_getD, List.getElem?_eq_none (by omega)] at h; simp at h
  rw [v32_take_drop a i, v32_drop a hi]
  have : 0 < 4294967296 ^ i := Nat.pow_pos (by decide)
  have h2 : 0 < 4294967296 ^ i * ((a.getD i 0).toNat + 4294967296 * v32 (a.drop (i + 1))) := Nat.mul_pos this (by omega)
  omega
theorem rtext_l2 {l : List Int} (hl : l.length ≤ 1000000000000) (m : Nat) : ∀ (i : Nat) (o : List Int), i + m = l.length → o.length = l.length → (∀ j, j < i → o.getD j 0 = l.reverse.getD j 0) → Ev2 (fun k n => vernierref02_Text.l2 k n (i : Int) l o) (bytesOf l.reverse, (0 : Int)) := by
  induction m with
  | zero =>
    intro i o hi hol ho
    refine Ev2.step (fun k n => vernierref02_Text.l2_eq k n _ _ _) (Ev2.neg (dF (by omega)) (Ev2.eq (Ev2.some _) ?_))
    have : o = l.reverse := by
      refine List.ext_getElem (by rw [List.length_reverse]; exact hol) fun j h1 h2 => ?_
      have := ho j (by omega)
      rw [List.getD_eq_getElem?_getD, List.getD_eq_getElem?_getD, List.getElem?_eq_getElem h1, List.getElem?_eq_getElem h2] at this
      exact this
    rw [this]
  | succ m ih =>
    intro i o hi hol ho
    refine Ev2.step (fun k n => vernierref02_Text.l2_eq k n _ _ _) ?_
    have e1 : IntKind.i64.wrap ((IntKind.i64.wrap ((l.length : Int) - 1)) - (i : Int)) = ((l.length - 1 - i : Nat) : Int) := by
      rw [wrapI (x := (l.length : Int) - 1) (by omega) (by omega), wrapI (by omega) (by omega)]; omega
    rw [e1, succ_i i (by omega), Int.toNat_natCast, Int.toNat_natCast]
    refine Ev2.pos (dT (by omega)) (Ev2.pos ⟨by omega, by omega⟩ (Ev2.pos ⟨by omega, by omega⟩ (ih (i + 1) _ (by omega) (by rw [List.length_set]; exact hol) fun j hj => ?_)))
    by_cases c : j = i
    · subst c
      rw [Rex.getD_set_self o (by omega), List.getD_eq_getElem?_getD, List.getD_eq_getElem?_getD, List.getElem?_reverse (by omega)]
    · rw [Rex.getD_set_ne o (by omega)]; exact ho j (by omega)
theorem rtext_arith {P Q x r q r' T B : Nat} (h : r * B + x = r' + 1000000000 * q) : P + Q * x + Q * B * (r + 1000000000 * T) = P + Q * (r' + 1000000000 * (q + B * T)) := by
  have e : Q * x + Q * B * (r + 1000000000 * T) = Q * (r * B + x) + Q * (1000000000 * (B * T)) := by grind
  rw [Nat.add_assoc, e, h]; grind
/-- The number divided by 10 ^ 9, from the highest digit down. -/
theorem rtext_l1 {left V N : Nat} {back : List Int} {res : ByteArray × Int} (hleft : left ≤ 1000000000)
    (hr : ∀ d : List Int, W32 d → left ≤ d.length → (∀ j, left ≤ j → d.getD j 0 = 0) → v32 d = V / 1000000000 → d.length = N → Ev2 (fun k n0 => vernierref02_Text.l3 k n0 k (left : Int) ((V % 1000000000 : Nat) : Int) d back) res) (i : Nat) :
    ∀ (r : Nat) (d : List Int), i ≤ left → r < 1000000000 → W32 d → d.length = N → left ≤ d.length → (∀ j, left ≤ j → d.getD j 0 = 0) → v32 (d.take i) + 4294967296 ^ i * (r + 1000000000 * v32 (d.drop i)) = V →
    Ev3 (fun k n0 n => vernierref02_Text.l1 k n0 n (left : Int) (r : Int) ((i : Int) - 1) d back) res := by
  induction i with
  | zero =>
    intro r d hi hr9 hd hN hld hz hv
    refine Ev3.step (fun k n0 n => vernierref02_Text.l1_eq k n0 n _ _ _ _ _) (Ev3.neg (dF (by omega)) ?_)
    rw [List.take_zero, List.drop_zero, Nat.pow_zero, Nat.one_mul, show v32 [] = 0 from rfl, Nat.zero_add] at hv
    have h1 : V / 1000000000 = v32 d := by omega
    have h2 : V % 1000000000 = r := by omega
    have := hr d hd hld hz h1.symm hN
    rw [h2] at this
    exact Ev2.ev3 this
  | succ i ih =>
    intro r d hi hr9 hd hN hld hz hv
    refine Ev3.step (fun k n0 n => vernierref02_Text.l1_eq k n0 n _ _ _ _ _) ?_
    obtain ⟨x, hx, ex⟩ := hd.getD i
    have e0 : (((i + 1 : Nat) : Int) - 1) = (i : Int) := by omega
    have e1 : IntKind.i64.wrap ((i : Int) - 1) = (i : Int) - 1 := wrapI (by omega) (by omega)
    have e2 : orK .u64 (shlK .u64 (r : Int) 32) (x : Int) = ((r * 4294967296 + x : Nat) : Int) := by
      rw [show (32 : Int) = ((32 : Nat) : Int) from rfl, shlK_exact r 32 (by omega) (by rw [show (2 : Nat) ^ 32 = 4294967296 from rfl]; omega), show (2 : Nat) ^ 32 = 4294967296 from rfl]
      exact orK_add (r * 4294967296) x 32 hx (Nat.mul_mod_left _ _) (by omega)
    have e3 : ((r * 4294967296 + x : Nat) : Int).tmod 1000000000 = (((r * 4294967296 + x) % 1000000000 : Nat) : Int) := tmod_nat _ 1000000000
    have e4 : IntKind.u64.wrap (((r * 4294967296 + x : Nat) : Int).tdiv 1000000000) = (((r * 4294967296 + x) / 1000000000 : Nat) : Int) := by
      rw [show (1000000000 : Int) = ((1000000000 : Nat) : Int) from rfl, tdiv_nat, wrapUn (by omega)]
    rw [e0, Int.toNat_natCast, ex, e1, e2, e3, e4]
    have hdm := Nat.mod_add_div (r * 4294967296 + x) 1000000000
    have hm := Nat.mod_lt (r * 4294967296 + x) (show 0 < 1000000000 by decide)
    have hq : (r * 4294967296 + x) / 1000000000 < 4294967296 := by omega
    generalize (r * 4294967296 + x) / 1000000000 = q at *
    generalize (r * 4294967296 + x) % 1000000000 = r' at *
    have hil : i < d.length := by omega
    have v1 := v32_take_succ d i
    rw [ex, Int.toNat_natCast] at v1
    have v2 := v32_drop (d.set i (q : Int)) (i := i) (by rw [List.length_set]; exact hil)
    rw [Rex.getD_set_self d hil, Int.toNat_natCast, List.drop_set_of_lt (show i < i + 1 by omega)] at v2
    refine Ev3.pos (dT (by omega)) (Ev3.pos ⟨by omega, by omega⟩ (Ev3.pos ⟨by omega, by omega⟩ (ih r' (d.set i (q : Int)) (by omega) hm (hd.set i hq) (by rw [List.length_set]; exact hN) (by rw [List.length_set]; exact hld) (fun j hj => ?_) ?_)))
    · rw [Rex.getD_set_ne d (by omega)]; exact hz j hj
    · rw [v2, List.take_set_of_le (Nat.le_refl i), ← hv, v1, Nat.pow_succ]
      exact (rtext_arith hdm.symm).symm
/-- The zeros at the top are left. -/
theorem rtext_l3 {r : Int} {d back : List Int} {res : ByteArray × Int} (hd : W32 d) 
    (hr : ∀ left : Nat, left ≤ d.length → (∀ j, left ≤ j → d.getD j 0 = 0) → (left = 0 ↔ v32 d = 0) → Ev2 (fun k n0 => vernierref02_Text.j4 k n0 (left : Int) r d back) res) (left : Nat) : left ≤ d.length → left ≤ 1000000000 → (∀ j, left ≤ j → d.getD j 0 = 0) →
    Ev3 (fun k n0 n => vernierref02_Text.l3 k n0 n (left : Int) r d back) res := by
  induction left with
  | zero =>
    intro h1 h2 hz
    refine Ev3.step (fun k n0 n => vernierref02_Text.l3_eq k n0 n _ _ _ _) (Ev3.neg (dF (by omega)) (Ev2.ev3 (hr 0 h1 hz ⟨fun _ => ?_, fun _ => rfl⟩)))
    have := v32_high (a := d) hz
    rwa [List.drop_zero] at this
  | succ n ih =>
    intro h1 h2 hz
    refine Ev3.step (fun k n0 n => vernierref02_Text.l3_eq k n0 n _ _ _ _) ?_
    rw [pred_i n (by omega), Int.toNat_natCast]
    refine Ev3.pos (dT (by omega)) (Ev3.pos ⟨by omega, by omega⟩ ?_)
    obtain ⟨x, hx, ex⟩ := hd.getD n
    by_cases c : d.getD n 0 = 0
    · refine Ev3.pos (bT c) (ih (by omega) (by omega) fun j hj => ?_)
      by_cases e : j = n
      · rw [e]; exact c
      · exact hz j (by omega)
    · refine Ev3.neg (bF c) (Ev2.ev3 (hr (n + 1) h1 hz ⟨fun e => by omega, fun e => absurd e (v32_ne (i := n) (by omega))⟩))
theorem rtext_l01 {B N : Nat} (hB : B ≤ 1000000000) (hN : N ≤ 1000000000) (X : Nat) : ∀ (left : Nat) (d l : List Int), (decs X).length + l.length ≤ B → W32 d → d.length = N → left ≤ d.length → (∀ j, left ≤ j → d.getD j 0 = 0) → (left = 0 ↔ v32 d = 0) → v32 d = X →
    Ev2 (fun k n => vernierref02_Text.l0 k n (left : Int) d l) (bytesOf (l ++ decs X).reverse, (0 : Int)) := by
  induction X using Nat.strongRecOn with
  | _ X ih =>
    intro left d l hl hd hdN hld hz h0l hv
    refine Ev2.step (fun k n => vernierref02_Text.l0_eq k n _ _ _) ?_
    by_cases h0 : X = 0
    · subst h0
      rw [decs_zero] at hl ⊢
      simp only [List.length_nil, Nat.zero_add] at hl
      have := h0l.2 hv
      refine Ev2.neg (dF (by omega)) (Ev2.pos ⟨by omega, by omega⟩ ?_)
      rw [Int.toNat_natCast, List.append_nil]
      exact Ev2.inner (rtext_l2 (l := l) (by omega) l.length 0 _ (by omega) (by simp) (fun j hj => absurd hj (by omega)))
    · have hl0 : left ≠ 0 := fun e => h0 (by rw [← hv]; exact h0l.1 e)
      have hx : X / 1000000000 < X := Nat.div_lt_self (by omega) (by decide)
      rw [show IntKind.i64.wrap ((left : Int) - 1) = (left : Int) - 1 from wrapI (by omega) (by omega)]
      refine Ev2.pos (dT (by omega)) (Ev3.ev2 (rtext_l1 (N := N) (V := X) (by omega) (fun e he hel hez hev heN => ?_) left 0 d (Nat.le_refl _) (by decide) hd hdN hld hz ?_))
      · refine Ev3.ev2 (rtext_l3 he (fun lf hlf hlz hl0 => ?_) left hel (by omega) hez)
        refine Ev2.congr (fun k n0 => vernierref02_Text.j4_eq k n0 _ _ _ _) ?_
        have inner : ∀ (m : Nat) (i r : Nat) (o : List Int), i + m = 9 → r < 10 ^ m → o ++ decs (X / 1000000000 * 10 ^ m + r) = l ++ decs X →
            Ev3 (fun k n0 n => vernierref02_Text.l5 k n0 n (lf : Int) (r : Int) (i : Int) e o) (bytesOf (l ++ decs X).reverse, (0 : Int)) := by
          intro m
          induction m with
          | zero =>
            intro i r o hi hr ho
            refine Ev3.step (fun k n0 n => vernierref02_Text.l5_eq k n0 n _ _ _ _ _) (Ev3.neg (dF (by omega)) ?_)
            have hr0 : r = 0 := by simpa using hr
            subst hr0
            rw [Nat.pow_zero, Nat.mul_one, Nat.add_zero] at ho
            have hlen := congrArg List.length ho
            rw [List.length_append, List.length_append] at hlen
            have := ih _ hx lf e o (by omega) he heN hlf hlz hl0 hev
            rw [ho] at this
            exact Ev2.ev3 this
          | succ m ihm =>
            intro i r o hi hr ho
            refine Ev3.step (fun k n0 n => vernierref02_Text.l5_eq k n0 n _ _ _ _ _) (Ev3.pos (dT (by omega)) ?_)
            have hlen := congrArg List.length ho
            rw [List.length_append, List.length_append] at hlen
            -- a further digit
            have more : X / 1000000000 * 10 ^ (m + 1) + r ≠ 0 → Ev3 (fun k n0 n => vernierref02_Text.j6 k n0 n (lf : Int) (r : Int) (i : Int) e o) (bytesOf (l ++ decs X).reverse, (0 : Int)) := by
              intro hne
              refine Ev3.congr (fun k n0 n => vernierref02_Text.j6_eq k n0 n _ _ _ _ _) (Ev3.pos (cap1 (by simp; omega)) ?_)
              have h9 : 10 ^ (m + 1) ≤ 10 ^ 9 := Nat.pow_le_pow_right (by decide) (show m + 1 ≤ 9 by omega)
              have hr9 : r < 1000000000 := Nat.lt_of_lt_of_le hr h9
              have e1 : IntKind.u8.wrap (IntKind.u64.wrap (48 + ((r : Int).tmod 10))) = ((48 + r % 10 : Nat) : Int) := by
                rw [show (10 : Int) = ((10 : Nat) : Int) from rfl, tmod_nat, wrap_u64, wrap_u8]; omega
              have e2 : IntKind.u64.wrap ((r : Int).tdiv 10) = ((r / 10 : Nat) : Int) := by
                rw [show (10 : Int) = ((10 : Nat) : Int) from rfl, tdiv_nat, wrapUn (by omega)]
              rw [e1, e2, succ_i i (by omega)]
              refine ihm (i + 1) (r / 10) _ (by omega) ?_ ?_
              · rw [Nat.pow_succ] at hr; omega
              · rw [← ho, decs_pos hne, List.append_assoc]
                congr 1
                rw [Nat.pow_succ, ← Nat.mul_assoc]
                rw [show (X / 1000000000 * 10 ^ m * 10 + r) % 10 = r % 10 by omega, show (X / 1000000000 * 10 ^ m * 10 + r) / 10 = X / 1000000000 * 10 ^ m + r / 10 by omega]
                rfl
            by_cases hx0 : lf = 0
            · have hq0 : X / 1000000000 = 0 := by rw [← hev]; exact hl0.1 hx0
              refine Ev3.neg (dF (by omega)) ?_
              by_cases hr0 : r = 0
              · subst hr0
                rw [hq0, Nat.zero_mul, Nat.zero_add, decs_zero] at ho
                refine Ev3.neg (dF (by omega)) ?_
                have := ih 0 (by omega) lf e o (by rw [decs_zero]; simp; omega) he heN hlf hlz hl0 (by rw [hev, hq0])
                rw [decs_zero, ho] at this
                exact Ev2.ev3 this
              · exact Ev3.pos (dT (by omega)) (more (by omega))
            · have hq0 : X / 1000000000 ≠ 0 := fun e0 => hx0 (hl0.2 (by rw [hev, e0]))
              refine Ev3.pos (dT (by omega)) (more ?_)
              have := Nat.mul_pos (Nat.pos_of_ne_zero hq0) (Nat.pow_pos (n := m + 1) (show 0 < 10 by decide))
              omega
        exact Ev3.ev2 (inner 9 0 (X % 1000000000) l (by omega) (Nat.mod_lt _ (by decide)) (by
          congr 2
          have := Nat.div_add_mod X 1000000000
          omega))
      · rw [v32_high hz, Nat.mul_zero, Nat.add_zero]
        have := v32_take_drop d left
        rw [v32_high hz, Nat.mul_zero, Nat.add_zero] at this
        exact this.symm.trans hv
theorem rText_ev {a : List Int} (ha : WF a) (la : Lb a) (hl : (digs (val a)).length ≤ 1024) : Ev (fun k => vernierref02_Text k a) (decT (val a), (0 : Int)) := by
  refine Ev.congr (fun k => vernierref02_Text_eq k a) (Ev.bind (rsize_ev ha la) (Ev.neg (dF (by omega)) (Ev.bind (rsize_ev ha la) ?_)))
  unfold decT
  by_cases h : val a = 0
  · rw [if_pos h]
    refine Ev.pos (bT (by rw [h, digs_zero]; rfl)) (Ev.eq (Ev.some _) ?_)
    rfl
  · have hp := digs_len_pos.2 h
    rw [if_neg h]
    obtain ⟨e, e1, e2, e3, e4⟩ := rdig_ev ha la (by omega)
    refine Ev.neg (bF (by omega)) (Ev.bind e4 ?_)
    have h2 := dec_len hl
    have hz : ∀ j, e.length ≤ j → e.getD j 0 = 0 := fun j hj => by rw [List.getD_eq_getElem?_getD, List.getElem?_eq_none hj]; rfl
    exact (rtext_l01 (B := 100000) (N := e.length) (by omega) (by omega) (val a) e.length e [] (by simp; omega) e1 rfl (Nat.le_refl _) hz ⟨fun g => by omega, fun g => absurd (e3.symm.trans g) h⟩ e3).ev
theorem Text_long {a : List Int} (ha : WF a) (la : Lb a) (hl : 1024 < (digs (val a)).length) : Ev (fun k => nat_Text k a) (ByteArray.empty, (5 : Int)) := by
  refine Ev.congr (fun k => nat_Text_eq k a) ?_
  rw [set1]
  exact Ev.bind (Ev.eq (great_ev (l := [a]) (fun x hx => by simp at hx; subst hx; exact ⟨ha, la⟩) (by simp)) (r' := true) (by simp; omega)) (Ev.pos rfl (Ev.some _))
theorem rText_long {a : List Int} (ha : WF a) (la : Lb a) (hl : 1024 < (digs (val a)).length) : Ev (fun k => vernierref02_Text k a) (ByteArray.empty, (5 : Int)) :=
  Ev.congr (fun k => vernierref02_Text_eq k a) (Ev.bind (rsize_ev ha la) (Ev.pos (dT (by omega)) (Ev.some _)))
/-! ### Parse -/
theorem rparse_arith {Q A S c x q lo hi T : Nat} (h : lo + 4294967296 * hi = x * S + c) (hv : A + Q * c = T * S + q) : A + Q * lo + Q * 4294967296 * hi = (T + Q * x) * S + q := by
  have e1 : Q * lo + Q * 4294967296 * hi = Q * (lo + 4294967296 * hi) := by grind
  rw [Nat.add_assoc, e1, h]
  have e2 : (T + Q * x) * S = T * S + Q * (x * S) := by grind
  rw [e2, Nat.mul_add]; omega
theorem rparse_l3 {s : ByteArray} {S i : Nat} (hS : S ≤ 1000000000) {d : List Int} (hd : W32 d) (hl : d.length ≤ 1000000) {p : Nat} (hp : p < S) {res : List Int × Int}
    (hr : ∀ e : List Int, W32 e → e.length ≤ d.length + 1 → v32 e = v32 d * S + p → Ev2 (fun k n0 => vernierref02_Parse.j4 k n0 s 0 1 (i : Int) e) res) (m : Nat) :
    ∀ (j c : Nat) (e : List Int), j + m = d.length → c < S → W32 e → e.length = d.length → (∀ t, j ≤ t → e.getD t 0 = d.getD t 0) → v32 (e.take j) + 4294967296 ^ j * c = v32 (d.take j) * S + p →
    Ev3 (fun k n0 n => vernierref02_Parse.l3 k n0 n s (S : Int) (i : Int) (c : Int) (j : Int) e) res := by
  induction m with
  | zero =>
    intro j c e hj hc he hel hg hv
    refine Ev3.step (fun k n0 n => vernierref02_Parse.l3_eq k n0 n _ _ _ _ _ _) (Ev3.neg (dF (by omega)) ?_)
    rw [List.take_of_length_le (by omega), List.take_of_length_le (by omega)] at hv
    by_cases h0 : c = 0
    · subst h0
      exact Ev3.neg (dF (by omega)) (Ev2.ev3 (hr e he (by omega) (by omega)))
    · have e1 : ((List.replicate 1 (0 : Int)).set 0 (c : Int)) = [(c : Int)] := rfl
      rw [e1]
      have w1 : W32 [(c : Int)] := fun x hx => by simp at hx; omega
      refine Ev3.pos (dT (by omega)) (Ev3.pos (capOk_of (by simp; omega)) (Ev2.ev3 (hr _ (he.append w1) (by simp; omega) ?_)))
      rw [v32_append, hel, show d.length = j by omega]
      simpa [v32] using hv
  | succ m ih =>
    intro j c e hj hc he hel hg hv
    refine Ev3.step (fun k n0 n => vernierref02_Parse.l3_eq k n0 n _ _ _ _ _ _) ?_
    obtain ⟨x, hx, ex⟩ := hd.getD j
    have hm : x * S ≤ 4294967295 * S := Nat.mul_le_mul_right S (by omega)
    have et : IntKind.u64.wrap ((IntKind.u64.wrap ((x : Int) * (S : Int))) + (c : Int)) = ((x * S + c : Nat) : Int) := by
      rw [mulu_nat x S (by omega), show (((x * S : Nat) : Int) + (c : Int)) = ((x * S + c : Nat) : Int) by omega, wrapUn (by omega)]
    rw [Int.toNat_natCast, hg j (Nat.le_refl j), ex, et, succ_i j (by omega), andK_32 _ (by omega), shr32, show (2 : Nat) ^ 32 = 4294967296 from rfl]
    refine Ev3.pos (dT (by omega)) (Ev3.pos ⟨by omega, by omega⟩ (Ev3.pos ⟨by omega, by omega⟩ ?_))
    have hdm := Nat.mod_add_div (x * S + c) 4294967296
    have hml := Nat.mod_lt (x * S + c) (show 0 < 4294967296 by decide)
    have hdl : (x * S + c) / 4294967296 < S := Nat.div_lt_of_lt_mul (by omega)
    generalize (x * S + c) / 4294967296 = hi' at *
    generalize (x * S + c) % 4294967296 = lo at *
    have v1 := v32_take_succ d j
    rw [ex, Int.toNat_natCast] at v1
    refine ih (j + 1) hi' (e.set j (lo : Int)) (by omega) hdl (he.set j hml) (by rw [List.length_set]; exact hel) (fun t ht => ?_) ?_
    · rw [Rex.getD_set_ne e (by omega)]; exact hg t (by omega)
    · rw [v32_take_set_succ e (by omega), Int.toNat_natCast, v1, Nat.pow_succ]
      exact rparse_arith hdm hv
/-- What a text parses to. -/
noncomputable def parN (l : List Int) : List Int × Int := by
  classical
  exact if ∀ x ∈ l, 48 ≤ x ∧ x ≤ 57 then (if (digs (dval l)).length ≤ 1024 then (digs (dval l), (0 : Int)) else (([] : List Int), (5 : Int))) else (([] : List Int), (8 : Int))
theorem parN_dig {l : List Int} (h : Dig l) : parN l = (if (digs (dval l)).length ≤ 1024 then (digs (dval l), (0 : Int)) else (([] : List Int), (5 : Int))) := by
  unfold parN; exact if_pos h
theorem parN_bad {l : List Int} (h : ¬ Dig l) : parN l = (([] : List Int), (8 : Int)) := by
  unfold parN; exact if_neg h
theorem rparse_l0 {s : ByteArray} (hs : s.size ≤ 20000) (m : Nat) : ∀ (i piece S : Nat) (d : List Int), i + m = s.size → Dig ((bl s).take i) → W32 d → d.length ≤ i →
    (i < s.size → S = 10 ^ (i % 9) ∧ piece < S ∧ v32 d * S + piece = dval ((bl s).take i)) → (i = s.size → v32 d = dval (bl s)) →
    Ev2 (fun k n => vernierref02_Parse.l0 k n s (piece : Int) (S : Int) (i : Int) d) (parN (bl s)) := by
  have hbl := bl_length s
  induction m with
  | zero =>
    intro i piece S d hi hdg hd hdl _ hv
    rw [List.take_of_length_le (by omega)] at hdg
    refine Ev2.step (fun k n => vernierref02_Parse.l0_eq k n _ _ _ _ _) (Ev2.neg (dF (by omega)) (Ev2.call (rwords_ev hd (by omega)) ?_))
    rw [hv (by omega), parN_dig hdg]
    by_cases c : (digs (dval (bl s))).length ≤ 1024
    · rw [if_pos c]; exact Ev2.neg (dF (by omega)) (Ev2.some _)
    · rw [if_neg c]; exact Ev2.pos (dT (by omega)) (Ev2.some _)
  | succ m ih =>
    intro i piece S d hi hdg hd hdl hv _
    obtain ⟨hS, hpc, hval⟩ := hv (by omega)
    have ilt : i < (bl s).length := by omega
    have e0 : bt s (i : Int) = (bl s).getD i 0 := by rw [bt_bl]; rfl
    refine Ev2.step (fun k n => vernierref02_Parse.l0_eq k n _ _ _ _ _) (Ev2.pos (dT (by omega)) (Ev2.pos ⟨by omega, by omega⟩ ?_))
    rw [e0]
    have hmem : (bl s).getD i 0 ∈ bl s := by rw [List.getD_eq_getElem?_getD, List.getElem?_eq_getElem ilt]; exact List.getElem_mem _
    by_cases c1 : (bl s).getD i 0 < 48
    · rw [parN_bad (fun h => by have := h _ hmem; omega)]
      exact Ev2.pos (dT c1) (Ev2.some _)
    · refine Ev2.neg (dF c1) (Ev2.pos ⟨by omega, by omega⟩ ?_)
      by_cases c2 : (bl s).getD i 0 > 57
      · rw [parN_bad (fun h => by have := h _ hmem; omega)]
        exact Ev2.pos (dT c2) (Ev2.some _)
      · refine Ev2.neg (dF c2) (Ev2.congr (fun k n => vernierref02_Parse.j1_eq k n _ _ _ _ _) (Ev2.pos ⟨by omega, by omega⟩ ?_))
        have hdg' : Dig ((bl s).take (i + 1)) := by
          intro x hx
          rw [List.take_add_one] at hx
          rcases List.mem_append.1 hx with h | h
          · exact hdg x h
          · rw [List.getElem?_eq_getElem ilt] at h
            simp at h
            have e : (bl s).getD i 0 = (bl s)[i] := by simp [List.getD_eq_getElem?_getD, List.getElem?_eq_getElem ilt]
            rw [e] at c1 c2
            subst h; omega
        have hp8 : 10 ^ (i % 9) ≤ 10 ^ 8 := Nat.pow_le_pow_right (by decide) (by omega)
        have hS8 : S ≤ 100000000 := by rw [hS]; exact hp8
        obtain ⟨b, eb⟩ : ∃ b : Nat, (bl s).getD i 0 = ((48 + b : Nat) : Int) := ⟨((bl s).getD i 0 - 48).toNat, by omega⟩
        have hb : b ≤ 9 := by omega
        have e3 := dval_take_succ (l := bl s) ilt
        rw [eb, show ((((48 + b : Nat) : Int) - 48).toNat) = b by omega] at e3
        have ep : IntKind.u64.wrap ((IntKind.u64.wrap (10 * (piece : Int))) + (IntKind.u64.wrap (IntKind.u8.wrap ((((48 + b : Nat) : Int)) - 48)))) = ((10 * piece + b : Nat) : Int) := by
          rw [wrap_u8, wrap_u64, wrap_u64, wrap_u64]; omega
        have es : IntKind.u64.wrap (10 * (S : Int)) = ((10 * S : Nat) : Int) := by rw [wrap_u64]; omega
        have ei : IntKind.i64.wrap ((s.size : Int) - 1) = ((s.size - 1 : Nat) : Int) := by rw [wrapI (by omega) (by omega)]; omega
        have em : (i : Int).tmod 9 = ((i % 9 : Nat) : Int) := tmod_nat i 9
        rw [e0, eb, ep, es, ei, em]
        have hnew : v32 d * (10 * S) + (10 * piece + b) = dval ((bl s).take (i + 1)) := by
          rw [e3, ← hval]; grind
        -- after a piece
        have fl : (i % 9 = 8 ∨ i = s.size - 1) → Ev2 (fun k n0 => vernierref02_Parse.l3 k n0 k s ((10 * S : Nat) : Int) (i : Int) ((10 * piece + b : Nat) : Int) 0 d) (parN (bl s)) := by
          intro hc
          refine Ev3.ev2 (rparse_l3 (s := s) (i := i) (S := 10 * S) (p := 10 * piece + b) (by omega) hd (by omega) (by omega) (fun e he hel hev => ?_) d.length 0 (10 * piece + b) d (by omega) (by omega) hd rfl (fun _ _ => rfl) (by simp [v32]))
          refine Ev2.congr (fun k n0 => vernierref02_Parse.j4_eq k n0 _ _ _ _ _) ?_
          rw [succ_i i (by omega)]
          refine ih (i + 1) 0 1 e (by omega) hdg' he (by omega) (fun h => ?_) (fun h => ?_)
          · have h9 : (i + 1) % 9 = 0 := by omega
            rw [h9, hev, hnew]
            exact ⟨rfl, by decide, by omega⟩
          · rw [hev, hnew, List.take_of_length_le (by omega)]
        by_cases c3 : i % 9 = 8
        · exact Ev2.pos (bT (by omega)) (Ev2.congr (fun k n => vernierref02_Parse.j2_eq k n _ _ _ _ _ _) (Ev2.pos rfl (fl (.inl c3))))
        · refine Ev2.neg (bF (by omega)) (Ev2.congr (fun k n => vernierref02_Parse.j2_eq k n _ _ _ _ _ _) ?_)
          by_cases c4 : i = s.size - 1
          · exact Ev2.pos (bT (by omega)) (fl (.inr c4))
          · refine Ev2.neg (bF (by omega)) (Ev2.congr (fun k n => vernierref02_Parse.j4_eq k n _ _ _ _ _) ?_)
            rw [succ_i i (by omega)]
            refine ih (i + 1) (10 * piece + b) (10 * S) d (by omega) hdg' hd (by omega) (fun h => ⟨?_, by omega, hnew⟩) (fun h => by omega)
            rw [show (i + 1) % 9 = i % 9 + 1 by omega, Nat.pow_succ, ← hS]; omega
theorem rParse_ev {s : ByteArray} : Ev (fun k => vernierref02_Parse k s) (if 20000 < s.size then (([] : List Int), (5 : Int)) else if s.size = 0 then (([] : List Int), (8 : Int)) else parN (bl s)) := by
  refine Ev.congr (fun k => vernierref02_Parse_eq k s) ?_
  by_cases c1 : 20000 < s.size
  · rw [if_pos c1]; exact Ev.pos (dT (by omega)) (Ev.some _)
  · rw [if_neg c1]
    refine Ev.neg (dF (by omega)) ?_
    by_cases c2 : s.size = 0
    · rw [if_pos c2]; exact Ev.pos (bT (by omega)) (Ev.some _)
    · rw [if_neg c2]
      refine Ev.neg (bF (by omega)) ?_
      have e1 : IntKind.i64.wrap ((IntKind.i64.wrap ((s.size : Int).tdiv 9)) + 2) = ((s.size / 9 + 2 : Nat) : Int) := by
        rw [show (9 : Int) = ((9 : Nat) : Int) from rfl, tdiv_nat, wrapI (x := ((s.size / 9 : Nat) : Int)) (by omega) (by omega), wrapI (by omega) (by omega)]; omega
      rw [e1, List.take_zero]
      exact Ev.pos ⟨by omega, by omega, by omega⟩ (rparse_l0 (s := s) (by omega) s.size 0 0 1 [] (by omega) (fun x hx => by simp at hx) (fun x hx => by simp at hx) (by simp) (fun h => ⟨rfl, by decide, by simp [v32, dval]⟩) (fun h => absurd h (by omega))).ev
/-- The program's Parse in the same words. -/
theorem Parse_all {s : ByteArray} : Ev (fun k => nat_Parse k s) (if 20000 < s.size then (([] : List Int), (5 : Int)) else if s.size = 0 then (([] : List Int), (8 : Int)) else parN (bl s)) := by
  by_cases c1 : 20000 < s.size
  · rw [if_pos c1]; exact Parse_long c1
  · rw [if_neg c1]
    by_cases c2 : s.size = 0
    · rw [if_pos c2]; exact Parse_bad (by omega) (.inr c2)
    · rw [if_neg c2]
      by_cases hd : Dig (bl s)
      · rw [parN_dig hd]; exact Parse_ev c2 (by omega) hd
      · rw [parN_bad hd]; exact Parse_bad (by omega) (.inl hd)
end Go.Proofs.YtdhndlcijpgjgaaDoor.X
