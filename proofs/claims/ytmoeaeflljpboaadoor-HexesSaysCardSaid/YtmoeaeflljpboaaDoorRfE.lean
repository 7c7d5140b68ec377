/- Plain law: the reference's exact numbers: Canon. Conditions: the words are words, the list is within the limits. -/
import Derived.Test.YtmoeaeflljpboaaDoorRfC
import Derived.Test.YtmoeaeflljpboaaDoorRoC
namespace Go.Proofs.YtmoeaeflljpboaaDoor.X
open Go Go.Rex
set_option linter.unusedVariables false

theorem W32.wf {d : List Int} (h : W32 d) : WF d := fun x hx => by have := h x hx; omega
theorem W32.take {d : List Int} (h : W32 d) (n : Nat) : W32 (d.take n) := fun x hx => h x (List.mem_of_mem_take hx)
theorem v32_zero {d : List Int} (h : W32 d) (h0 : val d = 0) : v32 d = 0 := by
  induction d with
  | nil => rfl
  | cons x r ih =>
    have h1 := h x List.mem_cons_self
    rw [val_cons] at h0
    show x.toNat + 4294967296 * v32 r = 0
    rw [ih (fun y hy => h y (List.mem_cons_of_mem _ hy)) (by omega)]; omega
theorem val_zero {d : List Int} (h : W32 d) (h0 : v32 d = 0) : val d = 0 := by
  induction d with
  | nil => rfl
  | cons x r ih =>
    have h1 := h x List.mem_cons_self
    have h2 : x.toNat + 4294967296 * v32 r = 0 := h0
    rw [val_cons, ih (fun y hy => h y (List.mem_cons_of_mem _ hy)) (by omega)]; omega
/-- Digits without the zeros at their end: the same number. -/
theorem v32_trim {d : List Int} (h : W32 d) : v32 (digs (val d)) = v32 d ∧ W32 (digs (val d)) ∧ (digs (val d)).length ≤ d.length := by
  have ht := take_digs h.wf
  have hz := val_drop_size h.wf (Nat.le_refl (digs (val d)).length)
  have hzd := v32_zero (d := d.drop (digs (val d)).length) (fun x hx => h x (List.mem_of_mem_drop hx)) hz
  have h1 := v32_take_drop d (digs (val d)).length
  rw [hzd, ht] at h1
  refine ⟨by omega, ?_, size_le d h.wf⟩
  rw [← ht]; exact h.take _
theorem r3Trim_l0 {a : List Int} (hw : WF a) (hl : Lb a) (n : Nat) : n ≤ a.length → Ev2 (fun k m => vernierref03_Trim.l0 k m a (n : Int)) (digs (val (a.take n))) := by
  unfold Lb at hl
  induction n with
  | zero =>
    intro _
    refine Ev2.step (fun k m => vernierref03_Trim.l0_eq k m _ _) ?_
    refine Ev2.neg (dF (by omega)) (Ev2.pos ⟨by omega, by omega⟩ (Ev2.eq (Ev2.some _) ?_))
    simp [val, digs_zero]
  | succ n ih =>
    intro hn
    refine Ev2.step (fun k m => vernierref03_Trim.l0_eq k m _ _) ?_
    rw [pred_i n (by omega)]
    refine Ev2.pos (dT (by omega)) (Ev2.pos ⟨by omega, by omega⟩ ?_)
    rw [Int.toNat_natCast]
    by_cases h : a.getD n 0 = 0
    · refine Ev2.pos (bT h) ?_
      have := ih (by omega)
      rw [take_succ_val a (by omega), h]; simpa using this
    · refine Ev2.neg (bF h) (Ev2.pos ⟨by omega, by omega⟩ (Ev2.eq (Ev2.some _) ?_))
      rw [Int.toNat_natCast, digs_val (neat_take hn (.inr (by simpa using h))) (hw.take _)]
theorem r3Trim_ev {a : List Int} (hw : WF a) (hl : Lb a) : Ev (fun k => vernierref03_Trim k a) (digs (val a)) := by
  refine Ev.congr (fun k => vernierref03_Trim_eq k a) ?_
  have := (r3Trim_l0 hw hl a.length (Nat.le_refl _)).ev
  rwa [List.take_length] at this
theorem r3Dig_l0 {a : List Int} (ha : WF a) (hl : a.length ≤ 1000000) (n : Nat) : ∀ (i : Nat) (d : List Int), i + n = a.length → W32 d → d.length = 2 * i → v32 d = val (a.take i) →
    ∃ e, W32 e ∧ Neat e ∧ e.length ≤ 2 * a.length ∧ v32 e = val a ∧ Ev2 (fun k m => vernierref03_Digits.l0 k m a (i : Int) d) e := by
  induction n with
  | zero =>
    intro i d hi hd hdl hv
    obtain ⟨t1, t2, t3⟩ := v32_trim hd
    refine ⟨digs (val d), t2, Neat.digs _, by omega, by rw [t1, hv, List.take_of_length_le (by omega)], Ev2.step (fun k m => vernierref03_Digits.l0_eq k m _ _ _) (Ev2.neg (dF (by omega)) (Ev2.call (r3Trim_ev hd.wf (by unfold Lb; omega)) (Ev2.some _)))⟩
  | succ n ih =>
    intro i d hi hd hdl hv
    obtain ⟨x, hx, ex⟩ := word_nat ha i
    have hnew : W32 (d ++ (((List.replicate 2 (0 : Int)).set 0 ((x % 4294967296 : Nat) : Int)).set 1 ((x / 4294967296 : Nat) : Int))) := by
      refine hd.append ?_
      intro y hy
      have : y = ((x % 4294967296 : Nat) : Int) ∨ y = ((x / 4294967296 : Nat) : Int) := by simpa using hy
      omega
    obtain ⟨e, e1, e2, e3, e4, e5⟩ := ih (i + 1) (d ++ (((List.replicate 2 (0 : Int)).set 0 ((x % 4294967296 : Nat) : Int)).set 1 ((x / 4294967296 : Nat) : Int))) (by omega) hnew (by simp; omega) (by
      rw [v32_append, hv, take_succ_val a (by omega), ex, Int.toNat_natCast, hdl, b32_even]
      show _ + _ * (((x % 4294967296 : Nat) : Int).toNat + 4294967296 * (((x / 4294967296 : Nat) : Int).toNat + 4294967296 * 0)) = _
      rw [Int.toNat_natCast, Int.toNat_natCast]
      congr 2; omega)
    refine ⟨e, e1, e2, e3, e4, Ev2.step (fun k m => vernierref03_Digits.l0_eq k m _ _ _) ?_⟩
    rw [Int.toNat_natCast, ex, succ_i i (by omega), show (4294967296 : Int) = ((4294967296 : Nat) : Int) from rfl, tmod_nat, tdiv_nat, wrapUn (n := x / 4294967296) (by omega)]
    exact Ev2.pos (dT (by omega)) (Ev2.pos ⟨by omega, by omega⟩ (Ev2.pos ⟨by omega, by omega⟩ (Ev2.pos (capOk_of (by simp; omega)) e5)))
theorem r3Dig_ev {a : List Int} (ha : WF a) (hl : a.length ≤ 1000000) : ∃ e, W32 e ∧ Neat e ∧ e.length ≤ 2 * a.length ∧ v32 e = val a ∧ Ev (fun k => vernierref03_Digits k a) e := by
  obtain ⟨e, e1, e2, e3, e4, e5⟩ := r3Dig_l0 ha hl a.length 0 [] (by omega) (fun x hx => by cases hx) rfl (by simp [v32, val])
  refine ⟨e, e1, e2, e3, e4, Ev.congr (fun k => vernierref03_Digits_eq k a) ?_⟩
  rw [two_i _ (by omega), List.take_zero]
  exact Ev.pos ⟨by omega, by omega, by omega⟩ e5.ev
/-- A digit of what is shifted down. -/
theorem right32 {D x y s : Nat} {r : Nat} (hs : s < 32) (hx : x < 4294967296) (hy : y < 4294967296) (hr : D % 4294967296 = y) : (x + 4294967296 * D) / 2 ^ s = (x + y * 4294967296) / 2 ^ s % 4294967296 + 4294967296 * (D / 2 ^ s) := by
  have hp := Nat.two_pow_pos s
  have hw : 2 ^ s * 2 ^ (32 - s) = 4294967296 := by rw [← Nat.pow_add, show s + (32 - s) = 32 by omega]
  have hdm := Nat.div_add_mod D 4294967296
  rw [hr] at hdm
  generalize D / 4294967296 = E at *
  subst hdm
  have e1 : x + 4294967296 * (4294967296 * E + y) = (x + y * 4294967296) + 2 ^ s * (2 ^ (32 - s) * 4294967296 * E) := by
    rw [show 2 ^ s * (2 ^ (32 - s) * 4294967296 * E) = 2 ^ s * 2 ^ (32 - s) * (4294967296 * E) by grind, hw]; grind
  have e2 : 4294967296 * E + y = y + 2 ^ s * (2 ^ (32 - s) * E) := by
    rw [← Nat.mul_assoc, hw]; omega
  rw [e1, Nat.add_mul_div_left _ _ hp, e2, Nat.add_mul_div_left _ _ hp]
  have hlt : (x + y * 4294967296) / 2 ^ s = (x + y * 4294967296) / 2 ^ s % 4294967296 + 4294967296 * (y / 2 ^ s) := by
    have h1 : (x + y * 4294967296) / 2 ^ s / 4294967296 = y / 2 ^ s := by
      rw [Nat.div_div_eq_div_mul, Nat.mul_comm (2 ^ s), ← Nat.div_div_eq_div_mul]
      congr 1; omega
    have := Nat.mod_add_div ((x + y * 4294967296) / 2 ^ s) 4294967296
    rw [h1] at this; omega
  generalize (x + y * 4294967296) / 2 ^ s = q at *
  generalize 2 ^ (32 - s) = p at *
  have e3 : 4294967296 * (y / 2 ^ s + p * E) = 4294967296 * (y / 2 ^ s) + p * 4294967296 * E := by rw [Nat.mul_add]; grind
  omega
theorem r3Right_l0 {d : List Int} (hd : W32 d) (hl : d.length ≤ 1000000) {s : Nat} (hs : s < 32) {w : Nat} (n : Nat) : ∀ (i : Nat) (o : List Int), i + n = d.length → w ≤ i → W32 o → o.length = i - w → v32 o + 4294967296 ^ (i - w) * (v32 (d.drop i) / 2 ^ s) = v32 (d.drop w) / 2 ^ s →
    ∃ e, W32 e ∧ Neat e ∧ e.length ≤ d.length ∧ v32 e = v32 (d.drop w) / 2 ^ s ∧ Ev2 (fun k m => vernierref03_Right.l0 k m d ((2 ^ s : Nat) : Int) (i : Int) o) e := by
  have hp := Nat.two_pow_pos s
  have hps : 2 ^ s ≤ 2 ^ 31 := Nat.pow_le_pow_right (by decide) (by omega)
  induction n with
  | zero =>
    intro i o hi hwi ho hol hv
    obtain ⟨t1, t2, t3⟩ := v32_trim ho
    rw [List.drop_of_length_le (show d.length ≤ i by omega), show v32 [] = 0 from rfl, Nat.zero_div, Nat.mul_zero, Nat.add_zero] at hv
    exact ⟨digs (val o), t2, Neat.digs _, by omega, by rw [t1, hv], Ev2.step (fun k m => vernierref03_Right.l0_eq k m _ _ _ _) (Ev2.neg (dF (by omega)) (Ev2.call (r3Trim_ev ho.wf (by unfold Lb; omega)) (Ev2.some _)))⟩
  | succ n ih =>
    intro i o hi hwi ho hol hv
    obtain ⟨x, hx, ex⟩ := hd.getD i
    obtain ⟨y, hy, ey⟩ := hd.getD (i + 1)
    have hD : v32 (d.drop (i + 1)) % 4294967296 = y := by
      rcases Nat.lt_or_ge (i + 1) d.length with c | c
      · rw [v32_drop d c, ey, Int.toNat_natCast]; omega
      · rw [List.drop_of_length_le c, show v32 [] = 0 from rfl]
        have := getD_ge d c; omega
    have hr := right32 (D := v32 (d.drop (i + 1))) (x := x) (y := y) (s := s) (r := 0) hs hx hy hD
    have hdi := v32_drop d (i := i) (by omega)
    rw [ex, Int.toNat_natCast] at hdi
    have hz := Nat.mod_lt ((x + y * 4294967296) / 2 ^ s) (show 0 < 4294967296 by decide)
    obtain ⟨e, e1, e2, e3, e4, e5⟩ := ih (i + 1) (o ++ ((List.replicate 1 (0 : Int)).set 0 (((x + y * 4294967296) / 2 ^ s % 4294967296 : Nat) : Int))) (by omega) (by omega) (ho.append (by
        intro q hq
        have : q = (((x + y * 4294967296) / 2 ^ s % 4294967296 : Nat) : Int) := by simpa using hq
        omega)) (by simp; omega) (by
      rw [v32_append, hol]
      show v32 o + 4294967296 ^ (i - w) * ((((x + y * 4294967296) / 2 ^ s % 4294967296 : Nat) : Int).toNat + 4294967296 * 0) + _ = _
      rw [Int.toNat_natCast, ← hv, hdi, hr, show i + 1 - w = (i - w) + 1 by omega, Nat.pow_succ]
      generalize (x + y * 4294967296) / 2 ^ s % 4294967296 = z
      generalize v32 (d.drop (i + 1)) / 2 ^ s = u
      generalize 4294967296 ^ (i - w) = p
      grind)
    have hdl : (x + y * 4294967296) / 2 ^ s < 18446744073709551616 := Nat.lt_of_le_of_lt (Nat.div_le_self _ _) (by omega)
    refine ⟨e, e1, e2, e3, e4, Ev2.step (fun k m => vernierref03_Right.l0_eq k m _ _ _ _) ?_⟩
    have hne : ¬ (((2 ^ s : Nat) : Int) = 0) := by omega
    rw [succ_i i (by omega), Int.toNat_natCast, Int.toNat_natCast, ex, ey]
    refine Ev2.pos (dT (by omega)) (Ev2.pos ⟨by omega, by omega⟩ ?_)
    by_cases c : i + 1 < d.length
    · have ez : (IntKind.u64.wrap ((IntKind.u64.wrap ((x : Int) + (IntKind.u64.wrap ((y : Int) * 4294967296)))).tdiv ((2 ^ s : Nat) : Int))).tmod 4294967296 = (((x + y * 4294967296) / 2 ^ s % 4294967296 : Nat) : Int) := by
        rw [show ((y : Int) * 4294967296) = ((y * 4294967296 : Nat) : Int) by omega, wrapUn (by omega), show ((x : Int) + ((y * 4294967296 : Nat) : Int)) = ((x + y * 4294967296 : Nat) : Int) by omega, wrapUn (by omega), tdiv_nat, wrapUn hdl, show (4294967296 : Int) = ((4294967296 : Nat) : Int) from rfl, tmod_nat]
      rw [ez]
      exact Ev2.pos (dT (by omega)) (Ev2.pos ⟨by omega, by omega⟩ (Ev2.neg hne (Ev2.pos (capOk_of (by simp; omega)) e5)))
    · have hy0 : y = 0 := by have := getD_ge d (i := i + 1) (by omega); omega
      rw [hy0, Nat.zero_mul, Nat.add_zero] at hdl e5
      have ez : (IntKind.u64.wrap ((x : Int).tdiv ((2 ^ s : Nat) : Int))).tmod 4294967296 = ((x / 2 ^ s % 4294967296 : Nat) : Int) := by
        rw [tdiv_nat, wrapUn hdl, show (4294967296 : Int) = ((4294967296 : Nat) : Int) from rfl, tmod_nat]
      rw [ez]
      exact Ev2.neg (dF (by omega)) (Ev2.neg hne (Ev2.pos (capOk_of (by simp; omega)) e5))
theorem r3Right_ev {d : List Int} (hd : W32 d) (hl : d.length ≤ 1000000) {t : Nat} (ht : t / 32 ≤ d.length) : ∃ e, W32 e ∧ Neat e ∧ e.length ≤ d.length ∧ v32 e = v32 d / 2 ^ t ∧ Ev (fun k => vernierref03_Right k d (t : Int)) e := by
  have hdd : v32 (d.drop (t / 32)) = v32 d / 4294967296 ^ (t / 32) := by
    have h1 := v32_take_drop d (t / 32)
    have h2 := v32_lt (hd.take (t / 32))
    rw [List.length_take, Nat.min_eq_left ht] at h2
    rw [h1, Nat.add_mul_div_left _ _ (Nat.pow_pos (by decide)), Nat.div_eq_of_lt h2, Nat.zero_add]
  obtain ⟨e, e1, e2, e3, e4, e5⟩ := r3Right_l0 hd hl (s := t % 32) (Nat.mod_lt _ (by decide)) (w := t / 32) (d.length - t / 32) (t / 32) [] (by omega) (Nat.le_refl _) (fun x hx => by cases hx) (by simp) (by rw [Nat.sub_self]; simp [v32])
  refine ⟨e, e1, e2, e3, ?_, Ev.congr (fun k => vernierref03_Right_eq k _ _) ?_⟩
  · rw [e4, hdd, Nat.div_div_eq_div_mul]
    congr 1
    rw [show (4294967296 : Nat) = 2 ^ 32 from rfl, ← Nat.pow_mul, ← Nat.pow_add]
    congr 1; omega
  · have ew : IntKind.i64.wrap ((t : Int).tdiv 32) = ((t / 32 : Nat) : Int) := by
      rw [show (32 : Int) = ((32 : Nat) : Int) from rfl, tdiv_nat, wrapI (by omega) (by omega)]
    have es : IntKind.u64.wrap ((t : Int).tmod 32) = ((t % 32 : Nat) : Int) := by
      rw [show (32 : Int) = ((32 : Nat) : Int) from rfl, tmod_nat, wrapUn (by omega)]
    have hp31 : 2 ^ (t % 32) ≤ 2 ^ 31 := Nat.pow_le_pow_right (by decide) (by omega)
    have sh := shlK_exact 1 (t % 32) (by omega) (by omega)
    rw [show ((1 : Nat) : Int) = 1 from rfl, Nat.one_mul] at sh
    rw [ew, es, sh]
    exact Ev.pos (by omega) e5.ev
theorem r3Words_l0 {d : List Int} (hd : W32 d) (hl : d.length ≤ 1000000000) (n : Nat) : ∀ (i : Nat) (w : List Int), i + n = d.length → WF w → w.length = (d.length + 1) / 2 → val w = v32 (d.take i) → (∀ j, (i + 1) / 2 ≤ j → w.getD j 0 = 0) → (i % 2 = 1 → w.getD (i / 2) 0 < 4294967296) →
    Ev2 (fun k m => vernierref03_Words.l0 k m d (i : Int) w) (digs (v32 d)) := by
  induction n with
  | zero =>
    intro i w hi hw hwl hv hz ho
    refine Ev2.step (fun k m => vernierref03_Words.l0_eq k m _ _ _) (Ev2.neg (dF (by omega)) (Ev2.call (Ev.eq (r3Trim_ev hw (by unfold Lb; omega)) ?_) (Ev2.some _)))
    rw [hv, List.take_of_length_le (by omega)]
  | succ n ih =>
    intro i w hi hw hwl hv hz ho
    refine Ev2.step (fun k m => vernierref03_Words.l0_eq k m _ _ _) ?_
    obtain ⟨x, hx, ex⟩ := hd.getD i
    obtain ⟨c, hc, ec⟩ := word_nat hw (i / 2)
    have ew : IntKind.i64.wrap ((i : Int).tdiv 2) = ((i / 2 : Nat) : Int) := by
      rw [show (2 : Int) = ((2 : Nat) : Int) from rfl, tdiv_nat, wrapI (by omega) (by omega)]
    have hiw : i / 2 < w.length := by omega
    have v1 := v32_take_succ d i
    rw [ex, Int.toNat_natCast] at v1
    rw [ew, succ_i i (by omega), Int.toNat_natCast, Int.toNat_natCast, ex, ec, show (2 : Int) = ((2 : Nat) : Int) from rfl, tmod_nat]
    have next : ∀ z : Nat, z < 18446744073709551616 → 18446744073709551616 ^ (i / 2) * z = 18446744073709551616 ^ (i / 2) * c + 4294967296 ^ i * x → (i % 2 = 0 → z < 4294967296) → Ev2 (fun k m => vernierref03_Words.l0 k m d ((i + 1 : Nat) : Int) (w.set (i / 2) (z : Int))) (digs (v32 d)) := by
      intro z hz1 hz3 hz4
      have sv := set_val w hiw (z : Int)
      rw [ec, Int.toNat_natCast, Int.toNat_natCast] at sv
      refine ih (i + 1) (w.set (i / 2) (z : Int)) (by omega) (hw.set _ (by omega) (by omega)) (by rw [List.length_set]; exact hwl) (by rw [v1]; omega) (fun j hj => ?_) (fun h => ?_)
      · rw [Rex.getD_set_ne w (by omega)]; exact hz j (by omega)
      · rw [show (i + 1) / 2 = i / 2 by omega, Rex.getD_set_self w hiw]
        have := hz4 (by omega)
        omega
    refine Ev2.pos (dT (by omega)) ?_
    rcases (show i % 2 = 0 ∨ i % 2 = 1 by omega) with h | h
    · have hc0 : c = 0 := by have := hz (i / 2) (by omega); omega
      refine Ev2.pos (bT (by rw [h]; rfl)) (Ev2.pos ⟨by omega, by omega⟩ (Ev2.pos ⟨by omega, by omega⟩ (next x (by omega) ?_ (fun _ => hx))))
      rw [hc0, Nat.mul_zero, Nat.zero_add]
      conv => rhs; rw [show i = 2 * (i / 2) by omega, b32_even]
    · have hc2 : c < 4294967296 := by have := ho h; omega
      have ez : IntKind.u64.wrap ((c : Int) + (IntKind.u64.wrap ((x : Int) * 4294967296))) = ((c + x * 4294967296 : Nat) : Int) := by
        rw [show ((x : Int) * 4294967296) = ((x * 4294967296 : Nat) : Int) by omega, wrapUn (by omega), show ((c : Int) + ((x * 4294967296 : Nat) : Int)) = ((c + x * 4294967296 : Nat) : Int) by omega, wrapUn (by omega)]
      rw [ez]
      refine Ev2.neg (bF (by rw [h]; decide)) (Ev2.pos ⟨by omega, by omega⟩ (Ev2.pos ⟨by omega, by omega⟩ (Ev2.pos ⟨by omega, by omega⟩ (next (c + x * 4294967296) (by omega) ?_ (fun e => by omega)))))
      conv => rhs; rw [show 4294967296 ^ i = 4294967296 ^ (2 * (i / 2) + 1) by congr 1; omega, b32_odd]
      rw [Nat.mul_add, Nat.mul_assoc, Nat.mul_comm x]
theorem r3Words_ev {d : List Int} (hd : W32 d) (hl : d.length ≤ 1000000000) : Ev (fun k => vernierref03_Words k d) (digs (v32 d)) := by
  refine Ev.congr (fun k => vernierref03_Words_eq k d) ?_
  have e1 : IntKind.i64.wrap ((IntKind.i64.wrap ((d.length : Int) + 1)).tdiv 2) = (((d.length + 1) / 2 : Nat) : Int) := by
    rw [succ_i _ (by omega), show (2 : Int) = ((2 : Nat) : Int) from rfl, tdiv_nat, wrapI (by omega) (by omega)]
  rw [e1, Int.toNat_natCast]
  have hrep : ∀ (m j : Nat), (List.replicate m (0 : Int)).getD j 0 = 0 := fun m j => by
    simp [List.getD_eq_getElem?_getD, List.getElem?_replicate]; split <;> rfl
  exact Ev.pos ⟨by omega, by omega⟩ (r3Words_l0 hd hl d.length 0 (List.replicate ((d.length + 1) / 2) 0) (by omega) (WF.replicate _) (by simp) (by rw [val_replicate]; simp [v32]) (fun j _ => hrep _ j) (fun h => by omega)).ev
end Go.Proofs.YtmoeaeflljpboaaDoor.X
