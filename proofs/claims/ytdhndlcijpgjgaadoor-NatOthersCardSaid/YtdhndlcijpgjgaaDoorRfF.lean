/- Plain law: the reference's Shl, Shr, Jam, Root and Power, by the numbers. Conditions: the words are words, the lists are not longer than memory. -/
import Derived.Test.YtdhndlcijpgjgaaDoorRfC
import Derived.Test.YtdhndlcijpgjgaaDoorNatJ
namespace Go.Proofs.YtdhndlcijpgjgaaDoor.X
open Go Go.Rex
set_option linter.unusedVariables false

theorem rShl_ev {a : List Int} (ha : WF a) (la : Lb a) (n : Int) : Ev (fun k => vernierref02_Shl k a n) (if n < 0 ∨ 65536 < n then (([] : List Int), (7 : Int)) else if (digs (val a)).length ≤ 1024 ∧ (digs (val a * 2 ^ n.toNat)).length ≤ 1024 then (digs (val a * 2 ^ n.toNat), (0 : Int)) else (([] : List Int), (5 : Int))) := by
  refine Ev.congr (fun k => vernierref02_Shl_eq k a n) ?_
  by_cases c1 : n < 0
  · rw [if_pos (show n < 0 ∨ 65536 < n from .inl c1)]; exact Ev.pos (dT c1) (Ev.some _)
  · refine Ev.neg (dF c1) ?_
    by_cases c2 : n > 65536
    · rw [if_pos (show n < 0 ∨ 65536 < n from .inr c2)]; exact Ev.pos (dT c2) (Ev.some _)
    · rw [if_neg (show ¬ (n < 0 ∨ 65536 < n) by omega)]
      obtain ⟨t, rfl⟩ := Int.eq_ofNat_of_zero_le (show 0 ≤ n by omega)
      rw [Int.toNat_natCast]
      refine Ev.neg (dF c2) (Ev.bind (rsize_ev ha la) ?_)
      by_cases c3 : (digs (val a)).length ≤ 1024
      · refine Ev.neg (dF (by omega)) (Ev.bind (rup_ev ha la (t := t) (by omega) (by omega)) ?_)
        by_cases c4 : (digs (val a * 2 ^ t)).length ≤ 1024
        · rw [if_pos (show _ ∧ _ from ⟨c3, c4⟩)]; exact Ev.neg (dF (by omega)) (Ev.some _)
        · rw [if_neg (show ¬ (_ ∧ _) from fun g => c4 g.2)]; exact Ev.pos (dT (by omega)) (Ev.some _)
      · rw [if_neg (show ¬ (_ ∧ _) from fun g => c3 g.1)]; exact Ev.pos (dT (by omega)) (Ev.some _)
theorem rShr_ev {a : List Int} (ha : WF a) (la : Lb a) {n : Int} (hn : n ≤ 9223372036854775807) : Ev (fun k => vernierref02_Shr k a n) (if n < 0 then (([] : List Int), (7 : Int)) else (digs (val a / 2 ^ n.toNat), (0 : Int))) := by
  refine Ev.congr (fun k => vernierref02_Shr_eq k a n) ?_
  by_cases c1 : n < 0
  · rw [if_pos c1]; exact Ev.pos (dT c1) (Ev.some _)
  · obtain ⟨t, rfl⟩ := Int.eq_ofNat_of_zero_le (show 0 ≤ n by omega)
    rw [if_neg c1, Int.toNat_natCast]
    exact Ev.neg (dF c1) (Ev.bind (rdown_ev ha la t (by omega)) (Ev.some _))
theorem rJam_j1 {a : List Int} (ha : WF a) (la : Lb a) {n : Nat} (lost : Bool) (hl : lost = decide (val a % 2 ^ n ≠ 0)) (h44 : (digs (val a)).length ≤ 17592186044000) : Ev (fun k => vernierref02_Jam.j1 k lost (digs (val a / 2 ^ n))) (digs (jamN (val a) n), (0 : Int)) := by
  have hd : (digs (val a / 2 ^ n)).length ≤ 17592186044000 := Nat.le_trans (digs_len_mono (Nat.div_le_self _ _)) h44
  refine Ev.congr (fun k => vernierref02_Jam.j1_eq k _ _) ?_
  unfold jamN
  by_cases c : val a % 2 ^ n = 0
  · rw [if_pos c, hl]
    exact Ev.neg (by simp [c]) (Ev.some _)
  · rw [if_neg c, hl]
    generalize val a / 2 ^ n = v at *
    have b0 := rBit_ev (a := digs v) (WF.digs _) 0 (by decide)
    rw [val_digs, Nat.pow_zero, Nat.div_one] at b0
    refine Ev.pos (decide_eq_true c) (Ev.bind b0 ?_)
    by_cases c2 : v % 2 = 0
    · have h1w : val ((List.replicate 1 (0 : Int)).set 0 1) = 1 := rfl
      have l1 : (digs 1).length ≤ 1 := digs_length_lt.2 (by decide)
      have ad := rAdd_ev (a := digs v) (b := (List.replicate 1 (0 : Int)).set 0 1) (WF.digs _) (WF.cons (by decide) (by decide) WF.nil) (by unfold Lb; omega) (by unfold Lb; simp) (by rw [val_digs]; omega) (by rw [h1w]; omega)
      rw [val_digs, h1w] at ad
      refine Ev.pos (bT (by omega)) (Ev.bind ad (Ev.eq (Ev.some _) ?_))
      congr 2; omega
    · refine Ev.neg (bF (by omega)) (Ev.eq (Ev.some _) ?_)
      congr 2; omega
theorem rJam_l0 {a : List Int} (ha : WF a) (la : Lb a) {n : Nat} (hn : n < 9223372036854775808) (h44 : (digs (val a)).length ≤ 17592186044000) (d : Nat) : ∀ i : Nat, (i + d = min n (blen (val a))) → val a % 2 ^ i = 0 → Ev2 (fun k m => vernierref02_Jam.l0 k m a (n : Int) false (i : Int) (digs (val a / 2 ^ n))) (digs (jamN (val a) n), (0 : Int)) := by
  have hbl := blen_len (Nat.le_refl (digs (val a)).length)
  have done_ : ∀ (lost : Bool), lost = decide (val a % 2 ^ n ≠ 0) → Ev2 (fun k m => vernierref02_Jam.j1 k lost (digs (val a / 2 ^ n))) (digs (jamN (val a) n), (0 : Int)) := fun lost hl => by
    obtain ⟨k0, hk⟩ := rJam_j1 ha la lost hl h44
    exact ⟨k0, fun k hk' _ _ => hk k hk'⟩
  have lift : ∀ i : Nat, i ≤ n → val a % 2 ^ i ≠ 0 → val a % 2 ^ n ≠ 0 := fun i hi h1 h2 => by
    apply h1
    have := Nat.mod_mod_of_dvd (val a) (Nat.pow_dvd_pow 2 hi)
    rw [h2] at this
    rw [← this]; exact Nat.zero_mod _
  induction d with
  | zero =>
    intro i hi h0
    refine Ev2.step (fun k m => vernierref02_Jam.l0_eq k m _ _ _ _ _) ?_
    by_cases c : i < n
    · refine Ev2.pos (dT (by omega)) (Ev2.call (rLen_ev ha la) (Ev2.neg (dF (by omega)) (done_ false ?_)))
      have hlt := blen_lt (val a)
      have : val a = 0 := by
        have : val a < 2 ^ i := Nat.lt_of_lt_of_le hlt (Nat.pow_le_pow_right (by decide) (by omega))
        rwa [Nat.mod_eq_of_lt this] at h0
      rw [this]; simp
    · refine Ev2.neg (dF (by omega)) (done_ false ?_)
      have : i = n := by omega
      subst this
      rw [h0]; simp
  | succ d ih =>
    intro i hi h0
    have bi := rBit_ev ha i (by omega)
    refine Ev2.step (fun k m => vernierref02_Jam.l0_eq k m _ _ _ _ _) (Ev2.pos (dT (by omega)) (Ev2.call (rLen_ev ha la) (Ev2.pos (dT (by omega)) (Ev2.pos rfl (Ev2.call bi ?_)))))
    rw [succ_i i (by omega)]
    have hsucc : val a % 2 ^ (i + 1) = 2 ^ i * (val a / 2 ^ i % 2) := by
      rw [Nat.pow_succ, Nat.mod_mul, h0, Nat.zero_add]
    by_cases c : val a / 2 ^ i % 2 = 1
    · have hl : val a % 2 ^ n ≠ 0 := lift (i + 1) (by omega) (by rw [hsucc, c]; have := Nat.two_pow_pos i; omega)
      have e : ((((val a / 2 ^ i % 2 : Nat) : Int)) == 1) = true := bT (by omega)
      rw [e]
      refine Ev2.step (fun k m => vernierref02_Jam.l0_eq k m _ _ _ _ _) ?_
      have fin := done_ true (by rw [decide_eq_true hl])
      by_cases c2 : i + 1 < n
      · refine Ev2.pos (dT (by omega)) (Ev2.call (rLen_ev ha la) ?_)
        by_cases c3 : i + 1 < blen (val a)
        · exact Ev2.pos (dT (by omega)) (Ev2.neg (by simp) fin)
        · exact Ev2.neg (dF (by omega)) fin
      · exact Ev2.neg (dF (by omega)) fin
    · have e : ((((val a / 2 ^ i % 2 : Nat) : Int)) == 1) = false := beq_eq_false_iff_ne.2 (by omega)
      rw [e]
      exact ih (i + 1) (by omega) (by rw [hsucc, show val a / 2 ^ i % 2 = 0 by omega, Nat.mul_zero])
theorem rJam_ev {a : List Int} (ha : WF a) (la : Lb a) {n : Int} (hn : n ≤ 9223372036854775807) (h44 : (digs (val a)).length ≤ 17592186044000) : Ev (fun k => vernierref02_Jam k a n) (if n < 0 then (([] : List Int), (7 : Int)) else (digs (jamN (val a) n.toNat), (0 : Int))) := by
  refine Ev.congr (fun k => vernierref02_Jam_eq k a n) ?_
  by_cases c1 : n < 0
  · rw [if_pos c1]; exact Ev.pos (dT c1) (Ev.some _)
  · obtain ⟨t, rfl⟩ := Int.eq_ofNat_of_zero_le (show 0 ≤ n by omega)
    rw [if_neg c1, Int.toNat_natCast]
    exact Ev.neg (dF c1) (Ev.bind (rdown_ev ha la t (by omega)) (rJam_l0 ha la (by omega) h44 (min t (blen (val a))) 0 (by omega) (Nat.mod_one _)).ev)
/-! ### Root -/
theorem root_step {X r s b : Nat} (hs : r * r + s = X) (h2 : X < (r + 1) * (r + 1)) (hb : b < 4) :
    (4 * r + 1 ≤ 4 * s + b → (2 * r + 1) * (2 * r + 1) + (4 * s + b - (4 * r + 1)) = 4 * X + b ∧ 4 * X + b < (2 * r + 1 + 1) * (2 * r + 1 + 1)) ∧
    (¬ (4 * r + 1 ≤ 4 * s + b) → 2 * r * (2 * r) + (4 * s + b) = 4 * X + b ∧ 4 * X + b < (2 * r + 1) * (2 * r + 1)) := by
  have e1 : (r + 1) * (r + 1) = r * r + 2 * r + 1 := by grind
  have e2 : (2 * r + 1) * (2 * r + 1) = 4 * (r * r) + 4 * r + 1 := by grind
  have e3 : (2 * r + 1 + 1) * (2 * r + 1 + 1) = 4 * (r * r) + 8 * r + 4 := by grind
  have e4 : 2 * r * (2 * r) = 4 * (r * r) := by grind
  rw [e1] at h2
  rw [e2, e3, e4]
  generalize r * r = q at *
  constructor
  · intro c; omega
  · intro c; omega
theorem rRoot_l0 {a : List Int} (ha : WF a) (la : (digs (val a)).length ≤ 1024) (i : Nat) : ∀ (r s : Nat), i ≤ 40000 → r * r + s = val a / 2 ^ (2 * i) → val a / 2 ^ (2 * i) < (r + 1) * (r + 1) →
    ∃ R, R * R ≤ val a ∧ val a < (R + 1) * (R + 1) ∧ Ev2 (fun k m => vernierref02_Root.l0 k m a (i : Int) (digs r) (digs s)) (digs R, (decide (R * R = val a), (0 : Int))) := by
  induction i with
  | zero =>
    intro r s _ h1 h2
    rw [Nat.mul_zero, Nat.pow_zero, Nat.div_one] at h1 h2
    refine ⟨r, by omega, h2, Ev2.step (fun k m => vernierref02_Root.l0_eq k m _ _ _ _) (Ev2.neg (dF (by decide)) (Ev2.eq (Ev2.some _) ?_))⟩
    congr 2
    by_cases c : s = 0
    · subst c
      rw [digs_zero, decide_eq_true (show r * r = val a by omega)]; rfl
    · have := digs_len_pos.2 c
      rw [decide_eq_false (show ¬ (r * r = val a) by omega)]
      exact beq_eq_false_iff_ne.2 (by omega)
  | succ i ih =>
    intro r s hi h1 h2
    -- two bits more
    obtain ⟨b, hb⟩ : ∃ b, val a / 2 ^ (2 * i) % 4 = b := ⟨_, rfl⟩
    have hb4 : b < 4 := by omega
    have hX : val a / 2 ^ (2 * i) = 4 * (val a / 2 ^ (2 * (i + 1))) + b := by
      rw [show 2 * (i + 1) = 2 * i + 2 by omega, Nat.pow_add, ← Nat.div_div_eq_div_mul, show (2 : Nat) ^ 2 = 4 from rfl]; omega
    have hbits : val a / 2 ^ (2 * i + 1) % 2 = b / 2 ∧ val a / 2 ^ (2 * i) % 2 = b % 2 := by
      rw [Nat.pow_succ, ← Nat.div_div_eq_div_mul]; omega
    obtain ⟨st1, st2⟩ := root_step h1 h2 hb4
    rw [← hX] at st1 st2
    have b1 := rBit_ev ha (2 * i + 1) (by omega)
    have b0 := rBit_ev ha (2 * i) (by omega)
    rw [hbits.1] at b1
    rw [hbits.2] at b0
    have hxa : val a / 2 ^ (2 * (i + 1)) ≤ val a := Nat.div_le_self _ _
    have hsl : (digs s).length ≤ 1024 := Nat.le_trans (digs_len_mono (by omega)) la
    have hrl : (digs r).length ≤ 1024 := by
      refine Nat.le_trans (digs_len_mono ?_) la
      rcases Nat.eq_zero_or_pos r with g | g
      · omega
      · have := Nat.le_mul_of_pos_left r g; omega
    have u1 := rup_ev (a := digs s) (WF.digs _) (by unfold Lb; omega) (t := 2) (by decide) (by rw [val_digs]; omega)
    have u2 := rup_ev (a := digs r) (WF.digs _) (by unfold Lb; omega) (t := 2) (by decide) (by rw [val_digs]; omega)
    have u3 := rup_ev (a := digs r) (WF.digs _) (by unfold Lb; omega) (t := 1) (by decide) (by rw [val_digs]; omega)
    rw [val_digs, show (2 : Nat) ^ 2 = 4 from rfl] at u1 u2
    rw [val_digs, Nat.pow_one] at u3
    have l1 : (digs (s * 4)).length ≤ 1025 := Nat.le_trans (shl_len_ (n := 2) hsl) (by omega)
    have l2 : (digs (r * 4)).length ≤ 1025 := Nat.le_trans (shl_len_ (n := 2) hrl) (by omega)
    have l3 : (digs (r * 2)).length ≤ 1025 := Nat.le_trans (shl_len_ (n := 1) hrl) (by omega)
    have hvb : val ((List.replicate 1 (0 : Int)).set 0 (b : Int)) = b := by
      show (b : Int).toNat + 18446744073709551616 * 0 = b
      rw [Int.toNat_natCast]; omega
    have h1w : val ((List.replicate 1 (0 : Int)).set 0 1) = 1 := rfl
    have lb1 : (digs b).length ≤ 1 := digs_length_lt.2 (by rw [Nat.pow_one]; omega)
    have l1' : (digs 1).length ≤ 1 := digs_length_lt.2 (by decide)
    have a1 := rAdd_ev (a := digs (s * 4)) (b := (List.replicate 1 (0 : Int)).set 0 (b : Int)) (WF.digs _) (WF.cons (by omega) (by omega) WF.nil) (by unfold Lb; omega) (by unfold Lb; simp) (by rw [val_digs]; omega) (by rw [hvb]; omega)
    have a2 := rAdd_ev (a := digs (r * 4)) (b := (List.replicate 1 (0 : Int)).set 0 1) (WF.digs _) (WF.cons (by decide) (by decide) WF.nil) (by unfold Lb; omega) (by unfold Lb; simp) (by rw [val_digs]; omega) (by rw [h1w]; omega)
    have a3 := rAdd_ev (a := digs (r * 2)) (b := (List.replicate 1 (0 : Int)).set 0 1) (WF.digs _) (WF.cons (by decide) (by decide) WF.nil) (by unfold Lb; omega) (by unfold Lb; simp) (by rw [val_digs]; omega) (by rw [h1w]; omega)
    rw [val_digs, hvb] at a1
    rw [val_digs, h1w] at a2 a3
    have m1 : (digs (s * 4 + b)).length ≤ 1026 := small_len l1 (by omega) (by omega)
    have m2 : (digs (r * 4 + 1)).length ≤ 1026 := small_len l2 (by decide) (by omega)
    have cm := rCmp_ev (a := digs (s * 4 + b)) (b := digs (r * 4 + 1)) (WF.digs _) (WF.digs _) (by unfold Lb; omega) (by unfold Lb; omega)
    rw [val_digs, val_digs] at cm
    have e1 : IntKind.i64.wrap ((IntKind.i64.wrap (2 * ((i + 1 : Nat) : Int))) - 1) = ((2 * i + 1 : Nat) : Int) := by rw [two_i _ (by omega), wrapI (by omega) (by omega)]; omega
    have e0 : IntKind.i64.wrap ((IntKind.i64.wrap (2 * ((i + 1 : Nat) : Int))) - 2) = ((2 * i : Nat) : Int) := by rw [two_i _ (by omega), wrapI (by omega) (by omega)]; omega
    have eb : IntKind.u64.wrap ((IntKind.u64.wrap (2 * ((b / 2 : Nat) : Int))) + ((b % 2 : Nat) : Int)) = (b : Int) := by rw [wrap_u64, wrap_u64]; omega
    have start : ∀ {R : Nat} {o}, o = (digs R, (decide (R * R = val a), (0 : Int))) → Ev2 (fun k n => (if decide (cmpN (s * 4 + b) (r * 4 + 1) ≥ 0) then ((vernierref02_less k (digs (s * 4 + b)) (digs (r * 4 + 1)))).bind fun o10 => ((vernierref02_Add k (digs (r * 2)) ((List.replicate 1 (0 : Int)).set 0 1))).bind fun o11 => vernierref02_Root.l0 k n a (i : Int) o11 o10 else vernierref02_Root.l0 k n a (i : Int) (digs (r * 2)) (digs (s * 4 + b)))) o → Ev2 (fun k m => vernierref02_Root.l0 k m a ((i + 1 : Nat) : Int) (digs r) (digs s)) (digs R, (decide (R * R = val a), (0 : Int))) := by
      intro R o ho hE
      subst ho
      refine Ev2.step (fun k m => vernierref02_Root.l0_eq k m _ _ _ _) (Ev2.pos (dT (by omega)) (Ev2.call u1 ?_))
      rw [e1, e0]
      refine Ev2.call b1 (Ev2.call b0 ?_)
      rw [eb]
      refine Ev2.call a1 (Ev2.call u2 (Ev2.call a2 (Ev2.call u3 (Ev2.call cm ?_))))
      rw [show IntKind.i64.wrap (((i + 1 : Nat) : Int) - 1) = (i : Int) by rw [wrapI (by omega) (by omega)]; omega]
      exact hE
    by_cases c : 4 * r + 1 ≤ 4 * s + b
    · obtain ⟨t1, t2⟩ := st1 c
      obtain ⟨R, R1, R2, R3⟩ := ih (2 * r + 1) (4 * s + b - (4 * r + 1)) (by omega) t1 t2
      refine ⟨R, R1, R2, start rfl ?_⟩
      have ls := rless_ev (a := digs (s * 4 + b)) (b := digs (r * 4 + 1)) (WF.digs _) (WF.digs _) (by unfold Lb; omega) (by rw [val_digs, val_digs]; omega)
      rw [val_digs, val_digs] at ls
      refine Ev2.pos (dT (by unfold cmpN; rw [if_neg (by omega)]; split <;> decide)) (Ev2.call ls (Ev2.call a3 ?_))
      rw [show r * 2 + 1 = 2 * r + 1 by omega, show s * 4 + b - (r * 4 + 1) = 4 * s + b - (4 * r + 1) by omega]
      exact R3
    · obtain ⟨t1, t2⟩ := st2 c
      obtain ⟨R, R1, R2, R3⟩ := ih (2 * r) (4 * s + b) (by omega) t1 t2
      refine ⟨R, R1, R2, start rfl (Ev2.neg (dF (by rw [cmpN, if_pos (by omega)]; decide)) ?_)⟩
      rw [show r * 2 = 2 * r by omega, show s * 4 + b = 4 * s + b by omega]
      exact R3
theorem rRoot_ev {a : List Int} (ha : WF a) (la : Lb a) (hl : (digs (val a)).length ≤ 1024) : ∃ R, R * R ≤ val a ∧ val a < (R + 1) * (R + 1) ∧ Ev (fun k => vernierref02_Root k a) (digs R, (decide (R * R = val a), (0 : Int))) := by
  have hb := blen_len hl
  have hz : val a / 2 ^ (2 * ((blen (val a) + 1) / 2)) = 0 := Nat.div_eq_of_lt (Nat.lt_of_lt_of_le (blen_lt _) (Nat.pow_le_pow_right (by decide) (by omega)))
  obtain ⟨R, R1, R2, R3⟩ := rRoot_l0 ha hl ((blen (val a) + 1) / 2) 0 0 (by omega) (by rw [hz]) (by rw [hz]; decide)
  refine ⟨R, R1, R2, Ev.congr (fun k => vernierref02_Root_eq k a) (Ev.bind (rsize_ev ha la) (Ev.neg (dF (by omega)) (Ev.bind (rLen_ev ha la) ?_)))⟩
  rw [show IntKind.i64.wrap ((IntKind.i64.wrap (((blen (val a) : Nat) : Int) + 1)).tdiv 2) = (((blen (val a) + 1) / 2 : Nat) : Int) by
    rw [succ_i _ (by omega), show (2 : Int) = ((2 : Nat) : Int) from rfl, tdiv_nat, wrapI (by omega) (by omega)]]
  rw [digs_zero] at R3
  exact R3.ev
theorem rRoot_size {a : List Int} (ha : WF a) (la : Lb a) (hl : 1024 < (digs (val a)).length) : Ev (fun k => vernierref02_Root k a) (([] : List Int), (false, (5 : Int))) :=
  Ev.congr (fun k => vernierref02_Root_eq k a) (Ev.bind (rsize_ev ha la) (Ev.pos (dT (by omega)) (Ev.some _)))
theorem sqrt_uniq {A r s : Nat} (h1 : r * r ≤ A) (h2 : A < (r + 1) * (r + 1)) (h3 : s * s ≤ A) (h4 : A < (s + 1) * (s + 1)) : r = s := by
  have a1 : ¬ (r + 1 ≤ s) := fun g => by have := Nat.mul_le_mul g g; omega
  have a2 : ¬ (s + 1 ≤ r) := fun g => by have := Nat.mul_le_mul g g; omega
  omega
/-! ### Power -/
theorem rPower_l1 {b N : Nat} (hb : b < 18446744073709551616) (hN : N ≤ 20000) (d : Nat) : ∀ i : Nat, i + d = N → (digs (b ^ i)).length ≤ 1024 → b ^ i ≠ 0 → Ev2 (fun k m => vernierref02_Power.l1 k m (b : Int) (N : Int) (i : Int) (digs (b ^ i))) (if (digs (b ^ N)).length ≤ 1024 then (digs (b ^ N), (0 : Int)) else (([] : List Int), (5 : Int))) := by
  have hvb : val ((List.replicate 1 (0 : Int)).set 0 (b : Int)) = b := by
    show (b : Int).toNat + 18446744073709551616 * 0 = b
    rw [Int.toNat_natCast]; omega
  have lb1 : (digs b).length ≤ 1 := digs_length_lt.2 (by rw [Nat.pow_one]; exact hb)
  induction d with
  | zero =>
    intro i hi hl h0
    obtain rfl : i = N := by omega
    rw [if_pos hl]
    exact Ev2.step (fun k m => vernierref02_Power.l1_eq k m _ _ _ _) (Ev2.neg (dF (by omega)) (Ev2.some _))
  | succ d ih =>
    intro i hi hl h0
    refine Ev2.step (fun k m => vernierref02_Power.l1_eq k m _ _ _ _) (Ev2.pos (dT (by omega)) ?_)
    by_cases c1 : b = 1
    · subst c1
      rw [Nat.one_pow, Nat.one_pow] at *
      rw [if_pos hl]
      exact Ev2.neg (nF rfl) (Ev2.some _)
    · have pr := rproduct_ev (a := digs (b ^ i)) (b := (List.replicate 1 (0 : Int)).set 0 (b : Int)) (WF.digs _) (WF.cons (by omega) (by omega) WF.nil) (by unfold Lb; omega) (by unfold Lb; simp) (by rw [val_digs]; omega) (by rw [hvb]; omega)
      have pe : b ^ i * b = b ^ (i + 1) := by rw [Nat.pow_succ]
      rw [val_digs, hvb, pe] at pr
      refine Ev2.pos (nT (by omega)) (Ev2.call pr ?_)
      rw [succ_i i (by omega)]
      by_cases c0 : b = 0
      · subst c0
        rw [Nat.zero_pow (by omega), Nat.zero_pow (by omega), digs_zero]
        exact Ev2.neg (dF (by simp)) (Ev2.pos (bT rfl) (Ev2.eq (Ev2.some _) (by simp)))
      · have hmono : b ^ (i + 1) ≤ b ^ N := Nat.pow_le_pow_right (by omega) (by omega)
        have hne : b ^ (i + 1) ≠ 0 := by have := Nat.pow_pos (n := i + 1) (show 0 < b by omega); omega
        by_cases c2 : (digs (b ^ (i + 1))).length ≤ 1024
        · have hp := digs_len_pos.2 hne
          exact Ev2.neg (dF (by omega)) (Ev2.neg (bF (by omega)) (ih (i + 1) (by omega) c2 hne))
        · have := digs_len_mono hmono
          rw [if_neg (by omega)]
          exact Ev2.pos (dT (by omega)) (Ev2.some _)
theorem rPower_ev {b : Nat} (hb : b < 18446744073709551616) (n : Int) : Ev (fun k => vernierref02_Power k (b : Int) n) (if n < 0 ∨ 20000 < n then (([] : List Int), (7 : Int)) else if (digs (b ^ n.toNat)).length ≤ 1024 then (digs (b ^ n.toNat), (0 : Int)) else (([] : List Int), (5 : Int))) := by
  refine Ev.congr (fun k => vernierref02_Power_eq k _ _) ?_
  by_cases c1 : n < 0
  · rw [if_pos (show n < 0 ∨ 20000 < n from .inl c1)]; exact Ev.pos (dT c1) (Ev.some _)
  · refine Ev.neg (dF c1) ?_
    by_cases c2 : n > 20000
    · rw [if_pos (show n < 0 ∨ 20000 < n from .inr c2)]; exact Ev.pos (dT c2) (Ev.some _)
    · rw [if_neg (show ¬ (n < 0 ∨ 20000 < n) by omega)]
      obtain ⟨t, rfl⟩ := Int.eq_ofNat_of_zero_le (show 0 ≤ n by omega)
      rw [Int.toNat_natCast]
      refine Ev.neg (dF c2) (Ev.congr (fun k => vernierref02_Power.j0_eq k _ _) ?_)
      have e2 : ((List.replicate 1 (0 : Int)).set 0 1) = digs 1 := by rw [digs_pos (by decide)]; simp [digs_zero]
      have l1 : (digs 1).length ≤ 1 := digs_length_lt.2 (by decide)
      have := (rPower_l1 hb (N := t) (by omega) t 0 (by omega) (by rw [Nat.pow_zero]; omega) (by simp)).ev
      rw [Nat.pow_zero] at this
      rw [e2]
      exact this
end Go.Proofs.YtdhndlcijpgjgaaDoor.X
