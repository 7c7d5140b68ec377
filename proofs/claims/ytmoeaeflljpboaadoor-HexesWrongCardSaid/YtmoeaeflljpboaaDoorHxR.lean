/- Plain law: the hexadecimal text of a float, by the reference. Conditions: those of the call. -/
import Derived.Test.YtmoeaeflljpboaaDoorHxQ
namespace Go.Proofs.YtmoeaeflljpboaaDoor.X
open Go Go.Rex
set_option linter.unusedVariables false

theorem hex_at : ∀ d : Fin 16, ((bl vernierref15_Print.s5).drop d.val).take (d.val + (d.val + 1 - d.val) - d.val) = [hexc d.val] := by decide
theorem hex_ext {d : Nat} (h : d < 16) : bl (vernierref15_Print.s5.extract d (d + (d + 1 - d))) = [hexc d] := by rw [bl_extract]; exact hex_at ⟨d, h⟩
theorem rprint_l1 {s0 : ByteArray} (h0 : (bl s0).length ≤ 1) {x1 x10 : Int} (hq : -50000 ≤ x10 + x1 ∧ x10 + x1 ≤ 50000) (b4 b5 b6 b7 b8 : Bool) (l9 : List Int) (n : Nat) : ∀ (r : Nat) (s3 : ByteArray), n ≤ 16 → r < 2 ^ 64 → 2 ^ (64 - 4 * n) ∣ r → (bl s3).length + n ≤ 500 →
    ∃ s : ByteArray, Ev2 (fun k m => vernierref15_Print.l1 k m s0 x1 (r : Int) s3 b4 b5 b6 b7 b8 l9 x10) (s, 0) ∧ bl s = bl s0 ++ [48, 120, 49] ++ (if bl s3 ++ hexs n r = [] then [] else 46 :: (bl s3 ++ hexs n r)) ++ 112 :: numT (x10 + x1) := by
  have e0 : bl vernierref15_Print.s0 = [] := by decide
  have e6 : bl vernierref15_Print.s6 = [48, 120, 49] := by decide
  have e7 : bl vernierref15_Print.s7 = [46] := by decide
  have e8 : bl vernierref15_Print.s8 = [112] := by decide
  have hs5 : vernierref15_Print.s5.size = 16 := by decide
  obtain ⟨o, q1, q2⟩ := number_ev (q := x10 + x1) (by omega)
  have hol : (bl o).length ≤ 10 := by
    rw [q2]
    unfold numT decL
    have : (decs (x10 + x1).natAbs).length ≤ 6 := decs_len.2 (by omega)
    rw [List.length_cons]
    split
    · simp
    · rw [List.length_reverse]; omega
  have hw : IntKind.i64.wrap (x10 + x1) = x10 + x1 := wrapI (by omega) (by omega)
  have stop : ∀ (s3 : ByteArray), (bl s3).length ≤ 500 → ∃ s : ByteArray, Ev2 (fun k m => vernierref15_Print.l1 k m s0 x1 ((0 : Nat) : Int) s3 b4 b5 b6 b7 b8 l9 x10) (s, 0) ∧ bl s = bl s0 ++ [48, 120, 49] ++ (if bl s3 ++ [] = [] then [] else 46 :: (bl s3 ++ [])) ++ 112 :: numT (x10 + x1) := by
    intro s3 hl
    rw [List.append_nil]
    have st : ∀ {r}, _ → Ev2 (fun k m => vernierref15_Print.l1 k m s0 x1 ((0 : Nat) : Int) s3 b4 b5 b6 b7 b8 l9 x10) r := fun hh => Ev2.step (fun k m => vernierref15_Print.l1_eq k m _ _ _ _ _ _ _ _ _ _ _) (Ev2.neg (by decide) (Ev2.pos (cat_le (by rw [e6]; simp; omega)) hh))
    rw [hw, toList_bl, e0] at st
    by_cases c : bl s3 = []
    · rw [if_pos c]
      rw [decide_eq_true c] at st
      refine ⟨_, st (Ev2.neg (by simp) (Ev2.pos (cat_le (by rw [bl_append, e6, e8]; simp; omega)) (Ev2.call q1 (Ev2.pos (cat_le (by rw [bl_append, bl_append, e6, e8]; simp; omega)) (Ev2.some _))))), ?_⟩
      rw [bl_append, bl_append, bl_append, e6, e8, q2]; simp
    · rw [if_neg c]
      rw [decide_eq_false c] at st
      refine ⟨_, st (Ev2.pos rfl (Ev2.pos (cat_le (by rw [e7]; simp; omega)) (Ev2.pos (cat_le (by rw [bl_append, bl_append, e6, e7]; simp; omega)) (Ev2.pos (cat_le (by rw [bl_append, bl_append, bl_append, e6, e7, e8]; simp; omega)) (Ev2.call q1 (Ev2.pos (cat_le (by rw [bl_append, bl_append, bl_append, bl_append, e6, e7, e8]; simp; omega)) (Ev2.some _))))))), ?_⟩
      rw [bl_append, bl_append, bl_append, bl_append, bl_append, e6, e7, e8, q2]; simp
  induction n with
  | zero =>
    intro r s3 hn hr hd hl
    obtain ⟨c, rfl⟩ := hd
    have : c = 0 := by
      rcases Nat.eq_zero_or_pos c with g | g
      · exact g
      · have := Nat.mul_le_mul_left (2 ^ 64) g
        simp at hr; omega
    subst this
    rw [Nat.mul_zero]
    exact stop s3 (by omega)
  | succ n ih =>
    intro r s3 hn hr hd hl
    by_cases c : r = 0
    · subst c
      rw [hexs, if_pos rfl]
      exact stop s3 (by omega)
    · have h60 : r / 2 ^ 60 < 16 := by omega
      have hx := hex_ext h60
      have w1 : IntKind.u64.wrap (((r / 2 ^ 60 : Nat) : Int) + 1) = ((r / 2 ^ 60 + 1 : Nat) : Int) := by rw [wrap_u64]; omega
      have st : ∀ {z}, _ → Ev2 (fun k m => vernierref15_Print.l1 k m s0 x1 (r : Int) s3 b4 b5 b6 b7 b8 l9 x10) z := fun hh => Ev2.step (fun k m => vernierref15_Print.l1_eq k m _ _ _ _ _ _ _ _ _ _ _) (Ev2.pos (dT (by omega)) hh)
      rw [show shrK IntKind.u64 (r : Int) 60 = ((r / 2 ^ 60 : Nat) : Int) from shrK_nat r 60 (by decide), shl4 (by omega), w1, Int.toNat_natCast, Int.toNat_natCast] at st
      generalize hT : vernierref15_Print.s5.extract (r / 2 ^ 60) (r / 2 ^ 60 + (r / 2 ^ 60 + 1 - r / 2 ^ 60)) = T at *
      obtain ⟨s, g3, g4⟩ := ih (r * 16 % 2 ^ 64) (s3 ++ T) (by omega) (Nat.mod_lt _ (by decide)) (by
        have h1 : 2 ^ (64 - 4 * n) ∣ r * 16 := by
          have e : 2 ^ (64 - 4 * n) = 2 ^ (64 - 4 * (n + 1)) * 16 := by rw [show 64 - 4 * n = 64 - 4 * (n + 1) + 4 by omega, Nat.pow_add]
          rw [e]; exact Nat.mul_dvd_mul_right hd 16
        exact (Nat.dvd_mod_iff (Nat.pow_dvd_pow 2 (by omega))).2 h1) (by rw [bl_append, hx]; simp; omega)
      refine ⟨s, st (Ev2.pos ⟨by omega, by omega, by omega⟩ (Ev2.pos (cat_le (by rw [hx]; simp; omega)) g3)), ?_⟩
      rw [g4, bl_append, hx, hexs, if_neg c]; simp
theorem rst_shift {n : Nat} (h0 : n ≠ 0) (hb : blen n ≤ 64) : shlK IntKind.u64 (shlK IntKind.u64 (n : Int) ((64 - blen n : Nat) : Int)) 1 = ((rst n : Nat) : Int) ∧ rst n < 2 ^ 64 := by
  have b1 := blen_le h0
  have b2 := blen_lt n
  have b3 := blen_pos h0
  have hlt : n * 2 ^ (64 - blen n) < 18446744073709551616 := by
    have h1 : n * 2 ^ (64 - blen n) < 2 ^ blen n * 2 ^ (64 - blen n) := Nat.mul_lt_mul_of_pos_right b2 (Nat.two_pow_pos _)
    rw [← Nat.pow_add, show blen n + (64 - blen n) = 64 by omega] at h1
    exact h1
  have e1 : 2 ^ (blen n - 1) * 2 ^ (65 - blen n) = 18446744073709551616 := by rw [← Nat.pow_add, show blen n - 1 + (65 - blen n) = 64 by omega]
  have e2 : n * 2 ^ (64 - blen n) * 2 ^ 1 = n * 2 ^ (65 - blen n) := by rw [Nat.mul_assoc, ← Nat.pow_add]; congr 2; omega
  obtain ⟨d, hd⟩ : ∃ d, n = 2 ^ (blen n - 1) + d := ⟨n - 2 ^ (blen n - 1), by omega⟩
  have hdl : d < 2 ^ (blen n - 1) := by
    have : 2 ^ blen n = 2 * 2 ^ (blen n - 1) := by rw [show blen n = (blen n - 1) + 1 by omega, Nat.pow_succ, Nat.mul_comm]; rfl
    omega
  have hr : rst n = d * 2 ^ (65 - blen n) := by unfold rst; rw [show n - 2 ^ (blen n - 1) = d by omega]
  have h3 : d * 2 ^ (65 - blen n) < 18446744073709551616 := by rw [← e1]; exact Nat.mul_lt_mul_of_pos_right hdl (Nat.two_pow_pos _)
  have e3 : n * 2 ^ (65 - blen n) = 18446744073709551616 + d * 2 ^ (65 - blen n) := by
    have : n * 2 ^ (65 - blen n) = (2 ^ (blen n - 1) + d) * 2 ^ (65 - blen n) := by rw [← hd]
    rw [this, Nat.add_mul, e1]
  refine ⟨?_, by rw [hr]; exact h3⟩
  rw [shlK_exact n (64 - blen n) (by omega) hlt]
  have := shlK_nat (n * 2 ^ (64 - blen n)) 1 (by decide)
  rw [show ((1 : Nat) : Int) = 1 from rfl] at this
  rw [this, e2, e3, hr, Nat.add_mod_left, Nat.mod_eq_of_lt h3]
section
variable {f : Int} {W P : Nat} {em ex : Int} (h : Fm f W P em ex)
include h
theorem fits15 {a : Nat} (ha : a < 18446744073709551616) (k : Nat) : vernierref06_Fits k f (a : Int) = some (decide (a < 2 ^ W)) := by
  have h1 := h.w64; have h2 := h.p8; have h3 := h.wp
  rw [vernierref06_Fits_eq, params06 h, Option.bind_some]
  by_cases c : W = 64
  · rw [if_pos (bT (by show (W : Int) = 64; omega)), c, decide_eq_true (show a < 2 ^ 64 from ha)]
  · rw [if_neg (bF (by show ¬ (W : Int) = 64; omega))]
    show (if 0 ≤ IntKind.u64.wrap (W : Int) then some (shrK IntKind.u64 (a : Int) (IntKind.u64.wrap (W : Int)) == 0) else none) = _
    rw [wrapUn (by omega), if_pos (by omega), shrK_nat a W (by omega)]
    congr 1
    have hp := Nat.two_pow_pos W
    by_cases c2 : a < 2 ^ W
    · rw [decide_eq_true c2, Nat.div_eq_of_lt c2]; rfl
    · rw [decide_eq_false c2]
      have : 0 < a / 2 ^ W := Nat.div_pos (by omega) hp
      exact beq_eq_false_iff_ne.2 (by omega)
/-- The reference's text. -/
theorem rprint_ev {a : Nat} (ha : a < 2 ^ W) : ∃ s : ByteArray, Ev (fun k => vernierref15_Print k f (a : Int)) (s, 0) ∧ bl s = txtF W P em a := by
  have h8 := h.p8
  have h53 := h.p53
  have m0 := h.m0
  have m1 := h.m1
  have h11 := h.wp11
  have h64 := h.w64
  obtain ⟨x1, x2, x3⟩ := fm_ex h
  have e0 : bl vernierref15_Print.s0 = [] := by decide
  have e1 : bl vernierref15_Print.s1 = nanL := by decide
  have e2 : bl vernierref15_Print.s2 = [45] := by decide
  have e3 : bl vernierref15_Print.s3 = infL := by decide
  have e4 : bl vernierref15_Print.s4 = zeroL := by decide
  have a64 : a < 18446744073709551616 := Nat.lt_of_lt_of_le ha (show 2 ^ W ≤ 2 ^ 64 from Nat.pow_le_pow_right (by decide) h64)
  have kn := known_ev f 0
  rw [show badFm f 0 = 0 by unfold badFm; rw [if_pos ⟨h.f0, h.f4⟩, if_pos (by decide)]] at kn
  obtain ⟨vn, d, e, g1, g2⟩ := open06 h ha
  have st : ∀ {r}, _ → Ev (fun k => vernierref15_Print k f (a : Int)) r := fun hh => Ev.congr (fun k => vernierref15_Print_eq k _ _) (Ev.bind kn (Ev.neg (nF rfl) (Ev.bind (Ev.of fun k => by rw [fits15 h a64, decide_eq_true ha]) (Ev.neg (by simp) (Ev.bind g1 hh)))))
  unfold txtF
  by_cases n2 : infP W P < pk W a
  · rw [if_pos n2]
    exact ⟨_, st (Ev.pos (decide_eq_true n2) (Ev.some _)), e1⟩
  · rw [if_neg n2]
    have key : ∀ (t : ByteArray), bl t = sgT (ps W a) → ∃ s : ByteArray, Ev (fun k => vernierref15_Print.j0 k t (decide (infP W P < pk W a)) (decide (infP W P < pk W a ∧ pk W a < infP W P + 2 ^ (P - 2))) (decide (pk W a = infP W P)) (ps W a) vn d e) (s, 0) ∧ bl s = (if pk W a = infP W P then sgT (ps W a) ++ infL else if pk W a = 0 then sgT (ps W a) ++ zeroL else finT (ps W a) (fN P (pk W a / 2 ^ (P - 1)) (pk W a % 2 ^ (P - 1))) (em - (P : Int) + 1 + (fQ (pk W a / 2 ^ (P - 1)) : Int))) := by
      intro t ht
      have htl := sgT_len (ps W a)
      have c3 : (((t.size + vernierref15_Print.s3.size) : Nat) : Int) ≤ 9223372036854775807 := cat_le (by rw [ht, e3]; simp [infL]; omega)
      have c4 : (((t.size + vernierref15_Print.s4.size) : Nat) : Int) ≤ 9223372036854775807 := cat_le (by rw [ht, e4]; simp [zeroL]; omega)
      by_cases n3 : pk W a = infP W P
      · rw [if_pos n3]
        exact ⟨_, Ev.congr (fun k => vernierref15_Print.j0_eq k _ _ _ _ _ _ _ _) (Ev.pos (decide_eq_true n3) (Ev.pos c3 (Ev.some _))), by rw [bl_append, ht, e3]⟩
      · rw [if_neg n3]
        obtain ⟨r1, r2, r3, r4, r5, r6⟩ := g2 (by omega)
        have go : ∀ {r}, _ → Ev (fun k => vernierref15_Print.j0 k t (decide (infP W P < pk W a)) (decide (infP W P < pk W a ∧ pk W a < infP W P + 2 ^ (P - 2))) (decide (pk W a = infP W P)) (ps W a) vn d e) r := fun hh => Ev.congr (fun k => vernierref15_Print.j0_eq k _ _ _ _ _ _ _ _) (Ev.neg (by rw [decide_eq_false n3]; simp) (Ev.bind (a := ((d.length : Int) == 0)) (Ev.congr (fun k => vernierref06_Float_Zero_eq k _ _ _ _ _ _ _) (Ev.pos (by rw [decide_eq_false n2]; rfl) (Ev.pos (by rw [decide_eq_false n3]; rfl) (Ev.some _)))) hh))
        have hpp := Nat.two_pow_pos (P - 1)
        have hF := Nat.mod_lt (pk W a) hpp
        have hdm := Nat.div_add_mod (pk W a) (2 ^ (P - 1))
        have hn0 : fN P (pk W a / 2 ^ (P - 1)) (pk W a % 2 ^ (P - 1)) = 0 ↔ pk W a = 0 := by
          unfold fN
          constructor
          · intro z
            split at z
            · rename_i c; rw [c, z] at hdm; simpa using hdm.symm
            · omega
          · intro z
            rw [z, Nat.zero_div, Nat.zero_mod, if_pos rfl]
        have hd : d = d32 (fN P (pk W a / 2 ^ (P - 1)) (pk W a % 2 ^ (P - 1))) := by rw [← r5]; exact (d32_val r2 r3).symm
        by_cases n4 : pk W a = 0
        · rw [if_pos n4]
          rw [hn0.2 n4, d32_zero] at hd
          exact ⟨_, go (Ev.pos (bT (by rw [hd]; rfl)) (Ev.pos c4 (Ev.some _))), by rw [bl_append, ht, e4]⟩
        · rw [if_neg n4]
          have hne : fN P (pk W a / 2 ^ (P - 1)) (pk W a % 2 ^ (P - 1)) ≠ 0 := fun z => n4 (hn0.1 z)
          have hnlt : fN P (pk W a / 2 ^ (P - 1)) (pk W a % 2 ^ (P - 1)) < 2 ^ 53 := by
            have h1 : 2 ^ (P - 1) + 2 ^ (P - 1) ≤ 2 ^ 53 := by
              have : 2 ^ (P - 1 + 1) ≤ 2 ^ 53 := Nat.pow_le_pow_right (by decide) (by omega)
              rw [Nat.pow_succ] at this; omega
            unfold fN
            split <;> omega
          have hE : pk W a / 2 ^ (P - 1) < eTop W P := by
            rw [Nat.div_lt_iff_lt_mul hpp]
            have : pk W a < infP W P := by omega
            exact this
          have het : (eTop W P : Int) = 2 * ex + 1 := by rw [x3]; omega
          have hfq : fQ (pk W a / 2 ^ (P - 1)) ≤ 2100 := by unfold fQ; split <;> omega
          generalize fN P (pk W a / 2 ^ (P - 1)) (pk W a % 2 ^ (P - 1)) = n at *
          have hb : blen n ≤ 53 := blen_le_iff.2 hnlt
          have hbp := blen_pos hne
          have hl : (d32 n).length ≤ 2 := d32_short hnlt (by decide)
          have g3 := rWords (n := n) (by omega)
          have g4 := rBits (n := n) (by omega)
          rw [digs_word hne (by omega)] at g3
          obtain ⟨s1, s2⟩ := rst_shift hne (by omega)
          have hq : e + ((blen n : Int) - 1) = em - (P : Int) + 1 + (fQ (pk W a / 2 ^ (P - 1)) : Int) + (blen n : Int) - 1 := by rw [r6]; omega
          obtain ⟨s, q1, q2⟩ := rprint_l1 (s0 := t) (by rw [ht]; exact htl) (x1 := (blen n : Int) - 1) (x10 := e) (by omega) (decide (infP W P < pk W a)) (decide (infP W P < pk W a ∧ pk W a < infP W P + 2 ^ (P - 2))) (decide (pk W a = infP W P)) (ps W a) vn d 16 (rst n) vernierref15_Print.s0 (by decide) s2 ⟨rst n, by simp⟩ (by rw [e0]; simp)
          refine ⟨s, go (Ev.neg (bF (by rw [hd]; have := d32_len_pos.2 hne; omega)) ?_), ?_⟩
          · rw [hd] at q1 ⊢
            refine Ev.bind g3 (Ev.pos (by simp) (Ev.bind g4 ?_))
            have w1 : IntKind.i64.wrap ((blen n : Int) - 1) = (blen n : Int) - 1 := wrapI (by omega) (by omega)
            have w2 : IntKind.u64.wrap (IntKind.i64.wrap (63 - ((blen n : Int) - 1))) = ((64 - blen n : Nat) : Int) := by rw [wrapI (by omega) (by omega), wrap_u64]; omega
            rw [w1, w2]
            refine Ev.pos (by omega) ?_
            rw [show ([(n : Int)] : List Int).getD ((0 : Int).toNat) 0 = (n : Int) from rfl, s1]
            exact q1.ev
          · rw [q2, e0, hq, ht]
            unfold finT mantT
            rw [List.nil_append]
            by_cases cz : rst n = 0
            · rw [cz, if_pos rfl, show hexs 16 0 = [] from rfl, if_pos rfl]
            · rw [if_neg cz, if_neg]
              intro z
              rw [hexs, if_neg cz] at z
              cases z
    have key2 := key (if ps W a then vernierref15_Print.s2 else vernierref15_Print.s0) (by cases ps W a <;> simp [sgT, e0, e2])
    obtain ⟨s, q1, q2⟩ := key2
    refine ⟨s, st (Ev.neg (by rw [decide_eq_false n2]; simp) ?_), q2⟩
    revert q1
    cases hs : ps W a with
    | true => intro q1; exact Ev.pos rfl q1
    | false => intro q1; exact Ev.neg (by simp) q1
end
end Go.Proofs.YtmoeaeflljpboaaDoor.X
