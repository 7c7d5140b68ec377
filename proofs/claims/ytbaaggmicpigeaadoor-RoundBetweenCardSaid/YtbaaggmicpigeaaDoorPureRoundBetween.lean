/- Plain law: RoundBetween answers true. Conditions: what the reading says of the arguments. -/
import Derived.Test.YtbaaggmicpigeaaDoorRbC
import Derived.Test.YtbaaggmicpigeaaDoorRoF
import Derived.Test.YtbaaggmicpigeaaDoorXB
import Derived.Test.YtbaaggmicpigeaaDoorR2
namespace Go.Proofs.YtbaaggmicpigeaaDoor.X
open Go Go.Rex
set_option linter.unusedVariables false
set_option linter.unusedSectionVars false

theorem low1 {x : Nat} (hx : x < 18446744073709551616) : andK .u64 (x : Int) 1 = ((x % 2 : Nat) : Int) := by
  by_cases c : x = 0
  · subst c; decide
  · have := low_bit x
    rw [digs_pos c] at this
    rw [show ((((x % 18446744073709551616 : Nat) : Int) :: digs (x / 18446744073709551616)).getD 0 0) = ((x % 18446744073709551616 : Nat) : Int) from rfl, Nat.mod_eq_of_lt hx] at this
    exact this
def six5 : List Int := ((((((List.replicate 6 (0 : Int)).set 0 0).set 1 1).set 2 2).set 3 3).set 4 4).set 5 5
theorem six5_get {i : Nat} (hi : i < 6) : six5.getD i 0 = (i : Int) := by
  have : i = 0 ∨ i = 1 ∨ i = 2 ∨ i = 3 ∨ i = 4 ∨ i = 5 := by omega
  rcases this with rfl | rfl | rfl | rfl | rfl | rfl <;> rfl
section
variable {f : Int} {W P : Nat} {em ex : Int} (h : Fm f W P em ex)
include h
theorem vAny {N : Nat} (hN : N ≤ infP W P) (s : Bool) : ∃ (t : Bool) (M : Nat) (E : Int), Ev (fun k => vernierlaw05_value k f ((N + sgB s W : Nat) : Int)) (t, (digs M, (E, decide (N < infP W P)))) ∧ (N < infP W P → Sm M E ∧ -8000 ≤ E ∧ E ≤ 3000 ∧ sg t (M * p2 (E - -8000)) = sg s (plV P N * p2 (em - (P : Int) + 1 - -8000))) := by
  by_cases c : N < infP W P
  · obtain ⟨t, M, E, e1, e2, e3, e4, e5⟩ := value5_ev h c s
    exact ⟨t, M, E, by rw [decide_eq_true c]; exact e1, fun _ => ⟨e2, e3, e4, e5⟩⟩
  · have e : N = infP W P := by omega
    subst e
    exact ⟨false, 0, 0, by rw [decide_eq_false c, digs_zero]; exact value5_inf h s, fun g => absurd g c⟩
variable {s : Bool} {n : Nat} {g : Int} (hx : Ft s n g) (hn : n ≠ 0)
include hx
omit h in
theorem cmpV {V : Nat} {l : Int} {t : Bool} {M : Nat} {E : Int} (sm : Sm M E) (hE : -8000 ≤ E) (hv : sg t (M * p2 (E - -8000)) = sg s (V * p2 l)) : Ev (fun k => vernierlaw05_cmp k t (digs M) E s (digs n) g) (sgn (sg s (V * p2 l) - sg s (n * p2 (g - -8000)))) := by
  have c := cmp_ft (s := t) (t := s) sm hx.sm (b := -8000) hE hx.g0 (by decide)
  rw [hv, sg_not, ← Int.sub_eq_add_neg] at c
  exact c
/-- Where the two neighbours lie. -/
theorem lie {K : Nat} {ix : Bool} (hK : dnK W P (rA n g (em - (P : Int) + 1)) (rB 1 g (em - (P : Int) + 1)) = K) (hi : inX W P (rA n g (em - (P : Int) + 1)) (rB 1 g (em - (P : Int) + 1)) = ix) :
    K < infP W P ∧ (K + (if (ix && s) = true then 1 else 0) < infP W P → sg s (plV P (K + (if (ix && s) = true then 1 else 0)) * p2 (em - (P : Int) + 1 - -8000)) ≤ sg s (n * p2 (g - -8000)) ∧ (sg s (plV P (K + (if (ix && s) = true then 1 else 0)) * p2 (em - (P : Int) + 1 - -8000)) = sg s (n * p2 (g - -8000)) ↔ ix = false)) ∧
    (K + (if (ix && !s) = true then 1 else 0) < infP W P → sg s (n * p2 (g - -8000)) ≤ sg s (plV P (K + (if (ix && !s) = true then 1 else 0)) * p2 (em - (P : Int) + 1 - -8000)) ∧ (sg s (plV P (K + (if (ix && !s) = true then 1 else 0)) * p2 (em - (P : Int) + 1 - -8000)) = sg s (n * p2 (g - -8000)) ↔ ix = false)) := by
  have h8 := h.p8; have m0 := h.m0; have h53 := h.p53
  obtain ⟨x1, x2, x3⟩ := fm_ex h
  have het := eTop_le h
  have hpos := infP_pos W P (by omega)
  have hBp : 0 < rB 1 g (em - (P : Int) + 1) := rB_pos Nat.one_pos _ _
  obtain ⟨d1, d2⟩ := exact_dn (W := W) (P := P) (A := rA n g (em - (P : Int) + 1)) (B := rB 1 g (em - (P : Int) + 1)) (by omega) hBp (by omega)
  have hg0 := hx.g0
  have l1 := ord_lt (n := n) (g := g) (l := em - (P : Int) + 1) (b := -8000) hg0 (by omega) (plV P K)
  have l2 := ord_gt (n := n) (g := g) (l := em - (P : Int) + 1) (b := -8000) hg0 (by omega) (plV P (K + 1))
  have l3 := ord_eq (n := n) (g := g) (l := em - (P : Int) + 1) (b := -8000) hg0 (by omega) (plV P K)
  have hKi : K < infP W P := by
    rw [← hK]; unfold dnK
    split <;> omega
  rw [hi, hK] at d1 d2
  refine ⟨hKi, ?_⟩
  cases ix with
  | false =>
    obtain ⟨-, -, e⟩ := d1 rfl
    have e := l3.1 e
    simp only [Bool.false_and, Bool.false_eq_true, if_false, Nat.add_zero]
    rw [e]
    exact ⟨fun _ => ⟨Int.le_refl _, iff_of_true rfl trivial⟩, fun _ => ⟨Int.le_refl _, iff_of_true rfl trivial⟩⟩
  | true =>
    obtain ⟨e1, e2⟩ := d2 rfl
    have e1 := l1.1 e1
    have e2 := fun z => l2.1 (e2 z)
    clear l1 l2 l3 d1 d2
    cases s with
    | false =>
      simp only [Bool.and_false, Bool.not_false, Bool.and_true, Bool.false_eq_true, if_false, if_true, Nat.add_zero]
      unfold sg
      simp only [Bool.false_eq_true, if_false]
      refine ⟨fun _ => ⟨by omega, ⟨fun z => by omega, fun z => Bool.noConfusion z⟩⟩, fun z => ?_⟩
      have e2 := e2 z
      exact ⟨by omega, ⟨fun z => by omega, fun z => Bool.noConfusion z⟩⟩
    | true =>
      simp only [Bool.and_true, Bool.not_true, Bool.and_false, Bool.false_eq_true, if_false, if_true, Nat.add_zero]
      unfold sg
      simp only [if_true]
      refine ⟨fun z => ?_, fun _ => ⟨by omega, ⟨fun z => by omega, fun z => Bool.noConfusion z⟩⟩⟩
      have e2 := e2 z
      exact ⟨by omega, ⟨fun z => by omega, fun z => Bool.noConfusion z⟩⟩
include hn
theorem kNum_up {m : Int} (hm : Md m) {K : Nat} (hK : dnK W P (rA n g (em - (P : Int) + 1)) (rB 1 g (em - (P : Int) + 1)) = K) : kNum W P em m s n g = K + (if upK W P m s (rA n g (em - (P : Int) + 1)) (rB 1 g (em - (P : Int) + 1)) = true then 1 else 0) := by
  have h8 := h.p8
  have het := eTop_le h
  unfold kNum
  rw [if_neg hn, kOut_up W (by omega) (by omega) hm, hK]
omit h hx hn in
theorem f20 : ((andK IntKind.i64 (20 : Int) 16) == 0) = false := by decide
omit h hx hn in
theorem f24 : ((andK IntKind.i64 (24 : Int) 16) == 0) = false := by decide
omit h hx hn in
theorem f16 : ((andK IntKind.i64 (16 : Int) 16) == 0) = false := by decide
omit h hx hn in
theorem f00 : ((andK IntKind.i64 (0 : Int) 16) == 0) = true := by decide
/-- The flag Inexact. -/
theorem flag_in {m : Int} {ix : Bool} (hi : inX W P (rA n g (em - (P : Int) + 1)) (rB 1 g (em - (P : Int) + 1)) = ix) : ((andK IntKind.i64 (fFlags W P em m s n g) 16) == 0) = !ix := by
  have h8 := h.p8
  have hr := rnd_flr (P := P) (by omega) m s (rA n g (em - (P : Int) + 1)) (rB 1 g (em - (P : Int) + 1))
  have hc := chs_ge m s (flr P (rA n g (em - (P : Int) + 1)) (rB 1 g (em - (P : Int) + 1))) (lftP P (rA n g (em - (P : Int) + 1)) (rB 1 g (em - (P : Int) + 1)))
  rw [← hr] at hc
  unfold fFlags
  rw [if_neg hn]
  unfold rnOut
  rw [← hi]
  unfold inX
  by_cases c : infP W P ≤ flr P (rA n g (em - (P : Int) + 1)) (rB 1 g (em - (P : Int) + 1))
  · rw [if_pos (Nat.le_trans c hc), decide_eq_true c, Bool.true_or]; exact f20
  · rw [decide_eq_false c, Bool.false_or]
    by_cases c0 : lftP P (rA n g (em - (P : Int) + 1)) (rB 1 g (em - (P : Int) + 1)) = 0
    · rw [c0, chs_zero] at hr
      rw [if_neg (by rw [hr]; exact c), if_pos c0, decide_eq_false (fun z => z c0)]; exact f00
    · rw [decide_eq_true c0]
      split
      · exact f20
      · split
        · exact f24
        · exact f16
theorem bt_loop {K : Nat} {ix : Bool} (hK : dnK W P (rA n g (em - (P : Int) + 1)) (rB 1 g (em - (P : Int) + 1)) = K) (hi : inX W P (rA n g (em - (P : Int) + 1)) (rB 1 g (em - (P : Int) + 1)) = ix)
    {L H : Nat} (hL : L = K + (if (ix && s) = true then 1 else 0)) (hH : H = K + (if (ix && !s) = true then 1 else 0)) {tv tw : Bool} {Mv Mw : Nat} {Ev' Ew : Int}
    (fv : L < infP W P → Sm Mv Ev' ∧ -8000 ≤ Ev' ∧ Ev' ≤ 3000 ∧ sg tv (Mv * p2 (Ev' - -8000)) = sg s (plV P L * p2 (em - (P : Int) + 1 - -8000))) (fw : H < infP W P → Sm Mw Ew ∧ -8000 ≤ Ew ∧ Ew ≤ 3000 ∧ sg tw (Mw * p2 (Ew - -8000)) = sg s (plV P H * p2 (em - (P : Int) + 1 - -8000))) (c : Nat) :
    ∀ i : Nat, i + c = 6 → Ev2 (fun k z => vernierlaw05_RoundBetween.l4 k z f ((L + sgB s W : Nat) : Int) ((H + sgB s W : Nat) : Int) (plc L s) (plc H s) (decide (L < infP W P)) (decide (H < infP W P)) (!ix) 6 (i : Int) s (digs n) g (digs Mv) tv Ev' (digs Mw) tw Ew six5) true := by
  have h8 := h.p8; have hwp := h.wp
  have hip := infP_le h
  have hpp := Nat.two_pow_pos (P - 1)
  obtain ⟨w1, w2, w3, w4⟩ := wW h
  have hev := infP_even (W := W) (P := P) (by omega)
  obtain ⟨hKi, -, -⟩ := lie h hx hK hi
  induction c with
  | zero =>
    intro i hi'
    exact Ev2.step (fun k z => vernierlaw05_RoundBetween.l4_eq k z _ _ _ _ _ _ _ _ _ _ _ _ _ _ _ _ _ _ _ _) (Ev2.neg (dF (by omega)) (Ev2.some _))
  | succ c ih =>
    intro i hi'
    have next := ih (i + 1) (by omega)
    have md : Md (i : Int) := ⟨by omega, by omega⟩
    have evx := Exact_ev h md (a := digs n) (WF.digs _) g s
    rw [exR_ft hx, kNum_up h hx hn md hK] at evx
    have hfl := flag_in h hx hn (m := (i : Int)) hi
    obtain ⟨u, hu⟩ : ∃ u : Bool, u = upK W P (i : Int) s (rA n g (em - (P : Int) + 1)) (rB 1 g (em - (P : Int) + 1)) := ⟨_, rfl⟩
    rw [← hu] at evx
    obtain ⟨M, hM⟩ : ∃ M : Nat, M = K + (if u = true then 1 else 0) := ⟨_, rfl⟩
    rw [← hM] at evx
    have hl : six5.length = 6 := rfl
    have hMi : M ≤ infP W P := by rw [hM]; split <;> omega
    have pl := place05_ev h (K := M) (by omega) s
    have hux : u = true → ix = true := fun z => by
      rw [hu] at z
      unfold upK at z
      rw [hi] at z
      exact (Bool.and_eq_true _ _ ▸ z).1
    have hML : M = L ∨ M = H := by
      rw [hM, hL, hH]
      cases u <;> cases ix <;> cases s <;> simp at hux ⊢
    refine Ev2.step (fun k z => vernierlaw05_RoundBetween.l4_eq k z _ _ _ _ _ _ _ _ _ _ _ _ _ _ _ _ _ _ _ _) (Ev2.pos (dT (by omega)) (Ev2.pos ⟨by omega, by rw [hl]; omega⟩ ?_))
    rw [Int.toNat_natCast, six5_get (by omega)]
    refine Ev2.call evx (Ev2.neg (nF rfl) (Ev2.neg (notF (by rw [hfl]; exact beq_self_eq_true _)) ?_))
    have hnx : IntKind.i64.wrap ((i : Int) + 1) = ((i + 1 : Nat) : Int) := succ_i i (by omega)
    have hpat : M + sgB s W < 18446744073709551616 := by have := sgB_le W s; omega
    have hsb : sgB s W % 2 = 0 := by
      unfold sgB
      split
      · rw [show W - 1 = W - 2 + 1 by omega, Nat.pow_succ, Nat.mul_mod_left]
      · rfl
    have j6 : Ev2 (fun k z => vernierlaw05_RoundBetween.j6 k z f ((L + sgB s W : Nat) : Int) ((H + sgB s W : Nat) : Int) (plc L s) (plc H s) (decide (L < infP W P)) (decide (H < infP W P)) (!ix) (i : Int) ((M + sgB s W : Nat) : Int) 6 (i : Int) s (digs n) g (digs Mv) tv Ev' (digs Mw) tw Ew six5) true := by
      refine Ev2.congr (fun k z => vernierlaw05_RoundBetween.j6_eq k z _ _ _ _ _ _ _ _ _ _ _ _ _ _ _ _ _ _ _ _ _ _) ?_
      rw [hnx]
      cases ix with
      | false => exact Ev2.pos rfl next
      | true =>
        refine Ev2.neg (by decide) ?_
        have j9 : Ev2 (fun k z => vernierlaw05_RoundBetween.j9 k z f ((L + sgB s W : Nat) : Int) ((H + sgB s W : Nat) : Int) (plc L s) (plc H s) (decide (L < infP W P)) (decide (H < infP W P)) (!true) (i : Int) ((M + sgB s W : Nat) : Int) 6 (i : Int) s (digs n) g (digs Mv) tv Ev' (digs Mw) tw Ew six5) true := by
          refine Ev2.congr (fun k z => vernierlaw05_RoundBetween.j9_eq k z _ _ _ _ _ _ _ _ _ _ _ _ _ _ _ _ _ _ _ _ _ _) ?_
          rw [hnx]
          have near : (i : Int) = 0 ∨ (i : Int) = 1 → L < infP W P → H < infP W P → Ev (fun k => vernierlaw05_nearer k tv (digs Mv) Ev' s (digs n) g tw (digs Mw) Ew (((M + sgB s W : Nat) : Int) == ((L + sgB s W : Nat) : Int)) ((andK IntKind.u64 ((M + sgB s W : Nat) : Int) 1) == 0) ((i : Int) == 0)) true := by
            intro hm cL cH
            obtain ⟨v1, v2, v3, v4⟩ := fv cL
            obtain ⟨u1, u2, u3, u4⟩ := fw cH
            refine near_true h hx hn hm hi hK (by rw [hL] at cL; rw [hH] at cH; cases s <;> simp at cL cH <;> omega) ⟨v2, v3⟩ ⟨u2, u3⟩ (by rw [v4, hL]; cases s <;> rfl) (by rw [u4, hH]; cases s <;> rfl) ?_ ?_ rfl
            · rw [← hu, hM, hL]
              cases u <;> cases s <;> simp <;> omega
            · rw [← hu, ← hM, low1 hpat]
              by_cases c : M % 2 = 0
              · rw [decide_eq_true c]; exact bT (by omega)
              · rw [decide_eq_false c]; exact beq_eq_false_iff_ne.2 (by omega)
          by_cases c0 : (i : Int) = 0
          · refine Ev2.pos (bT c0) ?_
            by_cases cL : L < infP W P
            · rw [decide_eq_true cL] at *
              refine Ev2.pos rfl ?_
              by_cases cH : H < infP W P
              · rw [decide_eq_true cH] at *
                exact Ev2.pos rfl (Ev2.call (near (.inl c0) cL cH) (Ev2.neg (notF rfl) next))
              · rw [decide_eq_false cH] at *
                exact Ev2.neg (by decide) next
            · rw [decide_eq_false cL] at *
              exact Ev2.neg (by decide) next
          · refine Ev2.neg (bF c0) ?_
            by_cases c1 : (i : Int) = 1
            · refine Ev2.pos (bT c1) ?_
              by_cases cL : L < infP W P
              · rw [decide_eq_true cL] at *
                refine Ev2.pos rfl ?_
                by_cases cH : H < infP W P
                · rw [decide_eq_true cH] at *
                  exact Ev2.pos rfl (Ev2.call (near (.inr c1) cL cH) (Ev2.neg (notF rfl) next))
                · rw [decide_eq_false cH] at *
                  exact Ev2.neg (by decide) next
              · rw [decide_eq_false cL] at *
                exact Ev2.neg (by decide) next
            · exact Ev2.neg (bF c1) next
        have hodd : (i : Int) = 5 → andK IntKind.u64 ((M + sgB s W : Nat) : Int) 1 = 1 := fun c5 => by
          rw [c5] at hu
          unfold upK at hu
          rw [hi, hK] at hu
          have e : u = (K % 2 == 0) := by rw [hu]; rfl
          rw [low1 hpat]
          rcases Nat.mod_two_eq_zero_or_one K with q | q
          · rw [e, q, if_pos (show ((0 : Nat) == 0) = true from rfl)] at hM
            omega
          · rw [e, q, if_neg (by decide)] at hM
            omega
        have j8 : ∀ bl ab : Bool, (bl = true → M = L) → (ab = true → M = H) → Ev2 (fun k z => vernierlaw05_RoundBetween.j8 k z f ((L + sgB s W : Nat) : Int) ((H + sgB s W : Nat) : Int) (plc L s) (plc H s) (decide (L < infP W P)) (decide (H < infP W P)) (!true) (i : Int) ((M + sgB s W : Nat) : Int) bl ab 6 (i : Int) s (digs n) g (digs Mv) tv Ev' (digs Mw) tw Ew six5) true := by
          intro bl ab hbl hab
          refine Ev2.congr (fun k z => vernierlaw05_RoundBetween.j8_eq k z _ _ _ _ _ _ _ _ _ _ _ _ _ _ _ _ _ _ _ _ _ _ _ _) ?_
          by_cases c5 : (i : Int) = 5
          · have fin := nF (hodd c5)
            cases bl with
            | false =>
              refine Ev2.neg (by decide) ?_
              cases ab with
              | false => exact Ev2.neg (by decide) (Ev2.pos (bT c5) (Ev2.neg fin j9))
              | true => exact Ev2.pos rfl (Ev2.neg (nF (by rw [hab rfl])) (Ev2.pos (bT c5) (Ev2.neg fin j9)))
            | true =>
              refine Ev2.pos rfl (Ev2.neg (nF (by rw [hbl rfl])) ?_)
              cases ab with
              | false => exact Ev2.neg (by decide) (Ev2.pos (bT c5) (Ev2.neg fin j9))
              | true => exact Ev2.pos rfl (Ev2.neg (nF (by rw [hab rfl])) (Ev2.pos (bT c5) (Ev2.neg fin j9)))
          · cases bl with
            | false =>
              refine Ev2.neg (by decide) ?_
              cases ab with
              | false => exact Ev2.neg (by decide) (Ev2.neg (bF c5) j9)
              | true => exact Ev2.pos rfl (Ev2.neg (nF (by rw [hab rfl])) (Ev2.neg (bF c5) j9))
            | true =>
              refine Ev2.pos rfl (Ev2.neg (nF (by rw [hbl rfl])) ?_)
              cases ab with
              | false => exact Ev2.neg (by decide) (Ev2.neg (bF c5) j9)
              | true => exact Ev2.pos rfl (Ev2.neg (nF (by rw [hab rfl])) (Ev2.neg (bF c5) j9))
        have u2 : (i : Int) = 2 → u = false := fun c2 => by
          rw [c2] at hu
          unfold upK at hu
          rw [hu, hi]; rfl
        have j7 : ∀ bl : Bool, (bl = true → M = L) → Ev2 (fun k z => vernierlaw05_RoundBetween.j7 k z f ((L + sgB s W : Nat) : Int) ((H + sgB s W : Nat) : Int) (plc L s) (plc H s) (decide (L < infP W P)) (decide (H < infP W P)) (!true) (i : Int) ((M + sgB s W : Nat) : Int) bl 6 (i : Int) s (digs n) g (digs Mv) tv Ev' (digs Mw) tw Ew six5) true := by
          intro bl hbl
          refine Ev2.congr (fun k z => vernierlaw05_RoundBetween.j7_eq k z _ _ _ _ _ _ _ _ _ _ _ _ _ _ _ _ _ _ _ _ _ _ _) ?_
          by_cases c3 : (i : Int) = 3
          · refine Ev2.pos (bT c3) (j8 bl true hbl fun _ => ?_)
            rw [c3, (up_dir W P s _ _).2, hi] at hu
            rw [hM, hH, hu]
          · refine Ev2.neg (bF c3) ?_
            by_cases c2 : (i : Int) = 2
            · refine Ev2.pos (bT c2) (j8 bl s hbl fun q => ?_)
              rw [hM, hH, u2 c2, q]; rfl
            · exact Ev2.neg (bF c2) (j8 bl false hbl fun q => Bool.noConfusion q)
        by_cases c4 : (i : Int) = 4
        · refine Ev2.pos (bT c4) (j7 true fun _ => ?_)
          rw [c4, (up_dir W P s _ _).1, hi] at hu
          rw [hM, hL, hu]
        · refine Ev2.neg (bF c4) ?_
          by_cases c2 : (i : Int) = 2
          · refine Ev2.pos (bT c2) (j7 (!s) fun q => ?_)
            have q : s = false := by cases s <;> simp at q ⊢
            rw [hM, hL, u2 c2, q]; rfl
          · exact Ev2.neg (bF c2) (j7 false fun q => Bool.noConfusion q)
    refine Ev2.congr (fun k z => vernierlaw05_RoundBetween.j5_eq k z _ _ _ _ _ _ _ _ _ _ _ _ _ _ _ _ _ _ _ _ _ _) (Ev2.call pl ?_)
    by_cases e1 : plc M s = plc L s
    · exact Ev2.neg (nF e1) j6
    · refine Ev2.pos (nT e1) (Ev2.neg (nF ?_) j6)
      rcases hML with e | e
      · exact absurd (by rw [e]) e1
      · rw [e]
theorem bt_j0 : Ev (fun k => vernierlaw05_RoundBetween.j0 k f s (digs n) g) true := by
  have h8 := h.p8; have hwp := h.wp
  have hip := infP_le h
  have hpp := Nat.two_pow_pos (P - 1)
  obtain ⟨K, hK⟩ : ∃ K : Nat, dnK W P (rA n g (em - (P : Int) + 1)) (rB 1 g (em - (P : Int) + 1)) = K := ⟨_, rfl⟩
  obtain ⟨ix, hi⟩ : ∃ ix : Bool, inX W P (rA n g (em - (P : Int) + 1)) (rB 1 g (em - (P : Int) + 1)) = ix := ⟨_, rfl⟩
  obtain ⟨L, hL⟩ : ∃ L : Nat, L = K + (if (ix && s) = true then 1 else 0) := ⟨_, rfl⟩
  obtain ⟨H, hH⟩ : ∃ H : Nat, H = K + (if (ix && !s) = true then 1 else 0) := ⟨_, rfl⟩
  obtain ⟨hKi, lo, hi'⟩ := lie h hx hK hi
  rw [← hL] at lo
  rw [← hH] at hi'
  have hLi : L ≤ infP W P := by rw [hL]; split <;> omega
  have hHi : H ≤ infP W P := by rw [hH]; split <;> omega
  have hor : L < infP W P ∨ H < infP W P := by rw [hL, hH]; cases ix <;> cases s <;> simp <;> omega
  have hLx : ¬ (L < infP W P) → ix = true := fun z => by rw [hL] at z; cases ix <;> simp at z ⊢ <;> omega
  have hHx : ¬ (H < infP W P) → ix = true := fun z => by rw [hH] at z; cases ix <;> simp at z ⊢ <;> omega
  have e4 := Exact_ev h (m := 4) ⟨by decide, by decide⟩ (a := digs n) (WF.digs _) g s
  have e3 := Exact_ev h (m := 3) ⟨by decide, by decide⟩ (a := digs n) (WF.digs _) g s
  rw [exR_ft hx, kNum_up h hx hn ⟨by decide, by decide⟩ hK, (up_dir W P s _ _).1, hi, ← hL] at e4
  rw [exR_ft hx, kNum_up h hx hn ⟨by decide, by decide⟩ hK, (up_dir W P s _ _).2, hi, ← hH] at e3
  have ar : Ev (fun k => round_Around k f s (digs n) g) (((L + sgB s W : Nat) : Int), (((H + sgB s W : Nat) : Int), (0 : Int))) :=
    Ev.congr (fun k => round_Around_eq k _ _ _ _) (Ev.bind e4 (Ev.neg (nF rfl) (Ev.bind e3 (Ev.some _))))
  have pL := place05_ev h (K := L) (by omega) s
  have pH := place05_ev h (K := H) (by omega) s
  obtain ⟨tv, Mv, Ev', vv, fv⟩ := vAny h hLi s
  obtain ⟨tw, Mw, Ew, vw, fw⟩ := vAny h hHi s
  have lp := (bt_loop h hx hn hK hi hL hH fv fw 6 0 rfl).ev
  have j3 : Ev (fun k => vernierlaw05_RoundBetween.j3 k f ((L + sgB s W : Nat) : Int) ((H + sgB s W : Nat) : Int) (plc L s) (plc H s) (decide (L < infP W P)) (decide (H < infP W P)) (!ix) s (digs n) g (digs Mv) tv Ev' (digs Mw) tw Ew) true :=
    Ev.congr (fun k => vernierlaw05_RoundBetween.j3_eq k _ _ _ _ _ _ _ _ _ _ _ _ _ _ _ _ _) (Ev.bind (Ev.of fun k => vernierlaw05_six_eq k) lp)
  have hpl : (plc L s == plc H s) = !ix := by
    rw [hL, hH]; unfold plc
    cases ix <;> cases s <;> simp <;> omega
  have hstep : ix = true → plc H s = IntKind.i64.wrap (plc L s + 1) := fun z => by
    have hw : plc L s + 1 = plc H s := by
      rw [hL, hH, z]; unfold plc
      cases s <;> simp <;> omega
    obtain ⟨w1, w2, w3, w4⟩ := wW h
    rw [hw, wrapI]
    · unfold plc; split <;> omega
    · unfold plc; split <;> omega
  have tl : Ev (fun k => if (!(!ix)) = true then (if (plc H s != IntKind.i64.wrap (plc L s + 1)) = true then some false else vernierlaw05_RoundBetween.j3 k f ((L + sgB s W : Nat) : Int) ((H + sgB s W : Nat) : Int) (plc L s) (plc H s) (decide (L < infP W P)) (decide (H < infP W P)) (!ix) s (digs n) g (digs Mv) tv Ev' (digs Mw) tw Ew) else vernierlaw05_RoundBetween.j3 k f ((L + sgB s W : Nat) : Int) ((H + sgB s W : Nat) : Int) (plc L s) (plc H s) (decide (L < infP W P)) (decide (H < infP W P)) (!ix) s (digs n) g (digs Mv) tv Ev' (digs Mw) tw Ew) true := by
    by_cases c : ix = true
    · exact Ev.pos (by rw [c]; rfl) (Ev.neg (nF (hstep c)) j3)
    · exact Ev.neg (by cases ix <;> simp at c ⊢) j3
  have j2 : Ev (fun k => vernierlaw05_RoundBetween.j2 k f ((L + sgB s W : Nat) : Int) ((H + sgB s W : Nat) : Int) (plc L s) (plc H s) (decide (L < infP W P)) (decide (H < infP W P)) (!ix) s (digs n) g (digs Mv) tv Ev' (digs Mw) tw Ew) true := by
    refine Ev.congr (fun k => vernierlaw05_RoundBetween.j2_eq k _ _ _ _ _ _ _ _ _ _ _ _ _ _ _ _ _) ?_
    by_cases cH : H < infP W P
    · obtain ⟨u1, u2, u3, u4⟩ := fw cH
      have c := cmpV hx u1 u2 u4
      refine Ev.pos (decide_eq_true cH) (Ev.bind c (Ev.neg (notF ?_) (Ev.neg (notF (by rw [hpl]; exact beq_self_eq_true _)) tl)))
      obtain ⟨q1, q2⟩ := hi' cH
      cases ix with
      | false => rw [q2.2 rfl, Int.sub_self]; rfl
      | true => exact beq_iff_eq.2 (beq_eq_false_iff_ne.2 (sgn_ne0.2 fun z => Bool.noConfusion (q2.1 (by omega)))).symm
    · refine Ev.neg (fun z => cH (of_decide_eq_true z)) (Ev.neg (notF (by rw [hHx cH]; rfl)) (Ev.neg (notF (by rw [hpl]; exact beq_self_eq_true _)) tl))
  have j1 : Ev (fun k => vernierlaw05_RoundBetween.j1 k f ((L + sgB s W : Nat) : Int) ((H + sgB s W : Nat) : Int) (plc L s) (plc H s) (decide (L < infP W P)) (decide (H < infP W P)) s (digs n) g (digs Mv) tv Ev' (digs Mw) tw Ew) true := by
    refine Ev.congr (fun k => vernierlaw05_RoundBetween.j1_eq k _ _ _ _ _ _ _ _ _ _ _ _ _ _ _ _) ?_
    by_cases cL : L < infP W P
    · obtain ⟨u1, u2, u3, u4⟩ := fv cL
      have c := cmpV hx u1 u2 u4
      obtain ⟨q1, q2⟩ := lo cL
      have e : (sgn (sg s (plV P L * p2 (em - (P : Int) + 1 - -8000)) - sg s (n * p2 (g - -8000))) == 0) = !ix := by
        cases ix with
        | false => rw [q2.2 rfl, Int.sub_self]; rfl
        | true => exact beq_eq_false_iff_ne.2 (sgn_ne0.2 fun z => Bool.noConfusion (q2.1 (by omega)))
      refine Ev.pos (decide_eq_true cL) (Ev.bind c ?_)
      rw [e]; exact j2
    · refine Ev.neg (fun z => cL (of_decide_eq_true z)) ?_
      have := hLx cL
      rw [this] at j2
      exact j2
  refine Ev.congr (fun k => vernierlaw05_RoundBetween.j0_eq k _ _ _ _) (Ev.bind ar (Ev.neg (nF rfl) (Ev.bind pL (Ev.bind pH (Ev.bind vv (Ev.bind vw ?_))))))
  by_cases cL : L < infP W P
  · obtain ⟨u1, u2, u3, u4⟩ := fv cL
    have cv := cmpV hx u1 u2 u4
    have nv : ¬ (sgn (sg s (plV P L * p2 (em - (P : Int) + 1 - -8000)) - sg s (n * p2 (g - -8000))) > 0) := by
      have := sgn_le.2 (show sg s (plV P L * p2 (em - (P : Int) + 1 - -8000)) - sg s (n * p2 (g - -8000)) ≤ 0 by have := (lo cL).1; omega)
      omega
    have nbL := notF (decide_eq_true cL)
    by_cases cH : H < infP W P
    · obtain ⟨y1, y2, y3, y4⟩ := fw cH
      have cw := cmpV hx y1 y2 y4
      have nw : ¬ (sgn (sg s (plV P H * p2 (em - (P : Int) + 1 - -8000)) - sg s (n * p2 (g - -8000))) < 0) := by
        have := sgn_ge.2 (show 0 ≤ sg s (plV P H * p2 (em - (P : Int) + 1 - -8000)) - sg s (n * p2 (g - -8000)) by have := (hi' cH).1; omega)
        omega
      have nbH := notF (decide_eq_true cH)
      exact Ev.pos (decide_eq_true cL) (Ev.bind cv (Ev.neg (dF nv) (Ev.pos (decide_eq_true cH) (Ev.bind cw (Ev.neg (dF nw) (Ev.neg nbL (Ev.neg nbH (Ev.neg nbL j1))))))))
    · have eH : H = infP W P := by omega
      have inf := inf5_ev h s
      rw [← eH] at inf
      exact Ev.pos (decide_eq_true cL) (Ev.bind cv (Ev.neg (dF nv) (Ev.neg (dF cH) (Ev.neg nbL (Ev.pos (by rw [decide_eq_false cH]; rfl) (Ev.bind inf (Ev.neg (notF rfl) (Ev.neg nbL j1))))))))
  · have cH : H < infP W P := hor.resolve_left cL
    obtain ⟨y1, y2, y3, y4⟩ := fw cH
    have cw := cmpV hx y1 y2 y4
    have nw : ¬ (sgn (sg s (plV P H * p2 (em - (P : Int) + 1 - -8000)) - sg s (n * p2 (g - -8000))) < 0) := by
      have := sgn_ge.2 (show 0 ≤ sg s (plV P H * p2 (em - (P : Int) + 1 - -8000)) - sg s (n * p2 (g - -8000)) by have := (hi' cH).1; omega)
      omega
    have nbH := notF (decide_eq_true cH)
    have eL : L = infP W P := by omega
    have inf := inf5_ev h s
    rw [← eL] at inf
    have pbL : (!decide (L < infP W P)) = true := by rw [decide_eq_false cL]; rfl
    exact Ev.neg (dF cL) (Ev.pos (decide_eq_true cH) (Ev.bind cw (Ev.neg (dF nw) (Ev.pos pbL (Ev.bind inf (Ev.neg (notF rfl) (Ev.neg nbH (Ev.pos pbL (Ev.neg nbH j1)))))))))
end
namespace Pure
/-- For all formats and numbers: true. -/
theorem RoundBetween (f : Int) (d : Bool × (List Int × Int)) (wf : WFt (.int .i64) f) (wd : WFt (.pair .bool (.pair (.sl (.int .u64)) (.int .i64))) d) : Ev (fun k => vernierlaw05_RoundBetween k f d.1 d.2.1 d.2.2) true := by
  obtain ⟨-, wa, -⟩ := wd
  have ha : WF d.2.1 := fun y hy => wf_u64 (wa.2 y hy)
  generalize d.2.1 = a at *
  generalize d.2.2 = e at *
  generalize d.1 = s0 at *
  have step : ∀ {p : Bool × (List Int × (Int × Bool))}, Ev (fun k => vernierlaw05_fit k s0 a e) p → (0 ≤ f → f < 4 → p.2.2.2 = true → ((p.2.1.length : Int) ≠ 0) → Ev (fun k => vernierlaw05_RoundBetween.j0 k f p.1 p.2.1 p.2.2.1) true) → Ev (fun k => vernierlaw05_RoundBetween k f s0 a e) true := by
    intro p fp H
    refine Ev.congr (fun k => vernierlaw05_RoundBetween_eq k _ _ _ _) (Ev.bind awake05_ev (Ev.neg (notF rfl) (Ev.bind fp ?_)))
    by_cases c1 : f < 0
    · exact Ev.pos (dT c1) (Ev.some _)
    · refine Ev.neg (dF c1) ?_
      by_cases c2 : f > 3
      · exact Ev.pos (dT c2) (Ev.some _)
      · refine Ev.neg (dF c2) ?_
        cases hp : p.2.2.2
        · exact Ev.pos rfl (Ev.some _)
        · refine Ev.neg (by simp) ?_
          by_cases c3 : (p.2.1.length : Int) = 0
          · exact Ev.pos (bT c3) (Ev.some _)
          · exact Ev.neg (bF c3) (H (by omega) (by omega) hp c3)
  rcases fit_ev ha s0 e with fx | ⟨s, n, g, fx, x1, x2, x3, x4, x5⟩
  · exact step fx (fun _ _ hp _ => by cases hp)
  · refine step fx (fun f0 f4 _ hn => ?_)
    obtain ⟨W, P, em, ex, h⟩ := fm_of f0 f4
    have hx : Ft s n g := ⟨x1, x2, x3, x4, x5⟩
    refine bt_j0 h hx (fun z => hn ?_)
    show ((digs n).length : Int) = 0
    rw [z, digs_zero]; rfl
end Pure
end Go.Proofs.YtbaaggmicpigeaaDoor.X
