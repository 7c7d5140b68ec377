/- Plain law: NarrowOdd answers true. Conditions: what the reading says of the arguments. -/
import Derived.Test.YtljoaomnajlglaaDoorOddB
namespace Go.Proofs.YtljoaomnajlglaaDoor.X
open Go Go.Rex
set_option linter.unusedVariables false

theorem fm8 : Fm 1 16 8 (-126) 127 := ⟨by decide, by decide, rfl, by decide, by decide, by decide, by decide, by decide, by decide, by decide⟩
theorem flag_is (W P : Nat) (m : Int) (neg : Bool) (A B : Nat) (hl : lftP P A B ≠ 0) : (rnOut W P m neg A B).2 = 16 ∨ (rnOut W P m neg A B).2 = 24 ∨ (rnOut W P m neg A B).2 = 20 := by
  unfold rnOut
  by_cases c : infP W P ≤ rnd P m neg A B
  · rw [if_pos c]; simp
  · rw [if_neg c, if_neg hl]
    by_cases c2 : tinyB P m neg A B = true <;> simp [c2]
section
variable {g : Int} {W' P' : Nat} {em' ex' : Int} (h' : Fm g W' P' em' ex')
include h'
/-- From Double by Single, to odd first. -/
theorem twice_odd (hP : P' + 2 ≤ 24) {s : Nat} (hs : em' - (P' : Int) + 1 - (-126 - ((24 : Nat) : Int) + 1) = (s : Int)) (hs3 : 3 ≤ s) (hTop : plV P' (infP W' P') * 2 ^ s ≤ plV 24 (infP 32 24))
    (hVia : ∀ (n : Int) (neg : Bool), Md n → kOut W' P' n neg (plV 24 (infP 32 24 - 1)) (2 ^ s) = (if toInf n neg = true then infP W' P' else infP W' P' - 1) ∧ ((rnOut W' P' n neg (plV 24 (infP 32 24 - 1)) (2 ^ s)).2 = 16 ∨ (rnOut W' P' n neg (plV 24 (infP 32 24 - 1)) (2 ^ s)).2 = 20))
    (hSm : ∀ (n : Int) (neg : Bool) (A B : Nat), 0 < B → A < B * 2 ^ 23 → lftP P' A (B * 2 ^ s) ≠ 0 → P' = 11 → (rnOut W' P' n neg A (B * 2 ^ s)).2 = 24)
    {n : Int} (hn : Md n) {p : Nat} (neg : Bool) (p0 : p ≠ 0) (hp : p < infP 64 53) {B : Nat} (hB : (cvR 64 53 (-1022) 32 24 (-126) 5 p neg).1 = (B : Int)) :
    (cvR 32 24 (-126) W' P' em' n (pk 32 B) (ps 32 B)).1 = (cvR 64 53 (-1022) W' P' em' n p neg).1 ∧
    (((cvR 64 53 (-1022) 32 24 (-126) 5 p neg).2 = 0 ∧ (cvR 32 24 (-126) W' P' em' n (pk 32 B) (ps 32 B)).2 = (cvR 64 53 (-1022) W' P' em' n p neg).2 ∧ ((cvR 64 53 (-1022) W' P' em' n p neg).2 = 0 ∨ (cvR 64 53 (-1022) W' P' em' n p neg).2 = 16 ∨ (cvR 64 53 (-1022) W' P' em' n p neg).2 = 24 ∨ (cvR 64 53 (-1022) W' P' em' n p neg).2 = 20)) ∨
     (((cvR 64 53 (-1022) 32 24 (-126) 5 p neg).2 = 16 ∨ ((cvR 64 53 (-1022) 32 24 (-126) 5 p neg).2 = 24 ∧ (P' = 11 → (cvR 64 53 (-1022) W' P' em' n p neg).2 = 24))) ∧ (cvR 32 24 (-126) W' P' em' n (pk 32 B) (ps 32 B)).2 = (cvR 64 53 (-1022) W' P' em' n p neg).2 ∧ ((cvR 64 53 (-1022) W' P' em' n p neg).2 = 16 ∨ (cvR 64 53 (-1022) W' P' em' n p neg).2 = 24 ∨ (cvR 64 53 (-1022) W' P' em' n p neg).2 = 20)) ∨
     ((cvR 64 53 (-1022) 32 24 (-126) 5 p neg).2 = 20 ∧ (cvR 64 53 (-1022) W' P' em' n p neg).2 = 20 ∧ ((cvR 32 24 (-126) W' P' em' n (pk 32 B) (ps 32 B)).2 = 16 ∨ (cvR 32 24 (-126) W' P' em' n (pk 32 B) (ps 32 B)).2 = 20))) := by
  have h8' := h'.p8
  obtain ⟨i1, i2, i3⟩ := inf_big fm32
  have f1 := cvR_fin (W := 64) (P := 53) (W' := 32) (P' := 24) (em := -1022) (em' := -126) neg 5 p0 hp
  have f2 := cvR_fin (W := 64) (P := 53) (W' := W') (P' := P') (em := -1022) (em' := em') neg n p0 hp
  have t3 := r_three (plV 53 p) (-1022 - ((53 : Nat) : Int) + 1) (-126 - ((24 : Nat) : Int) + 1) (em' - (P' : Int) + 1) hs
  have hYp : 0 < rB 1 (-1022 - ((53 : Nat) : Int) + 1) (-126 - ((24 : Nat) : Int) + 1) := rB_pos (by decide) _ _
  have hYp' : 0 < rB 1 (-1022 - ((53 : Nat) : Int) + 1) (em' - (P' : Int) + 1) := rB_pos (by decide) _ _
  have hX0 : rA (plV 53 p) (-1022 - ((53 : Nat) : Int) + 1) (-126 - ((24 : Nat) : Int) + 1) ≠ 0 := by
    unfold rA
    exact Nat.mul_ne_zero (fun e => p0 ((plV_zero (P := 53) (by decide)).1 e)) (Nat.ne_of_gt (p2_pos _))
  have hs0 := Nat.two_pow_pos s
  rw [rnOut_cross W' P' n neg hYp' (Nat.mul_pos hYp hs0) t3] at f2
  rw [f2]
  rw [f1] at hB ⊢
  generalize rA (plV 53 p) (-1022 - ((53 : Nat) : Int) + 1) (-126 - ((24 : Nat) : Int) + 1) = X at *
  generalize rB 1 (-1022 - ((53 : Nat) : Int) + 1) (-126 - ((24 : Nat) : Int) + 1) = Y at *
  rw [rnOut_bits] at hB
  have e : B = kOut 32 24 5 neg X Y + sgB neg 32 := by omega
  have hle := kOut_le 32 24 5 neg X Y
  obtain ⟨q1, q2, -⟩ := pk_at (W := 32) (K := kOut 32 24 5 neg X Y) (by omega) i3 neg
  rw [e, q1, q2]
  by_cases c : infP 32 24 ≤ rnd 24 5 neg X Y
  · have ek : kOut 32 24 5 neg X Y = infP 32 24 - 1 := by unfold kOut; rw [if_pos c]; rfl
    have fl1 : (rnOut 32 24 5 neg X Y).2 = 20 := by unfold rnOut; rw [if_pos c]
    obtain ⟨s1, s2⟩ := second_at (eb := -126) fm32 h' hs n neg (K := infP 32 24 - 1) (by omega)
    obtain ⟨v1, v2⟩ := hVia n neg hn
    -- beyond at once, too
    have hF : plV 24 (infP 32 24) * Y ≤ X := by
      rcases rnd_odd (A := X) (P := 24) (by decide) hYp neg with ⟨-, e1, e2⟩ | ⟨-, e1, e2, e3, e4⟩
      · rw [e2, ← e1]
        exact Nat.mul_le_mul_right _ ((plV_le (P := 24) (by decide)).2 c)
      · have hev : infP 32 24 % 2 = 0 := by decide +kernel
        have : infP 32 24 ≤ flr 24 X Y := by omega
        exact Nat.le_trans (Nat.mul_le_mul_right _ ((plV_le (P := 24) (by decide)).2 this)) (Nat.le_of_lt e3)
    have big : infP W' P' ≤ rnd P' n neg X (Y * 2 ^ s) := by
      have hm := rnd_mono (P := P') (by omega) (Nat.mul_pos hYp hs0) (Nat.mul_pos hYp hs0) n neg (A := plV P' (infP W' P') * (Y * 2 ^ s)) (A' := X) (Nat.mul_le_mul_right _ (by
        calc plV P' (infP W' P') * (Y * 2 ^ s) = plV P' (infP W' P') * 2 ^ s * Y := by grind
          _ ≤ plV 24 (infP 32 24) * Y := Nat.mul_le_mul_right _ hTop
          _ ≤ X := hF))
      rwa [(rnd_exact (P := P') (by omega) (Nat.mul_pos hYp hs0) n neg).1] at hm
    have fl2 : (rnOut W' P' n neg X (Y * 2 ^ s)).2 = 20 := by unfold rnOut; rw [if_pos big]
    have hK0 : infP 32 24 - 1 ≠ 0 := by omega
    rw [ek, fl1, fl2, s2 hK0, rnOut_bits, rnOut_bits, v1]
    refine ⟨?_, .inr (.inr ⟨rfl, rfl, v2⟩)⟩
    unfold kOut
    rw [if_pos big]
  · have ek : kOut 32 24 5 neg X Y = rnd 24 5 neg X Y := by unfold kOut; rw [if_neg c]
    obtain ⟨o1, o2⟩ := odd_rnOut (s := s) (P := P') (Q := 24) (by omega) hP hs3 hYp W' n neg neg (A := X)
    have hK0 : rnd 24 5 neg X Y ≠ 0 := by
      rcases rnd_odd (A := X) (P := 24) (by decide) hYp neg with ⟨-, e1, e2⟩ | ⟨-, e1, -⟩
      · intro z
        rw [z] at e1
        rw [← e1, (plV_zero (P := 24) (by decide)).2 rfl, Nat.zero_mul] at e2
        exact hX0 e2
      · omega
    obtain ⟨s1, s2⟩ := second_at (eb := -126) fm32 h' hs n neg (K := rnd 24 5 neg X Y) (by omega)
    rw [ek, s2 hK0, o1]
    refine ⟨rfl, ?_⟩
    by_cases cl : lftP 24 X Y = 0
    · left
      refine ⟨?_, rfl, ?_⟩
      · unfold rnOut; rw [if_neg c, if_pos cl]
      · unfold rnOut
        by_cases c1 : infP W' P' ≤ rnd P' n neg X (Y * 2 ^ s)
        · rw [if_pos c1]; simp
        · rw [if_neg c1]
          by_cases c2 : lftP P' X (Y * 2 ^ s) = 0
          · rw [if_pos c2]; simp
          · rw [if_neg c2]; by_cases c3 : tinyB P' n neg X (Y * 2 ^ s) = true <;> simp [c3]
    · have hl : lftP P' X (Y * 2 ^ s) ≠ 0 := fun z => cl (by
        have ez := (lftP_zero (P := P') (by omega) (Nat.mul_pos hYp hs0)).1 z
        obtain ⟨u, q, e1, -, e3⟩ := plV_form (P := P') (by omega) (flr P' X (Y * 2 ^ s))
        obtain ⟨j, hj⟩ := plV_rep (P := 24) (r := q + s) (by decide) (Nat.lt_of_lt_of_le e3 (Nat.pow_le_pow_right (by decide) (by omega)))
        have eX : X = plV 24 j * Y := by
          rw [hj, Nat.pow_add, ← Nat.mul_assoc, ← e1]
          calc X = plV P' (flr P' X (Y * 2 ^ s)) * (Y * 2 ^ s) := ez
            _ = plV P' (flr P' X (Y * 2 ^ s)) * 2 ^ s * Y := by grind
        rw [eX]; exact (rnd_exact (P := 24) (by decide) hYp 5 neg).2)
      right; left
      refine ⟨?_, rfl, flag_is _ _ _ _ _ _ hl⟩
      by_cases ct : tinyB 24 5 neg X Y = true
      · right
        refine ⟨by unfold rnOut; rw [if_neg c, if_neg cl, if_pos ct], fun h11 => ?_⟩
        unfold tinyB at ct
        have := (Bool.and_eq_true _ _ ▸ ct).1
        exact hSm n neg X Y hYp (of_decide_eq_true this) hl h11
      · left; unfold rnOut; rw [if_neg c, if_neg cl, if_neg ct]
end
theorem oholds_at (k : Nat) {f g : Int} {W P W' P' : Nat} {em ex em' ex' : Int} (h : Fm f W P em ex) (h' : Fm g W' P' em' ex') : ∃ b, vernierlaw14_holds k g f = some b ∧ (b = true → P ≤ P' ∧ em' ≤ em) := by
  rw [vernierlaw14_holds_eq]
  rcases fm_cases h with ⟨rfl, rfl, rfl, rfl, rfl⟩ | ⟨rfl, rfl, rfl, rfl, rfl⟩ | ⟨rfl, rfl, rfl, rfl, rfl⟩ | ⟨rfl, rfl, rfl, rfl, rfl⟩ <;> rcases fm_cases h' with ⟨rfl, rfl, rfl, rfl, rfl⟩ | ⟨rfl, rfl, rfl, rfl, rfl⟩ | ⟨rfl, rfl, rfl, rfl, rfl⟩ | ⟨rfl, rfl, rfl, rfl, rfl⟩ <;> refine ⟨_, rfl, ?_⟩ <;> decide
theorem oholds_ev {f g : Int} {W P W' P' : Nat} {em ex em' ex' : Int} (h : Fm f W P em ex) (h' : Fm g W' P' em' ex') : ∃ b, Ev (fun k => vernierlaw14_holds k g f) b ∧ (b = true → P ≤ P' ∧ em' ≤ em) := by
  obtain ⟨b, h1, h2⟩ := oholds_at 0 h h'
  refine ⟨b, Ev.of fun k => ?_, h2⟩
  rw [← h1, vernierlaw14_holds_eq, vernierlaw14_holds_eq]
theorem brain_via (n : Int) (neg : Bool) (hn : Md n) : kOut 16 8 n neg (plV 24 (infP 32 24 - 1)) (2 ^ 16) = (if toInf n neg = true then infP 16 8 else infP 16 8 - 1) ∧ ((rnOut 16 8 n neg (plV 24 (infP 32 24 - 1)) (2 ^ 16)).2 = 16 ∨ (rnOut 16 8 n neg (plV 24 (infP 32 24 - 1)) (2 ^ 16)).2 = 20) := by
  have h2 := Nat.two_pow_pos 16
  have hf : flr 8 (plV 24 (infP 32 24 - 1)) (2 ^ 16) = infP 16 8 - 1 := flr_eq (by decide) h2 (by decide +kernel) (by decide +kernel)
  have hl : lftP 8 (plV 24 (infP 32 24 - 1)) (2 ^ 16) = 3 := by
    rw [lftP_val (by decide) h2, hf]; decide +kernel
  have hr := rnd_flr (P := 8) (by decide) n neg (plV 24 (infP 32 24 - 1)) (2 ^ 16)
  rw [hf, hl] at hr
  have hi : infP 16 8 = 32640 := by decide +kernel
  have fl := flag_is 16 8 n neg (plV 24 (infP 32 24 - 1)) (2 ^ 16) (by rw [hl]; decide)
  have nt : tinyB 8 n neg (plV 24 (infP 32 24 - 1)) (2 ^ 16) = false := by
    unfold tinyB
    rw [decide_eq_false (by decide +kernel), Bool.false_and]
  have hm0 := hn.m0; have hm5 := hn.m5
  have hm' : n = 0 ∨ n = 1 ∨ n = 2 ∨ n = 3 ∨ n = 4 ∨ n = 5 := by omega
  constructor
  · unfold kOut
    rw [hr, hi]
    rcases hm' with rfl | rfl | rfl | rfl | rfl | rfl <;> cases neg <;> decide
  · rcases fl with e | e | e
    · exact .inl e
    · exfalso
      unfold rnOut at e
      rw [hl, nt] at e
      by_cases c : infP 16 8 ≤ rnd 8 n neg (plV 24 (infP 32 24 - 1)) (2 ^ 16)
      · rw [if_pos c] at e; exact absurd (show (20 : Int) = 24 from e) (by decide)
      · rw [if_neg c, if_neg (by decide), if_neg (by decide)] at e; exact absurd (show (16 : Int) = 24 from e) (by decide)
    · exact .inr e
theorem half_via (n : Int) (neg : Bool) (hn : Md n) : kOut 16 11 n neg (plV 24 (infP 32 24 - 1)) (2 ^ 125) = (if toInf n neg = true then infP 16 11 else infP 16 11 - 1) ∧ ((rnOut 16 11 n neg (plV 24 (infP 32 24 - 1)) (2 ^ 125)).2 = 16 ∨ (rnOut 16 11 n neg (plV 24 (infP 32 24 - 1)) (2 ^ 125)).2 = 20) := by
  have h2 := Nat.two_pow_pos 125
  have big : infP 16 11 ≤ rnd 11 n neg (plV 24 (infP 32 24 - 1)) (2 ^ 125) := by
    have hm := rnd_mono (P := 11) (by decide) h2 h2 n neg (A := plV 11 (infP 16 11) * 2 ^ 125) (A' := plV 24 (infP 32 24 - 1)) (Nat.mul_le_mul_right _ (by decide +kernel))
    rwa [(rnd_exact (P := 11) (by decide) h2 n neg).1] at hm
  constructor
  · unfold kOut; rw [if_pos big]
  · right; unfold rnOut; rw [if_pos big]
theorem half_big {A B D : Nat} (hD : 4 * A < D) (n : Int) (neg : Bool) (hl : lftP 11 A D ≠ 0) : (rnOut 16 11 n neg A D).2 = 24 := by
  have hDp : 0 < D := by omega
  have z2 : 2 * A / D = 0 := Nat.div_eq_of_lt (by omega)
  have hf : flr 11 A D = 0 := flr_eq (by decide) hDp (by rw [(plV_zero (P := 11) (by decide)).2 rfl]; omega) (by
    have : plV 11 (0 + 1) = 1 := by decide +kernel
    rw [this]; omega)
  have hr := rnd_flr (P := 11) (by decide) n neg A D
  rw [hf] at hr
  have hc := chs_le n neg 0 (lftP 11 A D)
  have hi : infP 16 11 = 31744 := by decide +kernel
  have ht : tinyB 11 n neg A D = true := by
    unfold tinyB
    have c2 := chs_le n neg (2 * A / D) (lft (2 * A % D) D)
    have : cutN n neg (2 * A) D < 2 ^ 11 := by
      unfold cutN
      rw [z2] at c2 ⊢
      have : (2 : Nat) ^ 11 = 2048 := rfl
      omega
    have e10 : A < D * 2 ^ (11 - 1) := by
      have : (2 : Nat) ^ (11 - 1) = 1024 := rfl
      rw [this]; omega
    rw [decide_eq_true e10, decide_eq_true this]; rfl
  unfold rnOut
  rw [if_neg (by omega), if_neg hl, if_pos ht]
theorem half_far {A B x y : Nat} (hA : A < B * 2 ^ x) (hy : 2 ≤ y) : 4 * A < B * 2 ^ (x + y) := by
  have h4 : 2 ^ 2 ≤ 2 ^ y := pow_mono2 hy
  have e4 : (2 : Nat) ^ 2 = 4 := rfl
  rw [Nat.pow_add, ← Nat.mul_assoc]
  calc 4 * A < 4 * (B * 2 ^ x) := by omega
    _ ≤ 2 ^ y * (B * 2 ^ x) := Nat.mul_le_mul_right _ (by omega)
    _ = B * 2 ^ x * 2 ^ y := Nat.mul_comm _ _
theorem half_small (n : Int) (neg : Bool) (A B : Nat) (hB : 0 < B) (hA : A < B * 2 ^ 23) (hl : lftP 11 A (B * 2 ^ 125) ≠ 0) (h11 : 11 = 11) : (rnOut 16 11 n neg A (B * 2 ^ 125)).2 = 24 :=
  half_big (B := B) (half_far (y := 102) hA (by decide)) n neg hl
namespace Pure
abbrev TurnTyO : Ty := .pair (.int .i64) (.pair (.int .i64) (.pair (.int .i64) (.pair (.int .i64) (.pair (.int .i64) (.int .u64)))))
/-- For all turns: true. -/
theorem NarrowOdd (t : Int × (Int × (Int × (Int × (Int × Int))))) (w : WFt TurnTyO t) : Ev (fun k => vernierlaw14_NarrowOdd k t.1 t.2.1 t.2.2.1 t.2.2.2.1 t.2.2.2.2.1 t.2.2.2.2.2) true := by
  obtain ⟨w1, w2, w3, w4, w5, w6⟩ := w
  obtain ⟨f, y, g, m, n, a⟩ := t
  have ha : 0 ≤ a ∧ a < 18446744073709551616 := wf_u64 w6
  show Ev (fun k => vernierlaw14_NarrowOdd k f y g m n a) true
  obtain ⟨b, b1, b2⟩ := good_ev f y g m n a
  refine Ev.congr (fun k => vernierlaw14_NarrowOdd_eq k _ _ _ _ _ _) (Ev.bind awake14_ev (Ev.neg (notF rfl) (Ev.bind b1 ?_)))
  cases b
  · exact Ev.pos rfl (Ev.some _)
  obtain ⟨hf, hy, hg, md, md'⟩ := b2 rfl
  obtain ⟨W, P, em, ex, h⟩ := fm_of hf.1 hf.2
  obtain ⟨Wb, Pb, eb, xb, hb⟩ := fm_of hy.1 hy.2
  obtain ⟨W', P', em', ex', h'⟩ := fm_of hg.1 hg.2
  obtain ⟨x, rfl⟩ := Int.eq_ofNat_of_zero_le ha.1
  have hlt := Nat.mod_lt x (Nat.two_pow_pos W)
  refine Ev.neg (notF rfl) (Ev.bind (cut14_ev h (x := x) (by omega)) ?_)
  generalize x % 2 ^ W = A at *
  have cv := Convert_ok h h' md' hlt
  refine Ev.bind cv (Ev.neg (nF rfl) ?_)
  dsimp only
  -- the directed modes
  have last : Ev (fun k => vernierlaw14_NarrowOdd.j2 k f y g n (A : Int) (cvR W P em W' P' em' n (pk W A) (ps W A)).1) true := by
    obtain ⟨hh, q1, q2⟩ := oholds_ev h' hb
    refine Ev.congr (fun k => vernierlaw14_NarrowOdd.j2_eq k _ _ _ _ _ _) (Ev.bind q1 ?_)
    have off : Ev (fun k => vernierlaw14_NarrowOdd.j3 k f y g n (A : Int) (cvR W P em W' P' em' n (pk W A) (ps W A)).1 false) true := Ev.congr (fun k => vernierlaw14_NarrowOdd.j3_eq k _ _ _ _ _ _ _) (Ev.neg (by decide) (Ev.some _))
    cases hh
    · exact Ev.neg (by decide) off
    · obtain ⟨hP, he⟩ := q2 rfl
      have on : (n = 2 ∨ n = 3 ∨ n = 4) → Ev (fun k => vernierlaw14_NarrowOdd.j3 k f y g n (A : Int) (cvR W P em W' P' em' n (pk W A) (ps W A)).1 true) true := fun hn => by
        obtain ⟨B, hB, tw⟩ := Twice_ok h hb h' md' md' hlt
        refine Ev.congr (fun k => vernierlaw14_NarrowOdd.j3_eq k _ _ _ _ _ _ _) (Ev.pos rfl (Ev.bind tw (Ev.pos (by simp) (Ev.eq (Ev.some _) ?_))))
        have e : (cvR Wb Pb eb W' P' em' n (pk Wb B) (ps Wb B)).1 = (cvR W P em W' P' em' n (pk W A) (ps W A)).1 := by
          by_cases c : infP W P ≤ pk W A ∨ pk W A = 0
          · exact (twice_spec h hb (ps W A) c hB).1
          · exact twice_dir hb h' hn hP he (ps W A) (by omega) (by omega) hB
        dsimp only
        rw [e]; exact beq_self_eq_true _
      refine Ev.pos rfl ?_
      by_cases c2 : n = 2
      · exact Ev.pos (bT c2) (on (.inl c2))
      · by_cases c3 : n = 3
        · exact Ev.neg (bF c2) (Ev.pos (bT c3) (on (.inr (.inl c3))))
        · by_cases c4 : n = 4
          · rw [show (n == 4) = true by rw [c4]; rfl]; exact Ev.neg (bF c2) (Ev.neg (bF c3) (on (.inr (.inr c4))))
          · rw [show (n == 4) = false from beq_eq_false_iff_ne.2 c4]; exact Ev.neg (bF c2) (Ev.neg (bF c3) off)
  have j0f : Ev (fun k => vernierlaw14_NarrowOdd.j0 k f y g n (A : Int) (cvR W P em W' P' em' n (pk W A) (ps W A)).1 (cvR W P em W' P' em' n (pk W A) (ps W A)).2 false) true := Ev.congr (fun k => vernierlaw14_NarrowOdd.j0_eq k _ _ _ _ _ _ _ _) (Ev.neg (by decide) last)
  have j1 : ∀ {c e : Int}, c = (cvR W P em W' P' em' n (pk W A) (ps W A)).1 → e = (cvR W P em W' P' em' n (pk W A) (ps W A)).2 → Ev (fun k => vernierlaw14_NarrowOdd.j1 k f y g n (A : Int) (cvR W P em W' P' em' n (pk W A) (ps W A)).1 (cvR W P em W' P' em' n (pk W A) (ps W A)).2 c e 0) true := fun h1 h2 =>
    Ev.congr (fun k => vernierlaw14_NarrowOdd.j1_eq k _ _ _ _ _ _ _ _ _ _) (Ev.neg (by decide) (Ev.neg (nF h1) (Ev.neg (nF h2) last)))
  obtain ⟨B, hB, tw⟩ := Twice_ok h hb h' (m := 5) ⟨by decide, by decide⟩ md' hlt
  -- what two steps answer
  have j0t : ((cvR Wb Pb eb W' P' em' n (pk Wb B) (ps Wb B)).1 = (cvR W P em W' P' em' n (pk W A) (ps W A)).1) → (if y = 2 ∧ g = 1 then andNotK .i64 (orK .i64 (cvR W P em Wb Pb eb 5 (pk W A) (ps W A)).2 (cvR Wb Pb eb W' P' em' n (pk Wb B) (ps Wb B)).2) (andNotK .i64 8 (cvR W P em W' P' em' n (pk W A) (ps W A)).2) = (cvR W P em W' P' em' n (pk W A) (ps W A)).2 else orK .i64 (cvR W P em Wb Pb eb 5 (pk W A) (ps W A)).2 (cvR Wb Pb eb W' P' em' n (pk Wb B) (ps Wb B)).2 = (cvR W P em W' P' em' n (pk W A) (ps W A)).2) →
      Ev (fun k => vernierlaw14_NarrowOdd.j0 k f y g n (A : Int) (cvR W P em W' P' em' n (pk W A) (ps W A)).1 (cvR W P em W' P' em' n (pk W A) (ps W A)).2 true) true := fun h1 h2 => by
    refine Ev.congr (fun k => vernierlaw14_NarrowOdd.j0_eq k _ _ _ _ _ _ _ _) (Ev.pos rfl (Ev.bind tw ?_))
    by_cases c2 : y = 2
    · by_cases c1 : g = 1
      · rw [if_pos ⟨c2, c1⟩] at h2
        exact Ev.pos (bT c2) (Ev.pos (bT c1) (j1 h1 h2))
      · rw [if_neg (fun e => c1 e.2)] at h2
        exact Ev.pos (bT c2) (Ev.neg (bF c1) (j1 h1 h2))
    · rw [if_neg (fun e => c2 e.1)] at h2
      exact Ev.neg (bF c2) (j1 h1 h2)
  have ors : ∀ i : Int, i = 0 ∨ i = 1 ∨ i = 16 ∨ i = 24 ∨ i = 20 → orK .i64 i 0 = i ∧ orK .i64 0 i = i ∧ andNotK .i64 (orK .i64 i 0) (andNotK .i64 8 i) = i ∧ andNotK .i64 (orK .i64 0 i) (andNotK .i64 8 i) = i := by
    intro i hi
    rcases hi with rfl | rfl | rfl | rfl | rfl <;> decide
  have main : (y = 3 ∨ (y = 2 ∧ (g = 0 ∨ g = 1))) → Ev (fun k => vernierlaw14_NarrowOdd.j0 k f y g n (A : Int) (cvR W P em W' P' em' n (pk W A) (ps W A)).1 (cvR W P em W' P' em' n (pk W A) (ps W A)).2 true) true := fun hyg => by
    by_cases cs : infP W P ≤ pk W A ∨ pk W A = 0
    · obtain ⟨s1, s2, s3, s4⟩ := twice_spec (n := n) (W' := W') (P' := P') (em' := em') h hb (ps W A) cs hB
      refine j0t s1 ?_
      rw [s2, s3]
      obtain ⟨o1, o2, o3, o4⟩ := ors (cvR W P em W' P' em' n (pk W A) (ps W A)).2 (by omega)
      split
      · exact o3
      · exact o1
    · have p0 : pk W A ≠ 0 := fun e => cs (.inr e)
      have p1 : pk W A < infP W P := Nat.lt_of_not_le fun e => cs (.inl e)
      have flg : (cvR W P em W' P' em' n (pk W A) (ps W A)).2 = 0 ∨ (cvR W P em W' P' em' n (pk W A) (ps W A)).2 = 16 ∨ (cvR W P em W' P' em' n (pk W A) (ps W A)).2 = 24 ∨ (cvR W P em W' P' em' n (pk W A) (ps W A)).2 = 20 := by
        rw [cvR_fin _ _ p0 p1]
        unfold rnOut
        split
        · simp
        · dsimp only
          split
          · simp
          · split <;> simp
      by_cases cw : P ≤ Pb ∧ eb ≤ em
      · have hs : ∃ s : Nat, em' - (P' : Int) + 1 - (eb - (Pb : Int) + 1) = (s : Int) := by
          refine ⟨(em' - (P' : Int) + 1 - (eb - (Pb : Int) + 1)).toNat, ?_⟩
          rcases hyg with rfl | ⟨rfl, rfl | rfl⟩
          · rcases fm_cases hb with ⟨e, -⟩ | ⟨e, -⟩ | ⟨e, -⟩ | ⟨-, rfl, rfl, rfl, rfl⟩
            · omega
            · omega
            · omega
            · rcases fm_cases h' with ⟨-, rfl, rfl, rfl, rfl⟩ | ⟨-, rfl, rfl, rfl, rfl⟩ | ⟨-, rfl, rfl, rfl, rfl⟩ | ⟨-, rfl, rfl, rfl, rfl⟩ <;> decide
          · rcases fm_cases hb with ⟨e, -⟩ | ⟨e, -⟩ | ⟨-, rfl, rfl, rfl, rfl⟩ | ⟨e, -⟩
            · omega
            · omega
            · rcases fm_cases h' with ⟨-, rfl, rfl, rfl, rfl⟩ | ⟨e, -⟩ | ⟨e, -⟩ | ⟨e, -⟩
              · decide
              · omega
              · omega
              · omega
            · omega
          · rcases fm_cases hb with ⟨e, -⟩ | ⟨e, -⟩ | ⟨-, rfl, rfl, rfl, rfl⟩ | ⟨e, -⟩
            · omega
            · omega
            · rcases fm_cases h' with ⟨e, -⟩ | ⟨-, rfl, rfl, rfl, rfl⟩ | ⟨e, -⟩ | ⟨e, -⟩
              · omega
              · decide
              · omega
              · omega
            · omega
        obtain ⟨s, hs⟩ := hs
        obtain ⟨s1, s2⟩ := twice_wide (n := n) h hb h' cw.1 cw.2 hs (ps W A) p0 p1 hB
        refine j0t (by rw [s1]) ?_
        rw [s1, s2]
        obtain ⟨o1, o2, o3, o4⟩ := ors (cvR W P em W' P' em' n (pk W A) (ps W A)).2 (by omega)
        split
        · exact o4
        · exact o2
      · -- from Double, by Single
        rcases hyg with rfl | ⟨rfl, hg01⟩
        · exfalso
          rcases fm_cases hb with ⟨e, -⟩ | ⟨e, -⟩ | ⟨e, -⟩ | ⟨-, rfl, rfl, rfl, rfl⟩
          · omega
          · omega
          · omega
          · exact cw ⟨h.p53, h.m0⟩
        · rcases fm_cases hb with ⟨e, -⟩ | ⟨e, -⟩ | ⟨-, rfl, rfl, rfl, rfl⟩ | ⟨e, -⟩
          · omega
          · omega
          · rcases fm_cases h with ⟨-, rfl, rfl, rfl, rfl⟩ | ⟨-, rfl, rfl, rfl, rfl⟩ | ⟨-, rfl, rfl, rfl, rfl⟩ | ⟨-, rfl, rfl, rfl, rfl⟩
            · exact absurd ⟨by decide, by decide⟩ cw
            · exact absurd ⟨by decide, by decide⟩ cw
            · exact absurd ⟨by decide, by decide⟩ cw
            · rcases hg01 with rfl | rfl
              · rcases fm_cases h' with ⟨-, rfl, rfl, rfl, rfl⟩ | ⟨e, -⟩ | ⟨e, -⟩ | ⟨e, -⟩
                · obtain ⟨s1, s2⟩ := twice_odd fm16 (by decide) (s := 125) (by decide) (by decide) (by decide +kernel) half_via half_small md' (ps 64 A) p0 p1 hB
                  refine j0t s1 ?_
                  rw [if_neg (by decide)]
                  generalize (cvR 64 53 (-1022) 32 24 (-126) 5 (pk 64 A) (ps 64 A)).2 = o at *
                  generalize (cvR 64 53 (-1022) 16 11 (-14) n (pk 64 A) (ps 64 A)).2 = i at *
                  generalize (cvR 32 24 (-126) 16 11 (-14) n (pk 32 B) (ps 32 B)).2 = u at *
                  rcases s2 with ⟨rfl, rfl, hi⟩ | ⟨ho, rfl, hi⟩ | ⟨rfl, rfl, hu⟩
                  · exact (ors u (by omega)).2.1
                  · rcases ho with rfl | ⟨rfl, hi2⟩
                    · rcases hi with rfl | rfl | rfl <;> decide
                    · rw [hi2 rfl]; decide
                  · rcases hu with rfl | rfl <;> decide
                · omega
                · omega
                · omega
              · rcases fm_cases h' with ⟨e, -⟩ | ⟨-, rfl, rfl, rfl, rfl⟩ | ⟨e, -⟩ | ⟨e, -⟩
                · omega
                · obtain ⟨s1, s2⟩ := twice_odd fm8 (by decide) (s := 16) (by decide) (by decide) (by decide +kernel) brain_via (fun _ _ _ _ _ _ _ e => absurd e (by decide)) md' (ps 64 A) p0 p1 hB
                  refine j0t s1 ?_
                  rw [if_pos ⟨rfl, rfl⟩]
                  generalize (cvR 64 53 (-1022) 32 24 (-126) 5 (pk 64 A) (ps 64 A)).2 = o at *
                  generalize (cvR 64 53 (-1022) 16 8 (-126) n (pk 64 A) (ps 64 A)).2 = i at *
                  generalize (cvR 32 24 (-126) 16 8 (-126) n (pk 32 B) (ps 32 B)).2 = u at *
                  rcases s2 with ⟨rfl, rfl, hi⟩ | ⟨ho, rfl, hi⟩ | ⟨rfl, rfl, hu⟩
                  · exact (ors u (by omega)).2.2.2
                  · rcases ho with rfl | ⟨rfl, hi2⟩ <;> rcases hi with rfl | rfl | rfl <;> decide
                  · rcases hu with rfl | rfl <;> decide
                · omega
                · omega
          · omega
  by_cases c3 : y = 3
  · exact Ev.pos (bT c3) (main (.inl c3))
  · refine Ev.neg (bF c3) ?_
    by_cases c2 : y = 2
    · refine Ev.pos (bT c2) ?_
      by_cases c0 : g = 0
      · exact Ev.pos (bT c0) (main (.inr ⟨c2, .inl c0⟩))
      · by_cases c1 : g = 1
        · rw [show (g == 1) = true by rw [c1]; rfl]; exact Ev.neg (bF c0) (main (.inr ⟨c2, .inr c1⟩))
        · rw [show (g == 1) = false from beq_eq_false_iff_ne.2 c1]; exact Ev.neg (bF c0) j0f
    · exact Ev.neg (bF c2) j0f
end Pure
end Go.Proofs.YtljoaomnajlglaaDoor.X
