/- Plain law: what a hexadecimal text says, by the program and by the reference: kinds, signs, digits. Conditions: the texts are short. -/
import Derived.Test.YtmoeaeflljpboaaDoorHxD
namespace Go.Proofs.YtmoeaeflljpboaaDoor.X
open Go Go.Rex
set_option linter.unusedVariables false

/-- What the reference's reader leaves. -/
def RReadIs (nan inf neg : Bool) (o : Option (List Int × Nat × Int)) (r : Bool × Bool × Bool × Bool × List Int × Int × Bool) : Prop :=
  match o with
  | none => r.2.2.2.2.2.2 = false
  | some (d, b, v) => r = (nan, (inf, (neg, (neg, (d32 (hexN d), (v - 4 * (b : Int), true))))))
theorem hexN_len {ds : List Int} (h : HexL ds) (hl : ds.length ≤ 100000) : (d32 (hexN ds)).length ≤ 20000 := by
  refine d32_short (p := 4 * ds.length) ?_ (by omega)
  have := hexN_lt h
  rwa [show (16 : Nat) = 2 ^ 4 by decide, ← Nat.pow_mul] at this
theorem xvF_bound {cap : Nat} {l : List Int} {v : Int} (h : expF cap l = some v) : -(cap : Int) ≤ v ∧ v ≤ (cap : Int) := by
  unfold expF at h
  split at h
  · cases h
  · cases hx : xvF cap (sgnL l).2 0 with
    | none => rw [hx] at h; cases h
    | some x =>
      rw [hx] at h
      have := xvF_le (Nat.zero_le _) hx
      have h : some (if (sgnL l).1 = true then -(x : Int) else (x : Int)) = some v := h
      cases h
      split <;> omega
section
variable {s : ByteArray} (hs : s.size ≤ 100000) (b7 b8 b9 b10 nan inf neg b15 : Bool) (x11 x16 : Int)
include hs
omit hs in
theorem rread_end {ds : List Int} (hd : HexL ds) (hl : ds.length ≤ 100000) {bh : Nat} (hb : bh ≤ 100000) {pt : Int} {v : Int} (hv : -30000 ≤ v ∧ v ≤ 30000) {i : Nat} (hi : s.size ≤ i) (hi2 : i ≤ 100001) :
    ∃ r, Ev2 (fun k m => vernierref15_Read.l4 k m s (d32 (hexN ds)) (ds.length : Int) pt (bh : Int) v (i : Int) b7 b8 b9 b10 x11 nan inf neg b15 x16) r ∧ RReadIs nan inf neg (if ds = [] then none else some (ds, bh, v)) r := by
  have hn := hexN_len hd hl
  have ht := rTrim3 (W32.d32 (hexN ds)) (by omega)
  rw [v32_d32] at ht
  refine ⟨_, Ev2.step (fun k m => vernierref15_Read.l4_eq k m _ _ _ _ _ _ _ _ _ _ _ _ _ _ _ _ _) (Ev2.neg (dF (by omega)) (Ev2.call ht (Ev2.some _))), ?_⟩
  cases ds with
  | nil => rw [if_pos rfl]; rfl
  | cons a r =>
    rw [if_neg (by simp)]
    show (nan, (inf, (neg, (neg, (_, (IntKind.i64.wrap (v - IntKind.i64.wrap (4 * (bh : Int))), decide (((a :: r).length : Int) > 0))))))) = _
    rw [wrapI (x := 4 * (bh : Int)) (by omega) (by omega), wrapI (by omega) (by omega), decide_eq_true (by simp)]
theorem rread_l4 (n : Nat) : ∀ (i : Nat) (pt : Bool) (ds : List Int) (bh : Nat), i + n = s.size → HexL ds → ds.length ≤ i → bh ≤ i →
    ∃ r, Ev2 (fun k m => vernierref15_Read.l4 k m s (d32 (hexN ds)) (ds.length : Int) (if pt then 1 else 0) (bh : Int) 0 (i : Int) b7 b8 b9 b10 x11 nan inf neg b15 x16) r ∧
      RReadIs nan inf neg (match rdF ((bl s).drop i) pt ds bh with
        | none => none
        | some (ds, bh, none) => if ds = [] then none else some (ds, bh, 0)
        | some (ds, bh, some r) => match expF 30000 r with
          | none => none
          | some v => if ds = [] then none else some (ds, bh, v)) r := by
  have l1 := bl_length s
  induction n with
  | zero =>
    intro i pt ds bh hi hx hd hb
    rw [List.drop_of_length_le (by omega), rdF]
    exact rread_end (s := s) b7 b8 b9 b10 nan inf neg b15 x11 x16 hx (by omega) (by omega) (by omega) (by omega) (by omega)
  | succ n ih =>
    intro i pt ds bh hi hx hd hb
    rw [drop_cons (l := bl s) (by omega), rdF]
    have hby := bytes_getD (bl_bytes s) i
    have hlen := hexN_len hx (by omega)
    have e0 : bt s (i : Int) = (bl s).getD i 0 := by rw [bt_bl, Int.toNat_natCast]
    have w1 : IntKind.i64.wrap ((i : Int) + 1) = ((i + 1 : Nat) : Int) := by rw [wrapI (by omega) (by omega)]; omega
    have start : ∀ {r}, _ → Ev2 (fun k m => vernierref15_Read.l4 k m s (d32 (hexN ds)) (ds.length : Int) (if pt then 1 else 0) (bh : Int) 0 (i : Int) b7 b8 b9 b10 x11 nan inf neg b15 x16) r := fun hh => Ev2.step (fun k m => vernierref15_Read.l4_eq k m _ _ _ _ _ _ _ _ _ _ _ _ _ _ _ _ _) (Ev2.pos (dT (by omega)) (Ev2.pos ⟨by omega, by omega⟩ hh))
    rw [e0] at start
    have dg := value_ev hby.1 hby.2
    by_cases hc : 0 ≤ hexD ((bl s).getD i 0)
    · simp only [if_pos hc]
      rw [if_pos hc] at dg
      have hlt := hexD_lt ((bl s).getD i 0)
      obtain ⟨r, g1, g2⟩ := ih (i + 1) pt (ds ++ [hexD ((bl s).getD i 0)]) (if pt then bh + 1 else bh) (by omega) (hx.snoc hc) (by simp; omega) (by split <;> omega)
      refine ⟨r, ?_, g2⟩
      obtain ⟨v, hv⟩ := Int.eq_ofNat_of_zero_le hc
      have hL := rLeft (n := hexN ds) (t := 4) (by omega) (by omega)
      have hP := rPlus_one (n := hexN ds * 2 ^ 4) (v := v) (by
        have := hexN_len (hx.snoc hc) (by simp; omega)
        rw [hexN_snoc] at this
        exact Nat.le_trans (d32_mono (show hexN ds * 2 ^ 4 ≤ 16 * hexN ds + (hexD ((bl s).getD i 0)).toNat by omega)) (by omega)) (by omega)
      have hN : hexN ds * 2 ^ 4 + v = hexN (ds ++ [hexD ((bl s).getD i 0)]) := by rw [hexN_snoc, hv, Int.toNat_natCast]; omega
      rw [hN] at hP
      refine start (Ev2.call dg (Ev2.pos (dT (by omega)) (Ev2.call hL (Ev2.call (a := d32 (hexN (ds ++ [hexD ((bl s).getD i 0)]))) ?_ ?_))))
      · show Ev (fun k => vernierref03_Plus k _ [hexD ((bl s).getD i 0)]) _
        rw [hv]; rw [hv] at hP; exact hP
      · have w2 : IntKind.i64.wrap ((ds.length : Int) + 1) = ((ds ++ [hexD ((bl s).getD i 0)]).length : Int) := by rw [wrapI (by omega) (by omega)]; simp
        have w3 : IntKind.i64.wrap ((bh : Int) + (if pt then 1 else 0)) = ((if pt then bh + 1 else bh : Nat) : Int) := by
          cases pt
          · rw [if_neg (by simp), if_neg (by simp), wrapI (by omega) (by omega)]; omega
          · rw [if_pos rfl, if_pos rfl, wrapI (by omega) (by omega)]; omega
        rw [w1, w2, w3]
        exact g1
    · simp only [if_neg hc]
      rw [if_neg hc] at dg
      have hj5 : ∀ (b : Bool) {r}, b = decide ((bl s).getD i 0 = 46 ∧ pt = false) → Ev2 (fun k m => vernierref15_Read.j5 k m s (d32 (hexN ds)) (ds.length : Int) (if pt then 1 else 0) (bh : Int) 0 (i : Int) ((bl s).getD i 0) b b7 b8 b9 b10 x11 nan inf neg b15 x16) r → Ev2 (fun k m => vernierref15_Read.l4 k m s (d32 (hexN ds)) (ds.length : Int) (if pt then 1 else 0) (bh : Int) 0 (i : Int) b7 b8 b9 b10 x11 nan inf neg b15 x16) r := by
        intro b r hb3 g
        refine start (Ev2.call dg (Ev2.neg (dF (by omega)) ?_))
        by_cases c46 : (bl s).getD i 0 = 46
        · refine Ev2.pos (bT c46) ?_
          have : b = ((if pt then (1 : Int) else 0) == 0) := by
            rw [hb3]
            cases pt
            · exact decide_eq_true ⟨c46, rfl⟩
            · exact decide_eq_false (fun h => by cases h.2)
          rw [this] at g; exact g
        · refine Ev2.neg (bF c46) ?_
          have : b = false := by rw [hb3]; exact decide_eq_false (fun h => c46 h.1)
          rw [this] at g; exact g
      by_cases hpt : (bl s).getD i 0 = 46 ∧ pt = false
      · simp only [if_pos hpt]
        obtain ⟨r, g1, g2⟩ := ih (i + 1) true ds bh (by omega) hx (by omega) (by omega)
        refine ⟨r, hj5 true (decide_eq_true hpt).symm (Ev2.congr (fun k m => vernierref15_Read.j5_eq k m _ _ _ _ _ _ _ _ _ _ _ _ _ _ _ _ _ _ _) (Ev2.pos rfl ?_)), g2⟩
        rw [w1]; exact g1
      · simp only [if_neg hpt]
        have hj6 : ∀ (b : Bool) {r}, b = decide ((bl s).getD i 0 = 112 ∨ (bl s).getD i 0 = 80) → Ev2 (fun k m => vernierref15_Read.j6 k m s (d32 (hexN ds)) (ds.length : Int) (if pt then 1 else 0) (bh : Int) (i : Int) b b7 b8 b9 b10 x11 nan inf neg b15 x16) r → Ev2 (fun k m => vernierref15_Read.l4 k m s (d32 (hexN ds)) (ds.length : Int) (if pt then 1 else 0) (bh : Int) 0 (i : Int) b7 b8 b9 b10 x11 nan inf neg b15 x16) r := by
          intro b r hb2 g
          refine hj5 false (decide_eq_false hpt).symm (Ev2.congr (fun k m => vernierref15_Read.j5_eq k m _ _ _ _ _ _ _ _ _ _ _ _ _ _ _ _ _ _ _) (Ev2.neg (by simp) ?_))
          by_cases c112 : (bl s).getD i 0 = 112
          · have : b = true := by rw [hb2]; exact decide_eq_true (.inl c112)
            rw [this] at g
            exact Ev2.pos (bT c112) g
          · refine Ev2.neg (bF c112) ?_
            have : b = ((bl s).getD i 0 == 80) := by
              rw [hb2]
              by_cases c80 : (bl s).getD i 0 = 80
              · rw [beq_iff_eq.2 c80]; exact decide_eq_true (.inr c80)
              · rw [beq_eq_false_iff_ne.2 c80]; exact decide_eq_false (fun h => h.elim c112 c80)
            rw [this] at g; exact g
        by_cases hp : (bl s).getD i 0 = 112 ∨ (bl s).getD i 0 = 80
        · simp only [if_pos hp]
          have hbd := bl_drop s (i + 1) (by omega)
          have hsz : (s.extract (i + 1) s.size).size ≤ 100000 := by rw [← bl_length, hbd, List.length_drop]; omega
          have g1 := rexponent_ev hsz
          rw [hbd] at g1
          have g3 : ∀ {r}, _ → Ev2 (fun k m => vernierref15_Read.j6 k m s (d32 (hexN ds)) (ds.length : Int) (if pt then 1 else 0) (bh : Int) (i : Int) true b7 b8 b9 b10 x11 nan inf neg b15 x16) r := fun hh => Ev2.congr (fun k m => vernierref15_Read.j6_eq k m _ _ _ _ _ _ _ _ _ _ _ _ _ _ _ _ _) (Ev2.pos rfl (by
            rw [w1, Int.toNat_natCast]
            exact Ev2.pos ⟨by omega, by omega⟩ (Ev2.call g1 hh)))
          unfold expR at g3
          cases he : expF 30000 ((bl s).drop (i + 1)) with
          | none =>
            rw [he] at g3
            exact ⟨_, hj6 true (decide_eq_true hp).symm (g3 (Ev2.pos rfl (Ev2.some _))), rfl⟩
          | some v =>
            rw [he] at g3
            have hv := xvF_bound he
            obtain ⟨r, q1, q2⟩ := rread_end (s := s) b7 b8 b9 b10 nan inf neg b15 x11 x16 hx (by omega) (bh := bh) (by omega) (pt := if pt then 1 else 0) (v := v) (by omega) (i := s.size + 1) (by omega) (by omega)
            refine ⟨r, hj6 true (decide_eq_true hp).symm (g3 (Ev2.neg (by simp) ?_)), q2⟩
            rw [show IntKind.i64.wrap ((s.size : Int) + 1) = ((s.size + 1 : Nat) : Int) by rw [wrapI (by omega) (by omega)]; omega]
            exact q1
        · simp only [if_neg hp]
          exact ⟨_, hj6 false (decide_eq_false hp).symm (Ev2.congr (fun k m => vernierref15_Read.j6_eq k m _ _ _ _ _ _ _ _ _ _ _ _ _ _ _ _ _) (Ev2.neg (by simp) (Ev2.some _))), rfl⟩
end

/-! ### What a text says -/
def nanL : List Int := [110, 97, 110]
def infL : List Int := [105, 110, 102]
theorem small_nan : Small nanL := by intro b hb; simp [nanL] at hb; omega
theorem small_inf : Small infL := by intro b hb; simp [infL] at hb; omega
/-- Does it begin with 0x? -/
def pre0x (l : List Int) : Bool := decide (2 ≤ l.length) && (l.getD 0 0 == 48 && (l.getD 1 0 == 120 || l.getD 1 0 == 88))
inductive Sd where
  | bad | nan | inf | num (d : List Int) (b : Nat) (v : Int)
/-- What a text behind its sign says. -/
def sdF (cap : Nat) (l : List Int) : Sd :=
  if isW l nanL then .nan else if isW l infL then .inf else if pre0x l then (match readF cap (l.drop 2) with | none => .bad | some (d, b, v) => .num d b v) else .bad
/-- What the reference's reader answers. -/
def SaidIs (sd : Sd) (neg : Bool) (r : Bool × Bool × Bool × Bool × List Int × Int × Bool) : Prop :=
  match sd with
  | .bad => r.2.2.2.2.2.2 = false
  | .nan => r.1 = true ∧ r.2.2.2.2.2.2 = true
  | .inf => r.1 = false ∧ r.2.1 = true ∧ r.2.2.1 = neg ∧ r.2.2.2.2.2.2 = true
  | .num d b v => r = (false, (false, (neg, (neg, (d32 (hexN d), (v - 4 * (b : Int), true))))))
theorem bt_get (s : ByteArray) (i : Nat) : bt s (i : Int) = (bl s).getD i 0 := by rw [bt_bl, Int.toNat_natCast]
theorem rread_j1 {s : ByteArray} (hs : s.size ≤ 100000) (neg : Bool) : ∃ r, Ev (fun k => vernierref15_Read.j1 k s false false false false 0 false false neg false 0) r ∧ SaidIs (sdF 30000 (bl s)) neg r := by
  have l1 := bl_length s
  have n0 : bl vernierref15_Read.s0 = nanL := by decide
  have n1 : bl vernierref15_Read.s1 = infL := by decide
  have a0 := word_ev (s := s) (w := vernierref15_Read.s0) (by rw [n0]; exact small_nan) hs
  have a1 := word_ev (s := s) (w := vernierref15_Read.s1) (by rw [n1]; exact small_inf) hs
  rw [n0] at a0
  rw [n1] at a1
  have start : ∀ {r}, _ → Ev (fun k => vernierref15_Read.j1 k s false false false false 0 false false neg false 0) r := fun hh => Ev.congr (fun k => vernierref15_Read.j1_eq k _ _ _ _ _ _ _ _ _ _ _) (Ev.bind a0 hh)
  unfold sdF
  cases c0 : isW (bl s) nanL with
  | true =>
    rw [c0] at start
    exact ⟨_, start (Ev.pos rfl (Ev.some _)), rfl, rfl⟩
  | false =>
    rw [c0] at start
    simp only [Bool.false_eq_true, if_false]
    cases c1 : isW (bl s) infL with
    | true =>
      rw [c1] at a1
      exact ⟨_, start (Ev.neg (by simp) (Ev.bind a1 (Ev.pos rfl (Ev.some _)))), rfl, rfl, rfl, rfl⟩
    | false =>
      rw [c1] at a1
      simp only [Bool.false_eq_true, if_false]
      have go : ∀ {r}, _ → Ev (fun k => vernierref15_Read.j1 k s false false false false 0 false false neg false 0) r := fun hh => start (Ev.neg (by simp) (Ev.bind a1 (Ev.neg (by simp) hh)))
      have j2 : ∀ b : Bool, (b = true → ∃ r, Ev (fun k => vernierref15_Read.j2 k s b false false false false 0 false false neg false 0) r ∧ r.2.2.2.2.2.2 = false) := by
        intro b hb
        subst hb
        exact ⟨_, Ev.congr (fun k => vernierref15_Read.j2_eq k _ _ _ _ _ _ _ _ _ _ _ _) (Ev.pos rfl (Ev.some _)), rfl⟩
      by_cases c2 : s.size < 2
      · rw [show pre0x (bl s) = false by unfold pre0x; rw [decide_eq_false (by omega), Bool.false_and]]
        obtain ⟨r, g1, g2⟩ := j2 true rfl
        exact ⟨r, go (Ev.pos (dT (by omega)) g1), g2⟩
      · have g0 : ∀ {r}, _ → Ev (fun k => vernierref15_Read.j1 k s false false false false 0 false false neg false 0) r := fun hh => go (Ev.neg (dF (by omega)) (Ev.pos ⟨by omega, by omega⟩ hh))
        have b0 := bt_get s 0
        have b1 := bt_get s 1
        by_cases c3 : (bl s).getD 0 0 = 48
        · by_cases c4 : (bl s).getD 1 0 = 120 ∨ (bl s).getD 1 0 = 88
          · have hp : pre0x (bl s) = true := by
              unfold pre0x
              rw [decide_eq_true (by omega), beq_iff_eq.2 c3, Bool.true_and, Bool.true_and, Bool.or_eq_true, beq_iff_eq, beq_iff_eq]; exact c4
            rw [hp]
            simp only [if_true]
            obtain ⟨r, g1, g2⟩ := rread_l4 hs false false false false false false neg false 0 0 (s.size - 2) 2 false [] 0 (by omega) (fun _ h => by cases h) (by simp) (by omega)
            have e2 : ∀ {r}, Ev (fun k => vernierref15_Read.l4 k k s (d32 (hexN [])) (([] : List Int).length : Int) (if false then 1 else 0) ((0 : Nat) : Int) 0 ((2 : Nat) : Int) false false false false 0 false false neg false 0) r → Ev (fun k => vernierref15_Read.j2 k s false false false false false 0 false false neg false 0) r := fun g => Ev.congr (fun k => vernierref15_Read.j2_eq k _ _ _ _ _ _ _ _ _ _ _ _) (Ev.neg (by simp) (Ev.congr (fun k => vernierref15_Read.j3_eq k _ _ _ _ _ _ _ _ _ _ _) (by
              rw [show d32 (hexN []) = [] by rw [show hexN [] = 0 from rfl, d32_zero]] at g
              exact g)))
            refine ⟨r, g0 (Ev.neg (nF (by rw [show (0 : Int) = ((0 : Nat) : Int) from rfl, b0]; exact c3)) (Ev.pos ⟨by omega, by omega⟩ ?_)), ?_⟩
            · rw [show (1 : Int) = ((1 : Nat) : Int) from rfl, b1]
              by_cases c5 : (bl s).getD 1 0 = 120
              · exact Ev.neg (nF c5) (e2 g1.ev)
              · have c6 : (bl s).getD 1 0 = 88 := c4.resolve_left c5
                refine Ev.pos (nT c5) (Ev.pos ⟨by omega, by omega⟩ ?_)
                rw [show ((bl s).getD 1 0 != 88) = false by rw [c6]; rfl]
                exact e2 g1.ev
            · unfold readF
              revert g2
              generalize rdF ((bl s).drop 2) false [] 0 = o
              intro g2
              match o, g2 with
              | none, g2 => exact g2
              | some (ds, bh, none), g2 =>
                simp only at g2 ⊢
                split at g2
                · rename_i c; rw [if_pos c]; exact g2
                · rename_i c; rw [if_neg c]; exact g2
              | some (ds, bh, some q), g2 =>
                simp only at g2 ⊢
                cases he : expF 30000 q with
                | none => rw [he] at g2; exact g2
                | some v =>
                  rw [he] at g2
                  simp only at g2 ⊢
                  split at g2
                  · rename_i c; rw [if_pos c]; exact g2
                  · rename_i c; rw [if_neg c]; exact g2
          · have hp : pre0x (bl s) = false := by
              unfold pre0x
              rw [show ((bl s).getD 1 0 == 120 || (bl s).getD 1 0 == 88) = false by
                rw [beq_eq_false_iff_ne.2 (fun e => c4 (.inl e)), beq_eq_false_iff_ne.2 (fun e => c4 (.inr e))]; rfl, Bool.and_false, Bool.and_false]
            rw [hp]
            obtain ⟨r, g1, g2⟩ := j2 true rfl
            refine ⟨r, g0 (Ev.neg (nF (by rw [show (0 : Int) = ((0 : Nat) : Int) from rfl, b0]; exact c3)) (Ev.pos ⟨by omega, by omega⟩ ?_)), g2⟩
            rw [show (1 : Int) = ((1 : Nat) : Int) from rfl, b1]
            refine Ev.pos (nT (fun e => c4 (.inl e))) (Ev.pos ⟨by omega, by omega⟩ ?_)
            rw [show ((bl s).getD 1 0 != 88) = true by simpa using fun e => c4 (.inr e)]
            exact g1
        · have hp : pre0x (bl s) = false := by
            unfold pre0x
            rw [beq_eq_false_iff_ne.2 c3, Bool.false_and, Bool.and_false]
          rw [hp]
          obtain ⟨r, g1, g2⟩ := j2 true rfl
          exact ⟨r, g0 (Ev.pos (nT (by rw [show (0 : Int) = ((0 : Nat) : Int) from rfl, b0]; exact c3)) g1), g2⟩
theorem rread_ev {s : ByteArray} (hs : s.size ≤ 100000) : ∃ r, Ev (fun k => vernierref15_Read k s) r ∧ SaidIs (sdF 30000 (sgnL (bl s)).2) (sgnL (bl s)).1 r := by
  have e1 : ((1 : Int).toNat) = 1 := rfl
  by_cases c0 : 0 < s.size
  · have start : ∀ {r}, _ → Ev (fun k => vernierref15_Read k s) r := fun hh => Ev.congr (fun k => vernierref15_Read_eq k s) (Ev.pos (dT (by omega)) (Ev.pos ⟨by omega, by omega⟩ hh))
    have cut : ∀ c, headIs (bl s) c = true → (∀ neg, (bt s 0 == 45) = neg → sgnL (bl s) = (neg, (bl s).drop 1) → ∃ r, Ev (fun k => vernierref15_Read.j0 k s true false false false false 0 false false false false 0) r ∧ SaidIs (sdF 30000 (sgnL (bl s)).2) (sgnL (bl s)).1 r) := by
      intro c hc neg hn hsg
      have hz := headIs_size hc
      have hsz : (s.extract 1 s.size).size ≤ 100000 := by rw [← bl_length, sgn_size hc, List.length_drop, bl_length]; omega
      obtain ⟨r, g1, g2⟩ := rread_j1 hsz neg
      rw [sgn_size hc] at g2
      rw [hsg]
      refine ⟨r, Ev.congr (fun k => vernierref15_Read.j0_eq k _ _ _ _ _ _ _ _ _ _ _ _) (Ev.pos rfl (Ev.pos ⟨by omega, by omega⟩ (Ev.pos ⟨by omega, by omega⟩ ?_))), g2⟩
      rw [hn, e1]; exact g1
    cases h2 : headIs (bl s) 43 with
    | true =>
      have h1 : headIs (bl s) 45 = false := by
        cases hb : bl s with
        | nil => rfl
        | cons a r =>
          rw [hb] at h2
          have : a = 43 := by simpa [headIs] using h2
          subst this; rfl
      obtain ⟨r, g1, g2⟩ := cut 43 h2 false (by rw [head_of c0, h1]) (sgnL_plus h1 h2)
      exact ⟨r, start (Ev.pos (by rw [head_of c0]; exact h2) g1), g2⟩
    | false =>
      have st2 : ∀ {r}, _ → Ev (fun k => vernierref15_Read k s) r := fun hh => start (Ev.neg (by rw [head_of c0, h2]; simp) (Ev.pos ⟨by omega, by omega⟩ hh))
      rw [head_of c0] at st2
      cases h1 : headIs (bl s) 45 with
      | true =>
        rw [h1] at st2
        obtain ⟨r, g1, g2⟩ := cut 45 h1 true (by rw [head_of c0, h1]) (sgnL_minus h1)
        exact ⟨r, st2 g1, g2⟩
      | false =>
        rw [h1] at st2
        obtain ⟨r, g1, g2⟩ := rread_j1 hs false
        rw [sgnL_none h1 h2]
        exact ⟨r, st2 (Ev.congr (fun k => vernierref15_Read.j0_eq k _ _ _ _ _ _ _ _ _ _ _ _) (Ev.neg (by simp) g1)), g2⟩
  · have hb : bl s = [] := List.length_eq_zero_iff.1 (by rw [bl_length]; omega)
    obtain ⟨r, g1, g2⟩ := rread_j1 hs false
    refine ⟨r, Ev.congr (fun k => vernierref15_Read_eq k s) (Ev.neg (dF (by omega)) (Ev.congr (fun k => vernierref15_Read.j0_eq k _ _ _ _ _ _ _ _ _ _ _ _) (Ev.neg (by simp) g1))), ?_⟩
    rw [hb] at g2 ⊢
    exact g2
end Go.Proofs.YtmoeaeflljpboaaDoor.X
