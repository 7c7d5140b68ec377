/- Plain law: HexesSays answers true. Conditions: what the reading says of the arguments. -/
import Derived.Test.YtmoeaeflljpboaaDoorHxU
import Derived.Test.YtmoeaeflljpboaaDoorR2
namespace Go.Proofs.YtmoeaeflljpboaaDoor.X
open Go Go.Rex
set_option linter.unusedVariables false

theorem intoS (n : Int) {w : Nat} (hw : 0 < w) (h6 : w ≤ 6) : ∃ r : Int, 0 ≤ r ∧ r < (w : Int) ∧ ∀ k, vernierlaw15_into k n (w : Int) = some r := by
  have h1 := Int.tmod_lt_of_pos n (show (0 : Int) < (w : Int) by omega)
  have h2 : -(w : Int) < n.tmod (w : Int) := by
    have := Int.tmod_lt_of_pos (-n) (show (0 : Int) < (w : Int) by omega)
    rw [Int.neg_tmod] at this; omega
  have h3 := Int.tmod_lt_of_pos (n.tmod (w : Int) + (w : Int)) (show (0 : Int) < (w : Int) by omega)
  have h4 := Int.tmod_nonneg (w : Int) (show 0 ≤ n.tmod (w : Int) + (w : Int) by omega)
  refine ⟨(n.tmod (w : Int) + (w : Int)).tmod (w : Int), h4, h3, fun k => ?_⟩
  rw [vernierlaw15_into_eq, if_neg (by omega), if_neg (by omega), wrapI (by omega) (by omega)]
theorem numT_len {q : Int} (h : q.natAbs < 100000) : (numT q).length ≤ 6 := by
  have := (decs_len (n := q.natAbs) (k := 5)).2 (by omega)
  unfold numT decL
  rw [List.length_cons]
  split
  · simp
  · rw [List.length_reverse]; omega
theorem neg_odd {n : Nat} (hn : n ≠ 0) (ht : tz n = 0) (ho : oddN n = n) (hl : (digs n).length ≤ 100) {e : Int} (he : -30000 ≤ e ∧ e ≤ 30000) (b : Bool) : Ev (fun k => dyad_Neg k b (digs n) e) (!b, (digs n, (e, (0 : Int)))) := by
  have o := odd_at hn (by omega) (!b) (e := e) (by omega)
  rw [ht, ho] at o
  refine Ev.congr (fun k => dyad_Neg_eq k _ _ _) (Ev.bind (refuses_ev ⟨by omega, by omega, by omega⟩ b) (Ev.neg (nF rfl) (Ev.bind (Ev.congr (fun k => dyad_answer_eq k _ _ _) (Ev.bind o (Ev.neg (dF ?_) (Ev.neg (dF ?_) (Ev.neg (dF ?_) (Ev.some _)))))) (Ev.eq (Ev.some _) ?_))))
  · show ¬ (((digs n).length : Int) > 1024); omega
  · show ¬ (e + ((0 : Nat) : Int) < -40000); omega
  · show ¬ (e + ((0 : Nat) : Int) > 40000); omega
  · simp
section
variable {F : Int} {W P : Nat} {em ex : Int} (h : Fm F W P em ex)
include h
theorem txt_ok {M : Int} (hM : Md M) {t : ByteArray} (neg : Bool) {c : Int} {l d : List Int} {b : Nat} {q : Int} {R : Int × Int} (ht : bl t = sgT neg ++ 48 :: c :: l) (hsz : t.size ≤ 2000) (hc : c = 120 ∨ c = 88) (hq : q.natAbs ≤ 30000) (hr : rdF l false [] 0 = some (d, b, some (numT q))) (hd : d ≠ []) (hv : finR W P em M neg (hexN d) (q - 4 * (b : Int)) = R) : Ev (fun k => hexes_Parse k F M t) (R.1, (R.2, (0 : Int))) := by
  have g := parse_ok h hM hsz
  rw [ht, sgn_of neg rfl rfl, sd_0x hc hq hr hd] at g
  unfold ansF at g
  simp only at g
  rw [hv] at g
  exact g
omit h in
theorem says_l8 {F M a p : Int} {l : List ByteArray} (hl : l.length ≤ 10) (hgo : ∀ t ∈ l, Ev (fun k => hexes_Parse k F M t) (a, (p, (0 : Int)))) (n : Nat) : ∀ i : Nat, i + n = l.length → Ev2 (fun k m => vernierlaw15_HexesSays.l8 k m F M a p 0 (i : Int) l) true := by
  induction n with
  | zero =>
    intro i hi
    exact Ev2.step (fun k q => vernierlaw15_HexesSays.l8_eq k q _ _ _ _ _ _ _) (Ev2.neg (dF (by omega)) (Ev2.eq (Ev2.some _) rfl))
  | succ n ih =>
    intro i hi
    have hm : l.getD i ByteArray.empty ∈ l := by
      rw [List.getD_eq_getElem?_getD, List.getElem?_eq_getElem (by omega)]; exact List.getElem_mem _
    have w1 : IntKind.i64.wrap ((i : Int) + 1) = ((i + 1 : Nat) : Int) := by rw [wrapI (by omega) (by omega)]; omega
    refine Ev2.step (fun k q => vernierlaw15_HexesSays.l8_eq k q _ _ _ _ _ _ _) ?_
    rw [w1, Int.toNat_natCast]
    exact Ev2.pos (dT (by omega)) (Ev2.pos ⟨by omega, by omega⟩ (Ev2.call (hgo _ hm) (Ev2.neg (nF rfl) (Ev2.neg (nF rfl) (Ev2.neg (nF rfl) (ih (i + 1) (by omega)))))))
theorem says_j6 {M E : Int} (hM : Md M) (hE : -5000 ≤ E ∧ E ≤ 5000) {s3 s4 s5 : ByteArray} {l11 l12 : List Int} (h11 : l11.length ≤ 300) (h12 : l12.length ≤ 300) (h0 : l11.length + l12.length ≠ 0) (neg : Bool) (e3 : bl s3 = dcs l11) (e4 : bl s4 = dcs l12) (e5 : bl s5 = sgT neg) (x9 x10 x13 : Int) {R : Int × Int} (hR : finR W P em M neg (hexN (dgs (l11 ++ l12))) (E - 4 * (l12.length : Int)) = R) :
    Ev (fun k => vernierlaw15_HexesSays.j6 k F M E s3 s4 s5 R.1 R.2 0 x9 x10 l11 l12 x13 neg) true := by
  refine Ev.congr (fun k => vernierlaw15_HexesSays.j6_eq k _ _ _ _ _ _ _ _ _ _ _ _ _ _ _) ?_
  have da : ∀ a b : List Int, dgs (a ++ b) = dgs a ++ dgs b := fun a b => List.map_append
  have dl : ∀ a : List Int, (dgs a).length = a.length := fun a => List.length_map _
  have cl : ∀ a : List Int, (dcs a).length = a.length := fun a => List.length_map _
  have c3 : bl vernierlaw15_HexesSays.s3 = [48, 120] := by decide
  have c4 : bl vernierlaw15_HexesSays.s4 = [46] := by decide
  have c5 : bl vernierlaw15_HexesSays.s5 = [112] := by decide
  have c6 : bl vernierlaw15_HexesSays.s6 = [48, 88, 48, 48, 48] := by decide
  have c7 : bl vernierlaw15_HexesSays.s7 = [48, 48, 80] := by decide
  generalize vernierlaw15_HexesSays.s3 = C3 at *
  obtain ⟨n1, g1, b1⟩ := numberl_ev (q := E) (by omega)
  obtain ⟨n2, g2, b2⟩ := numberl_ev (q := E - 4 * (l12.length : Int)) (by omega)
  obtain ⟨n3, g3, b3⟩ := numberl_ev (q := E - 4) (by omega)
  have z : ∀ s : ByteArray, s.size = (bl s).length := fun s => (bl_length s).symm
  have z3 : s3.size ≤ 300 := by rw [z, e3, cl]; exact h11
  have z4 : s4.size = l12.length := by rw [z, e4, cl]
  have z5 : s5.size ≤ 1 := by rw [z, e5]; unfold sgT; cases neg <;> simp
  have y3 : C3.size = 2 := by rw [z, c3]; rfl
  have y4 : vernierlaw15_HexesSays.s4.size = 1 := by rw [z, c4]; rfl
  have y5 : vernierlaw15_HexesSays.s5.size = 1 := by rw [z, c5]; rfl
  have y6 : vernierlaw15_HexesSays.s6.size = 5 := by rw [z, c6]; rfl
  have y7 : vernierlaw15_HexesSays.s7.size = 3 := by rw [z, c7]; rfl
  have m1 : n1.size ≤ 6 := by rw [z, b1]; exact numT_len (by omega)
  have m2 : n2.size ≤ 6 := by rw [z, b2]; exact numT_len (by omega)
  have m3 : n3.size ≤ 6 := by rw [z, b3]; exact numT_len (by omega)
  generalize vernierlaw15_HexesSays.s4 = C4 at *
  generalize vernierlaw15_HexesSays.s5 = C5 at *
  generalize vernierlaw15_HexesSays.s6 = C6 at *
  generalize vernierlaw15_HexesSays.s7 = C7 at *
  have w1 : IntKind.i64.wrap (E - IntKind.i64.wrap (4 * (l12.length : Int))) = E - 4 * (l12.length : Int) := by rw [wrapI (x := 4 * (l12.length : Int)) (by omega) (by omega), wrapI (by omega) (by omega)]
  have w2 : IntKind.i64.wrap (E - 4) = E - 4 := wrapI (by omega) (by omega)
  have hne : dgs (l11 ++ l12) ≠ [] := by
    intro e
    have := congrArg List.length e
    rw [dl, List.length_append] at this
    exact h0 this
  have hne' : dgs l11 ++ dgs l12 ≠ [] := by rw [← da]; exact hne
  -- the four texts
  have t1 : Ev (fun k => hexes_Parse k F M ((((((s5 ++ C3) ++ s3) ++ C4) ++ s4) ++ C5) ++ n1)) (R.1, (R.2, (0 : Int))) := by
    refine txt_ok h hM neg (c := 120) (l := dcs l11 ++ 46 :: (dcs l12 ++ 112 :: numT E)) (d := dgs l11 ++ dgs l12) (b := l12.length) (q := E) ?_ ?_ (.inl rfl) (by omega) ?_ hne' ?_
    · simp only [bl_append, e5, c3, e3, c4, e4, c5, b1, List.append_assoc, List.cons_append, List.nil_append]
    · simp only [ByteArray.size_append]; omega
    · rw [rdF_dcs, rdF_dot, rdF_dcs, rdF_p (.inl rfl)]; simp
    · rw [← da]; exact hR
  have t2 : Ev (fun k => hexes_Parse k F M ((((((s5 ++ C6) ++ s3) ++ C4) ++ s4) ++ C7) ++ n1)) (R.1, (R.2, (0 : Int))) := by
    refine txt_ok h hM neg (c := 88) (l := List.replicate 3 48 ++ (dcs l11 ++ 46 :: (dcs l12 ++ (List.replicate 2 48 ++ 80 :: numT E)))) (d := List.replicate 3 0 ++ (dgs (l11 ++ l12) ++ List.replicate 2 0)) (b := l12.length + 2) (q := E) ?_ ?_ (.inr rfl) (by omega) ?_ (by simp [List.replicate]) ?_
    · simp only [bl_append, e5, c6, e3, c4, e4, c7, b1, List.append_assoc, List.cons_append, List.nil_append, List.replicate]
    · simp only [ByteArray.size_append]; omega
    · rw [rdF_zeros, rdF_dcs, rdF_dot, rdF_dcs, rdF_zeros, rdF_p (.inr rfl), da]
      simp only [List.nil_append, List.append_assoc, if_true, if_false, Bool.false_eq_true, Nat.zero_add]
    · rw [hexN_pads, finR_up, ← hR]
      congr 1; omega
  have t3 : Ev (fun k => hexes_Parse k F M (((((s5 ++ C3) ++ s3) ++ s4) ++ C5) ++ n2)) (R.1, (R.2, (0 : Int))) := by
    refine txt_ok h hM neg (c := 120) (l := dcs l11 ++ (dcs l12 ++ 112 :: numT (E - 4 * (l12.length : Int)))) (d := dgs l11 ++ dgs l12) (b := 0) (q := E - 4 * (l12.length : Int)) ?_ ?_ (.inl rfl) (by omega) ?_ hne' ?_
    · simp only [bl_append, e5, c3, e3, e4, c5, b2, List.append_assoc, List.cons_append, List.nil_append]
    · simp only [ByteArray.size_append]; omega
    · rw [rdF_dcs, rdF_dcs, rdF_p (.inl rfl)]; simp
    · rw [← da, ← hR]
      congr 1; omega
  have o1 : (1 : Int).toNat = 1 := rfl
  have x1 : bl (s4.extract 0 (0 + 1)) = dcs (l12.take 1) := by
    rw [bl_extract, e4]; unfold dcs; rw [List.drop_zero, ← List.map_take]
  have x2 : bl (s4.extract 1 s4.size) = dcs (l12.drop 1) := by
    rw [bl_extract, e4, List.take_of_length_le (by rw [List.length_drop, cl]; omega)]; unfold dcs; rw [← List.map_drop]
  have t4 : 0 < l12.length → Ev (fun k => hexes_Parse k F M (((((((s5 ++ C3) ++ s3) ++ (s4.extract 0 (0 + 1))) ++ C4) ++ (s4.extract 1 s4.size)) ++ C5) ++ n3)) (R.1, (R.2, (0 : Int))) := by
    intro hp
    have z6 : (s4.extract 0 (0 + 1)).size ≤ 300 := by rw [z, x1, cl, List.length_take]; omega
    have z7 : (s4.extract 1 s4.size).size ≤ 300 := by rw [z, x2, cl, List.length_drop]; omega
    have hj : dgs l11 ++ (dgs (l12.take 1) ++ dgs (l12.drop 1)) = dgs (l11 ++ l12) := by rw [← da, ← da, List.take_append_drop]
    refine txt_ok h hM neg (c := 120) (l := dcs l11 ++ (dcs (l12.take 1) ++ 46 :: (dcs (l12.drop 1) ++ 112 :: numT (E - 4)))) (d := dgs (l11 ++ l12)) (b := l12.length - 1) (q := E - 4) ?_ ?_ (.inl rfl) (by omega) ?_ hne ?_
    · simp only [bl_append, e5, c3, e3, x1, c4, x2, c5, b3, List.append_assoc, List.cons_append, List.nil_append]
    · simp only [ByteArray.size_append]; omega
    · rw [rdF_dcs, rdF_dcs, rdF_dot, rdF_dcs, rdF_p (.inl rfl), ← hj]
      simp only [List.nil_append, List.append_assoc, if_true, if_false, Bool.false_eq_true, Nat.zero_add, List.length_drop]
    · rw [← hR]
      congr 1; omega
  have fin : ∀ l : List ByteArray, l.length ≤ 10 → (∀ t ∈ l, Ev (fun k => hexes_Parse k F M t) (R.1, (R.2, (0 : Int)))) → Ev (fun k => vernierlaw15_HexesSays.j7 k F M R.1 R.2 0 l) true := fun l hl hg => Ev.congr (fun k => vernierlaw15_HexesSays.j7_eq k _ _ _ _ _ _) (says_l8 hl hg l.length 0 (by omega)).ev
  have z6 : (s4.extract 0 (0 + 1)).size ≤ 300 := by rw [z, x1, cl, List.length_take]; omega
  have z7 : (s4.extract 1 s4.size).size ≤ 300 := by rw [z, x2, cl, List.length_drop]; omega
  rw [w1, w2, o1]
  generalize s4.extract 0 (0 + 1) = X1 at *
  generalize s4.extract 1 s4.size = X2 at *
  refine Ev.pos ?_ (Ev.pos ?_ (Ev.pos ?_ (Ev.pos ?_ (Ev.pos ?_ (Ev.bind g1 (Ev.pos ?_ (Ev.pos ?_ (Ev.pos ?_ (Ev.pos ?_ (Ev.pos ?_ (Ev.pos ?_ (Ev.bind g1 (Ev.pos ?_ (Ev.pos ?_ (Ev.pos ?_ (Ev.pos ?_ (Ev.pos ?_ (Ev.bind g2 (Ev.pos ?_ ?last)))))))))))))))))))
  case last =>
    by_cases hp : 0 < l12.length
    · refine Ev.pos (dT (by omega)) (Ev.pos ?_ (Ev.pos ?_ (Ev.pos ⟨by omega, by omega⟩ (Ev.pos ?_ (Ev.pos ?_ (Ev.pos ⟨by omega, by omega⟩ (Ev.pos ?_ (Ev.pos ?_ (Ev.bind g3 (Ev.pos ?_ (Ev.pos (capOk_of (by simp)) (fin _ (by simp) ?mem))))))))))))
      case mem =>
        intro t ht
        change t ∈ [_, _, _, _] at ht
        rcases List.mem_cons.1 ht with rfl | ht
        · exact t1
        rcases List.mem_cons.1 ht with rfl | ht
        · exact t2
        rcases List.mem_cons.1 ht with rfl | ht
        · exact t3
        rcases List.mem_cons.1 ht with rfl | ht
        · exact t4 hp
        cases ht
      all_goals first | omega | (simp only [ByteArray.size_append]; omega)
    · refine Ev.neg (dF (by omega)) (fin _ (by simp) ?_)
      intro t ht
      change t ∈ [_, _, _] at ht
      rcases List.mem_cons.1 ht with rfl | ht
      · exact t1
      rcases List.mem_cons.1 ht with rfl | ht
      · exact t2
      rcases List.mem_cons.1 ht with rfl | ht
      · exact t3
      cases ht
  all_goals first | omega | (simp only [ByteArray.size_append]; omega)
end
namespace Pure
/-- For all texts' parts: true. -/
theorem HexesSays (t : Int × (Int × (List Int × (List Int × (Int × Bool))))) (w : WFt (.pair (.int .i64) (.pair (.int .i64) (.pair (.sl (.int .i64)) (.pair (.sl (.int .i64)) (.pair (.int .i64) .bool))))) t) : Ev (fun k => vernierlaw15_HexesSays k t.1 t.2.1 t.2.2.1 t.2.2.2.1 t.2.2.2.2.1 t.2.2.2.2.2) true := by
  obtain ⟨wf, wm, -, -, we, -⟩ := w
  obtain ⟨f, m, A, B, e, neg⟩ := t
  show Ev (fun k => vernierlaw15_HexesSays k f m A B e neg) true
  obtain ⟨F, f0, f1, f2⟩ := intoS f (w := 4) (by decide) (by decide)
  obtain ⟨M, n0, n1, n2⟩ := intoS m (w := 6) (by decide) (by decide)
  obtain ⟨W, P, em, ex, h⟩ := fm_of f0 (by omega)
  have hM : Md M := ⟨n0, by omega⟩
  refine Ev.congr (fun k => vernierlaw15_HexesSays_eq k _ _ _ _ _ _) (Ev.bind awake15_ev (Ev.neg (by simp) (Ev.bind (Ev.of f2) (Ev.bind (Ev.of n2) ?_))))
  by_cases hA : (A.length : Int) > 300
  · exact Ev.pos (dT hA) (Ev.some _)
  refine Ev.neg (dF hA) ?_
  by_cases hB : (B.length : Int) > 300
  · exact Ev.pos (dT hB) (Ev.some _)
  refine Ev.neg (dF hB) ?_
  have wl : IntKind.i64.wrap ((A.length : Int) + (B.length : Int)) = ((A.length + B.length : Nat) : Int) := by rw [wrapI (by omega) (by omega)]; omega
  rw [wl]
  by_cases h0 : A.length + B.length = 0
  · exact Ev.pos (bT (by omega)) (Ev.some _)
  refine Ev.neg (bF (by omega)) (Ev.congr (fun k => vernierlaw15_HexesSays.j0_eq k _ _ _ _ _ _ _ _ _) ?_)
  have E1 := Int.tmod_lt_of_pos e (show (0 : Int) < 5000 by omega)
  have E2 : -5000 < e.tmod 5000 := by
    have := Int.tmod_lt_of_pos (-e) (show (0 : Int) < 5000 by omega)
    rw [Int.neg_tmod] at this; omega
  generalize e.tmod 5000 = E at *
  have d0 : bl vernierlaw15_HexesSays.s0 = [] := by decide
  have d2 : bl vernierlaw15_HexesSays.s2 = [45] := by decide
  refine (says_l1 F M E f m e neg (l9 := A) (l10 := B) (by omega) (by omega) (by omega) ?_ (A.length + B.length) 0 _ _ false [] 0 (by omega) (by rw [d0]; rfl) (by rw [d0]; rw [Nat.zero_sub]; rfl) ⟨RepV.zero ⟨by decide, by decide⟩, fun _ => ⟨rfl, rfl, rfl⟩⟩).ev
  intro s3 s4 b l x h3 h4 hd
  have hj6 : ∀ (sg : ByteArray) (R : Int × Int), bl sg = sgT neg → finR W P em M neg (hexN (dgs (A ++ B))) (E - 4 * (B.length : Int)) = R → Ev (fun k => vernierlaw15_HexesSays.j6 k F M E s3 s4 sg R.1 R.2 0 f m A B e neg) true := fun sg R h5 hR => says_j6 h hM (by omega) (by omega) (by omega) h0 neg h3 h4 h5 f m e hR
  have hlt := hexN_lt (dgs_hex (A ++ B))
  rw [show (dgs (A ++ B)).length = A.length + B.length by unfold dgs; rw [List.length_map, List.length_append], show (16 : Nat) = 2 ^ 4 by decide, ← Nat.pow_mul] at hlt
  generalize hexN (dgs (A ++ B)) = D at *
  obtain ⟨d3, d4⟩ := hd
  by_cases c : D = 0
  · obtain ⟨rfl, rfl, rfl⟩ := d4 c
    refine ⟨(false, ([], 0)), Ev.at 50 (fun q => scale_nil q _), ?_⟩
    have j4 : ∀ sg : ByteArray, bl sg = sgT neg → Ev (fun k => vernierlaw15_HexesSays.j4 k F M E s3 s4 0 sg f m A B e neg [] false 0) true := by
      intro sg hsg
      have g := Exact_ev h hM (a := []) (by intro y hy; cases hy) 0 false
      have ge : exR W P em M false [] 0 = (0, (0, 0)) := by
        unfold exR
        rw [if_neg (by decide), if_pos (show val [] = 0 from rfl)]
      rw [ge] at g
      have gs := Sign_ev (n := 0) (by rw [digs_zero]; simp) false 0
      rw [if_pos rfl, digs_zero] at gs
      refine Ev.congr (fun k => vernierlaw15_HexesSays.j4_eq k _ _ _ _ _ _ _ _ _ _ _ _ _ _ _ _) (Ev.bind g (Ev.neg (nF rfl) (Ev.neg (nF rfl) (Ev.congr (fun k => vernierlaw15_HexesSays.j5_eq k _ _ _ _ _ _ _ _ _ _ _ _ _ _ _ _ _ _) (Ev.bind gs (Ev.pos (bT rfl) (Ev.bind (Ev.of fun k => zero_at h k neg) ?_)))))))
      exact hj6 sg (((sgB neg W : Nat) : Int), 0) hsg (by unfold finR; rw [if_pos c])
    refine Ev.congr (fun k => vernierlaw15_HexesSays.j3_eq k _ _ _ _ _ _ _ _ _ _ _ _ _ _ _) ?_
    cases neg with
    | true => exact Ev.pos rfl (Ev.bind (Ev.at 50 neg_nil) (j4 _ (by rw [d2]; rfl)))
    | false => exact Ev.neg (by simp) (j4 _ (by rw [d0]; rfl))
  · obtain ⟨n, rfl, k1, k2, k3, k4, k5, k6, k7⟩ := d3.facts (p := 4 * (A.length + B.length)) (by omega) (by rw [Int.natAbs_natCast]; exact hlt)
    have hn : n ≠ 0 := fun z => c (by have := k5.1 z; omega)
    obtain ⟨k8, k9⟩ := k7 hn
    have hb : b = false := by
      cases b with
      | false => rfl
      | true =>
        unfold sg at k4
        rw [if_pos rfl] at k4
        omega
    subst hb
    have t1 := tz_blen hn
    have bl1 : blen n ≤ 2400 := by omega
    have o0 := oddN_ne hn
    obtain ⟨i1, i2⟩ := oddN_idem hn
    have ol : (digs (oddN n)).length ≤ 63 := Nat.le_trans (digs_len_mono (oddN_le _)) k1
    have sc := Scale_ok hn (by omega) (e := x) (n := E - 4 * (B.length : Int)) (by omega) (by omega) (by omega) false
    refine ⟨(false, (digs (oddN n), x + (tz n : Int) + (E - 4 * (B.length : Int)))), sc, ?_⟩
    obtain ⟨X, hX⟩ : ∃ X, X = x + (tz n : Int) + (E - 4 * (B.length : Int)) := ⟨_, rfl⟩
    have hXr : -30000 ≤ X ∧ X ≤ 30000 := by omega
    have hfin : finR W P em M neg D (E - 4 * (B.length : Int)) = finR W P em M neg (oddN n) X := by
      have e1 : D = oddN n * 2 ^ (tz n + (x - 0).toNat) := by
        rw [Nat.pow_add, ← Nat.mul_assoc, oddN_mul hn, k6, Int.natAbs_natCast]
      rw [e1, finR_up]
      congr 1; omega
    show Ev (fun k => vernierlaw15_HexesSays.j3 k F M E s3 s4 0 f m A B e neg (digs (oddN n)) false (x + (tz n : Int) + (E - 4 * (B.length : Int)))) true
    rw [← hX]
    have j4 : ∀ sg : ByteArray, bl sg = sgT neg → Ev (fun k => vernierlaw15_HexesSays.j4 k F M E s3 s4 0 sg f m A B e neg (digs (oddN n)) neg X) true := by
      intro sg hsg
      have g := Exact_ev h hM (WF.digs (oddN n)) X neg
      have ge : exR W P em M neg (digs (oddN n)) X = ((finR W P em M neg (oddN n) X).1, ((finR W P em M neg (oddN n) X).2, 0)) := by
        unfold exR finR
        rw [if_neg (by unfold badE; rw [if_neg (by omega), if_neg (by omega)]; decide), val_digs, if_neg o0, if_neg (by omega), if_neg o0]
        rfl
      rw [ge] at g
      have gs := Sign_ev (n := oddN n) (by omega) neg X
      rw [if_neg o0] at gs
      have hsn : ¬ (((if neg = true then (-1 : Int) else 1) == 0) = true) := by cases neg <;> decide
      refine Ev.congr (fun k => vernierlaw15_HexesSays.j4_eq k _ _ _ _ _ _ _ _ _ _ _ _ _ _ _ _) (Ev.bind g (Ev.neg (nF rfl) (Ev.neg (nF rfl) (Ev.congr (fun k => vernierlaw15_HexesSays.j5_eq k _ _ _ _ _ _ _ _ _ _ _ _ _ _ _ _ _ _) (Ev.bind gs (Ev.neg hsn ?_))))))
      exact hj6 sg _ hsg hfin
    refine Ev.congr (fun k => vernierlaw15_HexesSays.j3_eq k _ _ _ _ _ _ _ _ _ _ _ _ _ _ _) ?_
    cases neg with
    | true => exact Ev.pos rfl (Ev.bind (neg_odd o0 i1 i2 (by omega) hXr false) (j4 _ (by rw [d2]; rfl)))
    | false => exact Ev.neg (by simp) (j4 _ (by rw [d0]; rfl))
end Pure
end Go.Proofs.YtmoeaeflljpboaaDoor.X
