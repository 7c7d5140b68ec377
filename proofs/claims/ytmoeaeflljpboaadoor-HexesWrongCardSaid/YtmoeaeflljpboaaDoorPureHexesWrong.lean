/- Plain law: HexesWrong answers true. Conditions: what the reading says of the arguments. -/
import Derived.Test.YtmoeaeflljpboaaDoorHxS
import Derived.Test.YtmoeaeflljpboaaDoorR2
namespace Go.Proofs.YtmoeaeflljpboaaDoor.X
open Go Go.Rex
set_option linter.unusedVariables false

theorem into15w (n : Int) (hn : -9223372036854775808 ≤ n ∧ n < 9223372036854775808) : ∃ r : Int, 0 ≤ r ∧ r < 4 ∧ ∀ k, vernierlaw15_into k n 4 = some r := by
  have h1 := Int.tmod_lt_of_pos n (show (0 : Int) < 4 by omega)
  have h2 : -4 < n.tmod 4 := by
    have := Int.tmod_lt_of_pos (-n) (show (0 : Int) < 4 by omega)
    rw [Int.neg_tmod] at this; omega
  have h3 := Int.tmod_lt_of_pos (n.tmod 4 + 4) (show (0 : Int) < 4 by omega)
  have h4 := Int.tmod_nonneg 4 (show 0 ≤ n.tmod 4 + 4 by omega)
  refine ⟨(n.tmod 4 + 4).tmod 4, h4, h3, fun k => ?_⟩
  rw [vernierlaw15_into_eq, if_neg (by omega), if_neg (by omega), wrapI (by omega) (by omega)]

/-! ### What makes no text -/
/-- What may not stand behind an exponent's digits. -/
def NoDig (c : Int) : Prop := ¬ (48 ≤ c ∧ c ≤ 57)
theorem xvF_none (cap : Nat) {c : Int} (hc : NoDig c) (r : List Int) : ∀ (l : List Int) (x : Nat), xvF cap (l ++ c :: r) x = none
  | [], x => by rw [List.nil_append, xvF, if_neg hc]
  | a :: l, x => by
    rw [List.cons_append, xvF]
    split
    · exact xvF_none cap hc r l _
    · rfl
theorem expF_none (cap : Nat) {c : Int} (hc : NoDig c) (r : List Int) {l t : List Int} {neg : Bool} (h : sgnL (l ++ c :: r) = (neg, t ++ c :: r)) : expF cap (l ++ c :: r) = none := by
  unfold expF
  rw [h]
  simp only
  rw [xvF_none cap hc]
  split <;> rfl
/-- No text begins so. -/
theorem bad_first {a : Int} {r : List Int} (cap : Nat) (h1 : a ≠ 110 ∧ a + 32 ≠ 110) (h2 : a ≠ 105 ∧ a + 32 ≠ 105) (h3 : a ≠ 48) : sdF cap (a :: r) = .bad := by
  have w1 : isW (a :: r) nanL = false := by unfold nanL; rw [isW, beq_eq_false_iff_ne.2 h1.1, beq_eq_false_iff_ne.2 h1.2]; rfl
  have w2 : isW (a :: r) infL = false := by unfold infL; rw [isW, beq_eq_false_iff_ne.2 h2.1, beq_eq_false_iff_ne.2 h2.2]; rfl
  have w3 : pre0x (a :: r) = false := by
    unfold pre0x
    rw [show ((a :: r).getD 0 0 == 48) = false from beq_eq_false_iff_ne.2 h3, Bool.false_and, Bool.and_false]
  unfold sdF
  rw [w1, w2, w3]; rfl
theorem bad_0x {r : List Int} (cap : Nat) (h : readF cap r = none) : sdF cap (48 :: 120 :: r) = .bad := by
  have w1 : isW (48 :: 120 :: r) nanL = false := rfl
  have w2 : isW (48 :: 120 :: r) infL = false := rfl
  have w3 : pre0x (48 :: 120 :: r) = true := by unfold pre0x; rw [decide_eq_true (by simp)]; rfl
  unfold sdF
  rw [w1, w2, w3]
  simp only [Bool.false_eq_true, if_false, if_true]
  rw [show (48 :: 120 :: r).drop 2 = r from rfl, h]
theorem readF_p (cap : Nat) {l r ds : List Int} {bh : Nat} (h : rdF l false [] 0 = some (ds, bh, some r)) (he : expF cap r = none) : readF cap l = none := by
  unfold readF
  rw [h]
  simp only
  rw [he]
theorem readF_no (cap : Nat) {l : List Int} (h : rdF l false [] 0 = none) : readF cap l = none := by unfold readF; rw [h]
theorem rdF_bad {c : Int} (h1 : hexD c < 0) (h2 : c ≠ 46) (h3 : c ≠ 112 ∧ c ≠ 80) (r : List Int) (pt : Bool) (ds : List Int) (bh : Nat) : rdF (c :: r) pt ds bh = none := by
  rw [rdF, if_neg (by omega), if_neg (fun h => h2 h.1), if_neg (fun h => h.elim h3.1 h3.2)]
section
variable {f : Int} {W P : Nat} {em ex : Int} (h : Fm f W P em ex)
include h
/-- The four kinds of texts. -/
theorem txt_kinds {a : Nat} (ha : a < 2 ^ W) : txtF W P em a = nanL ∨ (∃ neg, txtF W P em a = sgT neg ++ infL) ∨ (∃ neg, txtF W P em a = sgT neg ++ zeroL) ∨ (∃ (neg : Bool) (R : Nat) (q : Int), R < 2 ^ 64 ∧ txtF W P em a = sgT neg ++ bodyT R q) := by
  have h8 := h.p8
  have h53 := h.p53
  unfold txtF
  by_cases n2 : infP W P < pk W a
  · rw [if_pos n2]; exact .inl rfl
  · rw [if_neg n2]
    by_cases n3 : pk W a = infP W P
    · rw [if_pos n3]; exact .inr (.inl ⟨_, rfl⟩)
    · rw [if_neg n3]
      by_cases n4 : pk W a = 0
      · rw [if_pos n4]; exact .inr (.inr (.inl ⟨_, rfl⟩))
      · rw [if_neg n4]
        have hpp := Nat.two_pow_pos (P - 1)
        have hF := Nat.mod_lt (pk W a) hpp
        have hnlt : fN P (pk W a / 2 ^ (P - 1)) (pk W a % 2 ^ (P - 1)) < 2 ^ 53 := by
          have h1 : 2 ^ (P - 1) + 2 ^ (P - 1) ≤ 2 ^ 53 := by
            have : 2 ^ (P - 1 + 1) ≤ 2 ^ 53 := Nat.pow_le_pow_right (by decide) (by omega)
            rw [Nat.pow_succ] at this; omega
          unfold fN
          split <;> omega
        have hv := plV_pat (P := P) (by omega) (pk W a)
        have hne : fN P (pk W a / 2 ^ (P - 1)) (pk W a % 2 ^ (P - 1)) ≠ 0 := by
          intro z
          rw [z, Nat.zero_mul] at hv
          exact n4 ((plV_zero (by omega)).1 hv.symm)
        have hb : blen (fN P (pk W a / 2 ^ (P - 1)) (pk W a % 2 ^ (P - 1))) ≤ 53 := blen_le_iff.2 hnlt
        exact .inr (.inr (.inr ⟨_, _, _, (rst_shift hne (by omega)).2, finT_body _ _ _⟩))
/-- Something behind it. -/
theorem bad_behind {a : Nat} (ha : a < 2 ^ W) {c : Int} (hc : NoDig c) (r : List Int) : sdF 30000 (sgnL (txtF W P em a ++ c :: r)).2 = .bad := by
  have sg : ∀ (neg : Bool) (l : List Int), headIs (l ++ c :: r) 45 = false → headIs (l ++ c :: r) 43 = false → (sgnL (sgT neg ++ l ++ c :: r)).2 = l ++ c :: r := by
    intro neg l h1 h2
    rw [List.append_assoc, sgn_of neg h1 h2]
  rcases txt_kinds h ha with e | ⟨neg, e⟩ | ⟨neg, e⟩ | ⟨neg, R, q, hR, e⟩ <;> rw [e]
  · have w1 : isW (nanL ++ c :: r) nanL = false := isW_len (by simp [nanL])
    have w2 : isW (nanL ++ c :: r) infL = false := rfl
    have w3 : pre0x (nanL ++ c :: r) = false := by
      unfold pre0x nanL
      rw [show (([110, 97, 110] ++ c :: r : List Int).getD 0 0 == 48) = false from rfl, Bool.false_and, Bool.and_false]
    rw [show (sgnL (nanL ++ c :: r)).2 = nanL ++ c :: r from rfl]
    unfold sdF
    rw [w1, w2, w3]; rfl
  · have w1 : isW (infL ++ c :: r) nanL = false := rfl
    have w2 : isW (infL ++ c :: r) infL = false := isW_len (by simp [infL])
    have w3 : pre0x (infL ++ c :: r) = false := by
      unfold pre0x infL
      rw [show (([105, 110, 102] ++ c :: r : List Int).getD 0 0 == 48) = false from rfl, Bool.false_and, Bool.and_false]
    rw [sg neg infL rfl rfl]
    unfold sdF
    rw [w1, w2, w3]; rfl
  · rw [sg neg zeroL rfl rfl]
    refine bad_0x 30000 (readF_p 30000 (r := [43, 48] ++ c :: r) (ds := [0]) (bh := 0) ?_ (expF_none 30000 hc r (t := [48]) (neg := false) rfl))
    show rdF (48 :: 112 :: ([43, 48] ++ c :: r)) false [] 0 = _
    rw [rdF, show hexD 48 = 0 by decide, if_pos (by decide), if_neg (by simp), rdF, if_neg (by decide), if_neg (by decide), if_pos (.inl rfl)]; rfl
  · rw [sg neg (bodyT R q) rfl rfl]
    have hm : bodyT R q ++ c :: r = 48 :: 120 :: 49 :: ((mantT R).map (upc false) ++ 112 :: (numT q ++ c :: r)) := by
      have idm : (mantT R).map (upc false) = mantT R := by
        conv => rhs; rw [← List.map_id (mantT R)]
        refine List.map_congr_left fun x _ => ?_
        unfold upc; rw [if_neg (by simp)]; rfl
      rw [idm]
      unfold bodyT; simp
    rw [hm]
    have hp : ∀ pt ds bh, rdF (112 :: (numT q ++ c :: r)) pt ds bh = some (ds, bh, some (numT q ++ c :: r)) := by
      intro pt ds bh
      rw [rdF, if_neg (by decide), if_neg (by simp), if_pos (.inl rfl)]
    have hr : ∃ ds bh, rdF (49 :: ((mantT R).map (upc false) ++ 112 :: (numT q ++ c :: r))) false [] 0 = some (ds, bh, some (numT q ++ c :: r)) := by
      rw [rdF, show hexD 49 = 1 by decide, if_pos (by decide), if_neg (by simp), List.nil_append]
      unfold mantT
      by_cases c0 : R = 0
      · rw [if_pos c0, List.map_nil, List.nil_append, hp]; exact ⟨_, _, rfl⟩
      · rw [if_neg c0, List.map_cons, show upc false 46 = 46 by decide, List.cons_append, rdF, show hexD 46 = -1 by decide, if_neg (by decide), if_pos ⟨rfl, rfl⟩, rdF_digits false 16 R hR, hp]; exact ⟨_, _, rfl⟩
    obtain ⟨ds, bh, hr⟩ := hr
    refine bad_0x 30000 (readF_p 30000 hr ?_)
    have hs : sgnL (numT q ++ c :: r) = (decide (q < 0), decL q.natAbs ++ c :: r) := by
      unfold numT
      by_cases c1 : q < 0
      · rw [if_pos c1, decide_eq_true c1]; rfl
      · rw [if_neg c1, decide_eq_false c1]; rfl
    exact expF_none 30000 hc r hs
/-- 0x in front of it. -/
theorem bad_0x_front {a : Nat} (ha : a < 2 ^ W) : sdF 30000 (sgnL (48 :: 120 :: txtF W P em a)).2 = .bad := by
  rw [show (sgnL (48 :: 120 :: txtF W P em a)).2 = 48 :: 120 :: txtF W P em a from rfl]
  refine bad_0x 30000 (readF_no 30000 ?_)
  have ng : ∀ l : List Int, rdF (45 :: l) false [] 0 = none := fun l => rdF_bad (by decide) (by decide) (by decide) l false [] 0
  have ox : ∀ l : List Int, rdF (48 :: 120 :: l) false [] 0 = none := by
    intro l
    rw [rdF, show hexD 48 = 0 by decide, if_pos (by decide)]
    exact rdF_bad (by decide) (by decide) (by decide) l _ _ _
  rcases txt_kinds h ha with e | ⟨neg, e⟩ | ⟨neg, e⟩ | ⟨neg, R, q, hR, e⟩ <;> rw [e]
  · exact rdF_bad (by decide) (by decide) (by decide) _ _ _ _
  · cases neg with
    | true => exact ng _
    | false => exact rdF_bad (c := 105) (by decide) (by decide) (by decide) [110, 102] _ _ _
  · cases neg with
    | true => exact ng _
    | false => exact ox _
  · cases neg with
    | true => exact ng _
    | false => exact ox _
theorem wrong_ev {s : ByteArray} (hs : s.size ≤ 2000) (hb : sdF 30000 (sgnL (bl s)).2 = .bad) : Ev (fun k => hexes_Parse k f 3 s) (0, (0, 8)) := by
  have g := parse_ok h (m := 3) ⟨by decide, by decide⟩ hs
  rw [hb] at g
  exact g
theorem long_ev {s : ByteArray} (hs : 2000 < s.size) : Ev (fun k => hexes_Parse k f 3 s) (0, (0, 5)) :=
  Ev.congr (fun k => hexes_Parse_eq k _ _ _) (Ev.bind (Ev.of fun k => nan_at h k) (Ev.neg (nF rfl) (Ev.neg (by decide) (Ev.neg (by decide) (Ev.pos (dT (by omega)) (Ev.some _))))))
theorem wrong_l1 (n : Nat) : ∀ s : ByteArray, 2001 ≤ s.size + n → Ev2 (fun k m => vernierlaw15_HexesWrong.l1 k m f s) true := by
  have e14 : vernierlaw15_HexesWrong.s14.size = 11 := by decide
  have fin : ∀ s : ByteArray, 2000 < s.size → Ev2 (fun k m => vernierlaw15_HexesWrong.l1 k m f s) true := fun s hs =>
    Ev2.step (fun k m => vernierlaw15_HexesWrong.l1_eq k m _ _) (Ev2.neg (dF (by omega)) (Ev2.call (long_ev h hs) (Ev2.pos (bT rfl) (Ev2.pos (bT rfl) (Ev2.eq (Ev2.some _) rfl)))))
  induction n with
  | zero => intro s hs; exact fin s (by omega)
  | succ n ih =>
    intro s hs
    by_cases c : 2000 < s.size
    · exact fin s c
    · refine Ev2.step (fun k m => vernierlaw15_HexesWrong.l1_eq k m _ _) (Ev2.pos (dT (by omega)) (Ev2.pos (by omega) (ih _ ?_)))
      have : (s ++ vernierlaw15_HexesWrong.s14).size = s.size + 11 := by
        rw [← bl_length, bl_append, List.length_append, bl_length, bl_length, e14]
      omega
theorem wrong_l0 {s1 : ByteArray} {l : List ByteArray} (hl : l.length ≤ 100) (hw : ∀ s ∈ l, Ev (fun k => hexes_Parse k f 3 s) (0, (0, 8))) (n : Nat) : ∀ i : Nat, i + n = l.length → Ev2 (fun k m => vernierlaw15_HexesWrong.l0 k m f s1 (l.length : Int) (i : Int) l) true := by
  induction n with
  | zero =>
    intro i hi
    exact Ev2.step (fun k m => vernierlaw15_HexesWrong.l0_eq k m _ _ _ _ _) (Ev2.neg (dF (by omega)) (wrong_l1 h 2001 s1 (by omega)).inner)
  | succ n ih =>
    intro i hi
    have hlt : i < l.length := by omega
    have hg := hw _ (List.getElem_mem hlt)
    refine Ev2.step (fun k m => vernierlaw15_HexesWrong.l0_eq k m _ _ _ _ _) (Ev2.pos (dT (by omega)) (Ev2.pos ⟨by omega, by omega⟩ ?_))
    rw [Int.toNat_natCast, List.getD_eq_getElem?_getD, List.getElem?_eq_getElem hlt, Option.getD_some, show IntKind.i64.wrap ((i : Int) + 1) = ((i + 1 : Nat) : Int) by rw [wrapI (by omega) (by omega)]; omega]
    exact Ev2.call hg (Ev2.neg (nF rfl) (Ev2.neg (nF rfl) (Ev2.neg (nF rfl) (ih (i + 1) (by omega)))))
end
theorem fifteen (x0 x1 x2 x3 x4 x5 x6 x7 x8 x9 x10 x11 x12 x13 x14 : ByteArray) : (((((((((((((((List.replicate 15 ByteArray.empty).set 0 x0).set 1 x1).set 2 x2).set 3 x3).set 4 x4).set 5 x5).set 6 x6).set 7 x7).set 8 x8).set 9 x9).set 10 x10).set 11 x11).set 12 x12).set 13 x13).set 14 x14 = [x0, x1, x2, x3, x4, x5, x6, x7, x8, x9, x10, x11, x12, x13, x14] := rfl
namespace Pure
/-- For all formats, patterns and texts: true. -/
theorem HexesWrong (f : Int) (a : Int) (s : ByteArray) (wf : WFt (.int .i64) f) (wa : WFt (.int .u64) a) (ws : s.size ≤ 140737488351232) : Ev (fun k => vernierlaw15_HexesWrong k f a s) true := by
  obtain ⟨a0, a1⟩ := wf_u64 wa
  obtain ⟨A, rfl⟩ := Int.eq_ofNat_of_zero_le a0
  have hf := wf_i64 wf
  obtain ⟨F, f0, f1, f2⟩ := into15w f (by omega)
  obtain ⟨W, P, em, ex, h⟩ := fm_of f0 (by omega)
  have h64 := h.w64
  have h8 := h.p8
  have hwp := h.wp
  have w1 : IntKind.u64.wrap (IntKind.i64.wrap (64 - (W : Int))) = ((64 - W : Nat) : Int) := by rw [wrapI (by omega) (by omega), wrap_u64]; omega
  have hcut := cut_low A W h64
  obtain ⟨b, hb'⟩ : ∃ b, b = A % 2 ^ W := ⟨_, rfl⟩
  have hb : b < 2 ^ W := by rw [hb']; exact Nat.mod_lt _ (Nat.two_pow_pos W)
  rw [← hb'] at hcut
  obtain ⟨t, g1, g2⟩ := print_ev h hb
  have htl := txt_len h hb
  have hsz : (bl t).length ≤ 40 := by rw [g2]; exact htl
  have e0 : bl vernierlaw15_HexesWrong.s0 = [32] := by decide
  have e1 : bl vernierlaw15_HexesWrong.s1 = [46] := by decide
  have e2 : bl vernierlaw15_HexesWrong.s2 = [112] := by decide
  have e3 : bl vernierlaw15_HexesWrong.s3 = [45, 45] := by decide
  have e4 : bl vernierlaw15_HexesWrong.s4 = [43, 45] := by decide
  have e5 : bl vernierlaw15_HexesWrong.s5 = [48, 120] := by decide
  have e6 : bl vernierlaw15_HexesWrong.s6 = [0] := by decide
  have e7 : bl vernierlaw15_HexesWrong.s7 = [120] := by decide
  have e8 : bl vernierlaw15_HexesWrong.s8 = [195, 169] := by decide
  have e9 : bl vernierlaw15_HexesWrong.s9 = [48, 120, 112, 49] := by decide
  have e10 : bl vernierlaw15_HexesWrong.s10 = [48, 120, 46, 112, 49] := by decide
  have e11 : bl vernierlaw15_HexesWrong.s11 = [48, 120, 49, 112, 43] := by decide
  have e12 : bl vernierlaw15_HexesWrong.s12 = [48, 120, 49, 112, 49, 112, 49] := by decide
  have e13 : bl vernierlaw15_HexesWrong.s13 = [48, 120, 49, 46, 49, 46, 49] := by decide
  have sz : ∀ x : ByteArray, (bl x).length ≤ 2000 → x.size ≤ 2000 := fun x hx => by rw [← bl_length]; exact hx
  have behind : ∀ (u : ByteArray) (c : Int) (r : List Int), bl u = c :: r → r.length ≤ 10 → NoDig c → Ev (fun k => hexes_Parse k F 3 (t ++ u)) (0, (0, 8)) := by
    intro u c r hu hr hc
    refine wrong_ev h (sz _ (by rw [bl_append, hu]; simp; omega)) ?_
    rw [bl_append, g2, hu]
    exact bad_behind h hb hc r
  have front : ∀ (u : ByteArray) (l : List Int), bl u = l → l.length ≤ 10 → sdF 30000 (sgnL (l ++ txtF W P em b)).2 = .bad → Ev (fun k => hexes_Parse k F 3 (u ++ t)) (0, (0, 8)) := by
    intro u l hu hr hc
    refine wrong_ev h (sz _ (by rw [bl_append, hu]; simp; omega)) ?_
    rw [bl_append, g2, hu]
    exact hc
  have closed : ∀ (u : ByteArray) (l : List Int), bl u = l → l.length ≤ 10 → sdF 30000 (sgnL l).2 = .bad → Ev (fun k => hexes_Parse k F 3 u) (0, (0, 8)) := by
    intro u l hu hr hc
    refine wrong_ev h (sz _ (by rw [hu]; omega)) ?_
    rw [hu]; exact hc
  have l0 : ∀ x ∈ [t ++ vernierlaw15_HexesWrong.s0, vernierlaw15_HexesWrong.s0 ++ t, t ++ vernierlaw15_HexesWrong.s1, t ++ vernierlaw15_HexesWrong.s2, vernierlaw15_HexesWrong.s3 ++ t, vernierlaw15_HexesWrong.s4 ++ t, vernierlaw15_HexesWrong.s5 ++ t, t ++ vernierlaw15_HexesWrong.s6, vernierlaw15_HexesWrong.s7 ++ t, t ++ vernierlaw15_HexesWrong.s8, vernierlaw15_HexesWrong.s9, vernierlaw15_HexesWrong.s10, vernierlaw15_HexesWrong.s11, vernierlaw15_HexesWrong.s12, vernierlaw15_HexesWrong.s13], Ev (fun k => hexes_Parse k F 3 x) (0, (0, 8)) := by
    intro x hx
    simp only [List.mem_cons, List.not_mem_nil, or_false] at hx
    rcases hx with rfl | rfl | rfl | rfl | rfl | rfl | rfl | rfl | rfl | rfl | rfl | rfl | rfl | rfl | rfl
    · exact behind _ 32 [] e0 (by simp) (by unfold NoDig; omega)
    · exact front _ [32] e0 (by simp) (bad_first 30000 (by decide) (by decide) (by decide))
    · exact behind _ 46 [] e1 (by simp) (by unfold NoDig; omega)
    · exact behind _ 112 [] e2 (by simp) (by unfold NoDig; omega)
    · exact front _ [45, 45] e3 (by simp) (bad_first 30000 (by decide) (by decide) (by decide))
    · exact front _ [43, 45] e4 (by simp) (bad_first 30000 (by decide) (by decide) (by decide))
    · exact front _ [48, 120] e5 (by simp) (bad_0x_front h hb)
    · exact behind _ 0 [] e6 (by simp) (by unfold NoDig; omega)
    · exact front _ [120] e7 (by simp) (bad_first 30000 (by decide) (by decide) (by decide))
    · exact behind _ 195 [169] e8 (by simp) (by unfold NoDig; omega)
    · exact closed _ _ e9 (by simp) rfl
    · exact closed _ _ e10 (by simp) rfl
    · exact closed _ _ e11 (by simp) rfl
    · exact closed _ _ e12 (by simp) rfl
    · exact closed _ _ e13 (by simp) rfl
  have fin := (wrong_l0 h (s1 := s) (by simp) l0 15 0 (by simp)).ev
  have c1 : ∀ u : ByteArray, (bl u).length ≤ 10 → (((t.size + u.size) : Nat) : Int) ≤ 9223372036854775807 := fun u hu => cat_le (by omega)
  have c2 : ∀ u : ByteArray, (bl u).length ≤ 10 → (((u.size + t.size) : Nat) : Int) ≤ 9223372036854775807 := fun u hu => cat_le (by omega)
  refine Ev.congr (fun k => vernierlaw15_HexesWrong_eq k f (A : Int) s) (Ev.bind awake15_ev (Ev.neg (by simp) (Ev.bind (Ev.of f2) (Ev.bind (Ev.of fun k => params06 h k) ?_))))
  simp only
  rw [w1, hcut]
  refine Ev.pos (by omega) (Ev.pos (by omega) (Ev.bind g1 (Ev.neg (nF rfl) (Ev.pos (c1 _ (by rw [e0]; simp)) (Ev.pos (c2 _ (by rw [e0]; simp)) (Ev.pos (c1 _ (by rw [e1]; simp)) (Ev.pos (c1 _ (by rw [e2]; simp)) (Ev.pos (c2 _ (by rw [e3]; simp)) (Ev.pos (c2 _ (by rw [e4]; simp)) (Ev.pos (c2 _ (by rw [e5]; simp)) (Ev.pos (c1 _ (by rw [e6]; simp)) (Ev.pos (c2 _ (by rw [e7]; simp)) (Ev.pos (c1 _ (by rw [e8]; simp)) ?_))))))))))))) 
  rw [fifteen]
  exact fin
end Pure
end Go.Proofs.YtmoeaeflljpboaaDoor.X
