/- Plain law: HexesBack answers true. Conditions: what the reading says of the arguments. -/
import Derived.Test.YtmoeaeflljpboaaDoorHxS
import Derived.Test.YtmoeaeflljpboaaDoorR2
namespace Go.Proofs.YtmoeaeflljpboaaDoor.X
open Go Go.Rex
set_option linter.unusedVariables false

theorem into15 (n : Int) {w : Nat} (hw : 0 < w) (h6 : w ≤ 6) (hn : -9223372036854775808 ≤ n ∧ n < 9223372036854775808) : ∃ r : Int, 0 ≤ r ∧ r < (w : Int) ∧ ∀ k, vernierlaw15_into k n (w : Int) = some r := by
  have h1 := Int.tmod_lt_of_pos n (show (0 : Int) < (w : Int) by omega)
  have h2 : -(w : Int) < n.tmod (w : Int) := by
    have := Int.tmod_lt_of_pos (-n) (show (0 : Int) < (w : Int) by omega)
    rw [Int.neg_tmod] at this; omega
  have h3 := Int.tmod_lt_of_pos (n.tmod (w : Int) + (w : Int)) (show (0 : Int) < (w : Int) by omega)
  have h4 := Int.tmod_nonneg (w : Int) (show 0 ≤ n.tmod (w : Int) + (w : Int) by omega)
  refine ⟨(n.tmod (w : Int) + (w : Int)).tmod (w : Int), h4, h3, fun k => ?_⟩
  rw [vernierlaw15_into_eq, if_neg (by omega), if_neg (by omega), wrapI (by omega) (by omega)]
theorem upper_all : ∀ c : Fin 26, ∃ s, (∀ k, vernierlaw15_upper k ((c.val : Int) + 97) = some s) ∧ bl s = [(c.val : Int) + 65] := by
  have key : ∀ c : Fin 26, bl (vernierlaw15_upper.s0.extract c.val (c.val + (c.val + 1 - c.val))) = [(c.val : Int) + 65] := by decide
  intro c
  have hc := c.isLt
  have hs : vernierlaw15_upper.s0.size = 26 := by decide
  have w1 : IntKind.u8.wrap ((c.val : Int) + 97 - 97) = (c.val : Int) := by
    rw [show (c.val : Int) + 97 - 97 = (c.val : Int) by omega]
    simp [IntKind.wrap, IntKind.signed, IntKind.bits]; omega
  have w2 : IntKind.u8.wrap ((c.val : Int) + 1) = ((c.val + 1 : Nat) : Int) := by
    simp [IntKind.wrap, IntKind.signed, IntKind.bits]; omega
  refine ⟨_, fun k => ?_, key c⟩
  rw [vernierlaw15_upper_eq, w1, w2, if_pos ⟨by omega, by omega, by omega⟩, Int.toNat_natCast, Int.toNat_natCast]
theorem upper_at {c : Int} (h : 97 ≤ c ∧ c ≤ 122) : ∃ s, (∀ k, vernierlaw15_upper k c = some s) ∧ bl s = [c - 32] := by
  obtain ⟨s, h1, h2⟩ := upper_all ⟨(c - 97).toNat, by omega⟩
  simp only at h1 h2
  rw [show (((c - 97).toNat : Nat) : Int) + 97 = c by omega] at h1
  rw [show (((c - 97).toNat : Nat) : Int) + 65 = c - 32 by omega] at h2
  exact ⟨s, h1, h2⟩
/-- The text in great letters. -/
theorem back_l4 {f m want : Int} {s2 : ByteArray} (hs : s2.size ≤ 40) {l : List Int} (hl : l.length ≤ 1) (hgo : ∀ s : ByteArray, bl s = l ++ (bl s2).map (upc true) → Ev (fun k => hexes_Parse k f m s) (want, (0, 0))) (n : Nat) : ∀ (i : Nat) (s4 : ByteArray), i + n = s2.size → bl s4 = l ++ ((bl s2).take i).map (upc true) → Ev2 (fun k q => vernierlaw15_HexesBack.l4 k q f m s2 want s4 (i : Int)) true := by
  have l1 := bl_length s2
  induction n with
  | zero =>
    intro i s4 hi h4
    rw [List.take_of_length_le (by omega)] at h4
    refine Ev2.step (fun k q => vernierlaw15_HexesBack.l4_eq k q _ _ _ _ _ _) (Ev2.neg (dF (by omega)) (Ev2.call (hgo s4 h4) (Ev2.pos (bT rfl) (Ev2.pos (bT rfl) (Ev2.eq (Ev2.some _) rfl)))))
  | succ n ih =>
    intro i s4 hi h4
    have hlt : i < (bl s2).length := by omega
    have w1 : IntKind.i64.wrap ((i : Int) + 1) = ((i + 1 : Nat) : Int) := by rw [wrapI (by omega) (by omega)]; omega
    have tk : ((bl s2).take (i + 1)).map (upc true) = ((bl s2).take i).map (upc true) ++ [upc true ((bl s2).getD i 0)] := by
      rw [List.take_add_one, List.getElem?_eq_getElem hlt, Option.toList_some, List.map_append, List.getD_eq_getElem?_getD, List.getElem?_eq_getElem hlt]; rfl
    have h4l : (bl s4).length ≤ 50 := by
      rw [h4, List.length_append, List.length_map, List.length_take]; omega
    have st : ∀ {r}, _ → Ev2 (fun k q => vernierlaw15_HexesBack.l4 k q f m s2 want s4 (i : Int)) r := fun hh => Ev2.step (fun k q => vernierlaw15_HexesBack.l4_eq k q _ _ _ _ _ _) (Ev2.pos (dT (by omega)) (Ev2.pos ⟨by omega, by rw [w1]; omega, by rw [w1]; omega⟩ (Ev2.pos ⟨by omega, by omega⟩ hh)))
    rw [w1, bt_get, Int.toNat_natCast, Int.toNat_natCast] at st
    have hx : bl (s2.extract i (i + (i + 1 - i))) = [(bl s2).getD i 0] := by
      rw [bl_extract, drop_cons hlt, show i + (i + 1 - i) - i = 1 by omega]; rfl
    by_cases c : (bl s2).getD i 0 ≥ 97
    · by_cases c2 : (bl s2).getD i 0 ≤ 122
      · obtain ⟨o, g1, g2⟩ := upper_at ⟨c, c2⟩
        have hu : upc true ((bl s2).getD i 0) = (bl s2).getD i 0 - 32 := by unfold upc; rw [if_pos ⟨rfl, c, c2⟩]
        refine st (Ev2.pos (dT c) (Ev2.pos ⟨by omega, by omega⟩ (Ev2.pos (dT c2) (Ev2.pos ⟨by omega, by omega⟩ (Ev2.call (Ev.of g1) (Ev2.pos (cat_le (by rw [g2]; simp; omega)) (ih (i + 1) _ (by omega) ?_)))))))
        rw [bl_append, h4, g2, tk, hu, List.append_assoc]
      · have hu : upc true ((bl s2).getD i 0) = (bl s2).getD i 0 := by unfold upc; rw [if_neg (fun h => c2 h.2.2)]
        refine st (Ev2.pos (dT c) (Ev2.pos ⟨by omega, by omega⟩ (Ev2.neg (dF c2) (Ev2.pos (cat_le (by rw [hx]; simp; omega)) (ih (i + 1) _ (by omega) ?_)))))
        rw [bl_append, h4, hx, tk, hu, List.append_assoc]
    · have hu : upc true ((bl s2).getD i 0) = (bl s2).getD i 0 := by unfold upc; rw [if_neg (fun h => c h.2.1)]
      refine st (Ev2.neg (dF c) (Ev2.pos (cat_le (by rw [hx]; simp; omega)) (ih (i + 1) _ (by omega) ?_)))
      rw [bl_append, h4, hx, tk, hu, List.append_assoc]
namespace Pure
/-- For all formats, modes and patterns: true. -/
theorem HexesBack (f : Int) (m : Int) (a : Int) (wf : WFt (.int .i64) f) (wm : WFt (.int .i64) m) (wa : WFt (.int .u64) a) : Ev (fun k => vernierlaw15_HexesBack k f m a) true := by
  obtain ⟨a0, a1⟩ := wf_u64 wa
  obtain ⟨A, rfl⟩ := Int.eq_ofNat_of_zero_le a0
  have hf := wf_i64 wf
  have hm := wf_i64 wm
  obtain ⟨F, f0, f1, f2⟩ := into15 f (w := 4) (by decide) (by decide) (by omega)
  obtain ⟨M, n0, n1, n2⟩ := into15 m (w := 6) (by decide) (by decide) (by omega)
  obtain ⟨W, P, em, ex, h⟩ := fm_of f0 (by omega)
  have hM : Md M := ⟨n0, by omega⟩
  have h64 := h.w64
  have h8 := h.p8
  have hwp := h.wp
  have w1 : IntKind.u64.wrap (IntKind.i64.wrap (64 - (W : Int))) = ((64 - W : Nat) : Int) := by rw [wrapI (by omega) (by omega), wrap_u64]; omega
  have hcut := cut_low A W h64
  obtain ⟨a, ha'⟩ : ∃ a, a = A % 2 ^ W := ⟨_, rfl⟩
  have ha : a < 2 ^ W := by rw [ha']; exact Nat.mod_lt _ (Nat.two_pow_pos W)
  rw [← ha'] at hcut
  obtain ⟨t, g1, g2⟩ := print_ev h ha
  have htl := txt_len h ha
  have hsz : t.size ≤ 40 := by rw [← bl_length, g2]; exact htl
  obtain ⟨want, hw⟩ : ∃ want : Int, want = if infP W P < pk W a then ((infP W P + 2 ^ (P - 2) : Nat) : Int) else (a : Int) := ⟨_, rfl⟩
  have par : ∀ (up pl : Bool) (s : ByteArray), (pl = true → ps W a = false ∧ ¬ infP W P < pk W a) → bl s = (if pl then [43] else []) ++ (txtF W P em a).map (upc up) → Ev (fun k => hexes_Parse k F M s) (want, (0, 0)) := by
    intro up pl s hpl hs
    have hsz2 : s.size ≤ 2000 := by
      rw [← bl_length, hs, List.length_append, List.length_map]
      cases pl
      · simp; omega
      · simp; omega
    have g := parse_ok h hM hsz2
    rw [hs, back_ans h ha M up pl hpl, ← hw] at g
    exact g
  have idm : ∀ l : List Int, l.map (upc false) = l := by
    intro l
    conv => rhs; rw [← List.map_id l]
    refine List.map_congr_left fun x _ => ?_
    unfold upc; rw [if_neg (by simp)]; rfl
  have p1 : Ev (fun k => hexes_Parse k F M t) (want, (0, 0)) := par false false t (fun z => by cases z) (by rw [idm, g2]; rfl)
  obtain ⟨vn, d, e, o1, -⟩ := open06 h ha
  have e0 : bl vernierlaw15_HexesBack.s0 = [43] := by decide
  have e1 : bl vernierlaw15_HexesBack.s1 = [] := by decide
  have fin : ∀ (pl : Bool) (s4 : ByteArray), (pl = true → ps W a = false ∧ ¬ infP W P < pk W a) → bl s4 = (if pl then [43] else []) → Ev (fun k => vernierlaw15_HexesBack.j3 k F M t want s4) true := by
    intro pl s4 hpl h4
    refine Ev.congr (fun k => vernierlaw15_HexesBack.j3_eq k _ _ _ _ _) ?_
    exact (back_l4 (l := if pl then [43] else []) hsz (by cases pl <;> simp) (fun s hs => par true pl s hpl (by rw [hs, g2])) t.size 0 s4 (by omega) (by rw [h4]; simp)).ev
  have j1 : ∀ b5 b6 b8 l9 x10, Ev (fun k => vernierlaw15_HexesBack.j1 k F M t want (decide (infP W P < pk W a)) b5 b6 (ps W a) b8 l9 x10) true := by
    intro b5 b6 b8 l9 x10
    refine Ev.congr (fun k => vernierlaw15_HexesBack.j1_eq k _ _ _ _ _ _ _ _ _ _ _) (Ev.bind p1 (Ev.neg (nF rfl) (Ev.neg (nF rfl) (Ev.neg (nF rfl) (Ev.congr (fun k => vernierlaw15_HexesBack.j2_eq k _ _ _ _ _ _ _ _ _ _ _) ?_)))))
    by_cases c : infP W P < pk W a
    · rw [decide_eq_true c]
      exact Ev.neg (by simp) (fin false _ (fun z => by cases z) e1)
    · rw [decide_eq_false c]
      refine Ev.pos rfl ?_
      cases hs : ps W a with
      | true => exact Ev.neg (by simp) (fin false _ (fun z => by cases z) e1)
      | false => exact Ev.pos rfl (fin true _ (fun _ => ⟨hs, c⟩) e0)
  refine Ev.congr (fun k => vernierlaw15_HexesBack_eq k f m (A : Int)) (Ev.bind awake15_ev (Ev.neg (by simp) (Ev.bind (Ev.of f2) (Ev.bind (Ev.of n2) (Ev.bind (Ev.of fun k => params06 h k) ?_)))))
  simp only
  rw [w1, hcut]
  refine Ev.pos (by omega) (Ev.pos (by omega) (Ev.bind g1 (Ev.neg (nF rfl) (Ev.neg (dF (by show ¬ ((t.size : Int) > 40); omega)) (Ev.congr (fun k => vernierlaw15_HexesBack.j0_eq k _ _ _ _) (Ev.bind o1 ?_))))))
  by_cases c : infP W P < pk W a
  · rw [if_pos c] at hw
    have q := j1 (decide (infP W P < pk W a ∧ pk W a < infP W P + 2 ^ (P - 2))) (decide (pk W a = infP W P)) vn d e
    rw [hw] at q
    exact Ev.pos (decide_eq_true c) (Ev.bind (Ev.of fun k => rQuiet h k) q)
  · rw [if_neg c] at hw
    have q := j1 (decide (infP W P < pk W a ∧ pk W a < infP W P + 2 ^ (P - 2))) (decide (pk W a = infP W P)) vn d e
    rw [hw] at q
    exact Ev.neg (by rw [decide_eq_false c]; simp) q
end Pure
end Go.Proofs.YtmoeaeflljpboaaDoor.X
