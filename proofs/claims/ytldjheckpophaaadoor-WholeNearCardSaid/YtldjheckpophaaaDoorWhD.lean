/- Plain law: exact whole numbers of layer 3, and their comparison; the whole numbers of a format. Conditions: those that each states. -/
import Derived.Test.YtldjheckpophaaaDoorWhC
namespace Go.Proofs.YtldjheckpophaaaDoor.X
open Go Go.Rex
set_option linter.unusedVariables false

/-- An exact number that is the whole number v. -/
def RepZ (s : Bool) (l : List Int) (e v : Int) : Prop := ∃ n : Nat, l = digs n ∧ (digs n).length ≤ 1000 ∧ 0 ≤ e ∧ e ≤ 40000 ∧ sg s (n * 2 ^ e.toNat) = v
theorem RepZ.zero : RepZ false [] 0 0 := ⟨0, digs_zero.symm, by simp [digs_zero], by omega, by omega, by simp [sg]⟩
theorem RepZ.word {n : Nat} (s : Bool) (hn : n < 18446744073709551616) : RepZ s (digs n) 0 (sg s n) := ⟨n, rfl, Nat.le_trans (digs_length_lt.2 (by rw [Nat.pow_one]; exact hn) : (digs n).length ≤ 1) (by decide), by omega, by omega, by simp⟩
/-- Of n, its odd part and the zeros behind. -/
theorem RepZ.odd {n : Nat} (s : Bool) (h0 : n ≠ 0) (hn : (digs n).length ≤ 500) : RepZ s (digs (oddN n)) (tz n : Int) (sg s n) := by
  have h1 := tz_blen h0
  have h2 := blen_len hn
  refine ⟨oddN n, rfl, Nat.le_trans (digs_len_mono (oddN_le n)) (by omega), by omega, by omega, ?_⟩
  rw [Int.toNat_natCast, oddN_mul h0]
theorem sg_sub (s t : Bool) (x y : Nat) : sg s x + sg (!t) y = sg s x - sg t y := by
  unfold sg; cases t <;> simp [Int.sub_eq_add_neg]
theorem sgn_eq0 {x : Int} : (sgn x == 0) = decide (x = 0) := by
  unfold sgn
  by_cases c : x < 0
  · rw [if_pos c, decide_eq_false (by omega)]; rfl
  · rw [if_neg c]
    by_cases c0 : x = 0
    · rw [if_pos c0, decide_eq_true c0]; rfl
    · rw [if_neg c0, decide_eq_false c0]; rfl
theorem sgn_neg {x : Int} : (decide (sgn x < 0)) = decide (x < 0) := by
  unfold sgn
  by_cases c : x < 0
  · rw [if_pos c, decide_eq_true c]; rfl
  · rw [if_neg c, decide_eq_false c]; split <;> rfl
theorem sgn_pos {x : Int} : (decide (sgn x > 0)) = decide (x > 0) := by
  unfold sgn
  by_cases c : x < 0
  · rw [if_pos c, decide_eq_false (show ¬ x > 0 by omega)]; rfl
  · rw [if_neg c]
    by_cases c0 : x = 0
    · rw [if_pos c0, decide_eq_false (show ¬ x > 0 by omega)]; rfl
    · rw [if_neg c0, decide_eq_true (show x > 0 by omega)]; rfl
theorem cmpZ {s s' : Bool} {l l' : List Int} {e e' v v' : Int} (h : RepZ s l e v) (h' : RepZ s' l' e' v') : Ev (fun k => vernierlaw12_compare k s l e s' l' e') (sgn (v - v')) := by
  obtain ⟨n, rfl, n1, n2, n3, n4⟩ := h
  obtain ⟨m, rfl, m1, m2, m3, m4⟩ := h'
  have c := DCmp_ev (n := n) (m := m) ⟨n1, by omega, n3⟩ ⟨m1, by omega, m3⟩ s s' 0 n2 m2 (by decide)
  rw [Int.sub_zero, Int.sub_zero, sg_sub, n4, m4] at c
  exact Ev.congr (fun k => vernierlaw12_compare_eq k _ _ _ _ _ _) (Ev.bind c (Ev.neg (nF rfl) (Ev.some _)))
theorem fromZ {z : Int} (h0 : -9223372036854775808 ≤ z) (h1 : z ≤ 9223372036854775807) : ∃ s l e, Ev (fun k => dyad_FromInt k z) (s, (l, e)) ∧ RepZ s l e z := by
  have fin : ∀ (n : Nat) (s : Bool), n < 18446744073709551616 → ∃ s' l e, Ev (fun k => dyad_odd k s ((List.replicate 1 (0 : Int)).set 0 (n : Int)) 0) (s', (l, e)) ∧ RepZ s' l e (sg s n) := by
    intro n s hn
    have wf : WF ((List.replicate 1 (0 : Int)).set 0 (n : Int)) := WF.cons (by omega) (by omega) WF.nil
    have hv : val ((List.replicate 1 (0 : Int)).set 0 (n : Int)) = n := by
      show (n : Int).toNat + 18446744073709551616 * 0 = n
      rw [Int.toNat_natCast]; omega
    have l1 : (digs n).length ≤ 1 := digs_length_lt.2 (by rw [Nat.pow_one]; exact hn)
    by_cases c : n = 0
    · refine ⟨false, [], 0, odd_zero wf (by unfold Lb; simp) (by rw [hv]; exact c) s 0, ?_⟩
      rw [c]
      have : sg s 0 = 0 := by unfold sg; cases s <;> rfl
      rw [this]; exact RepZ.zero
    · have o := odd_all wf (by unfold Lb; simp) (by rw [hv]; omega) (by rw [hv]; exact c) s (e := 0) (by omega)
      rw [hv, Int.zero_add] at o
      exact ⟨_, _, _, o, RepZ.odd s c (by omega)⟩
  by_cases c : z < 0
  · obtain ⟨n, hn⟩ : ∃ n : Nat, z = -(n : Int) := ⟨(-z).toNat, by omega⟩
    obtain ⟨s', l, e, o, r⟩ := fin n true (by omega)
    have ew : IntKind.u64.wrap (0 - IntKind.u64.wrap z) = (n : Int) := by rw [wrap_u64, wrap_u64]; omega
    refine ⟨s', l, e, Ev.congr (fun k => dyad_FromInt_eq k _) (Ev.pos (dT c) ?_), by rw [hn]; exact r⟩
    rw [ew, decide_eq_true c]
    exact Ev.bind o (Ev.some _)
  · obtain ⟨n, hn⟩ : ∃ n : Nat, z = (n : Int) := ⟨z.toNat, by omega⟩
    obtain ⟨s', l, e, o, r⟩ := fin n false (by omega)
    have ew : IntKind.u64.wrap z = (n : Int) := by rw [wrap_u64]; omega
    refine ⟨s', l, e, Ev.congr (fun k => dyad_FromInt_eq k _) (Ev.neg (dF c) ?_), by rw [hn]; exact r⟩
    rw [ew, decide_eq_false c]
    exact Ev.bind o (Ev.some _)
/-- The integer that 64 bits say of a kind. -/
def intV (κ : Int) (x : Nat) : Int := if κ = 0 ∨ κ = 1 then IntKind.i64.wrap (x : Int) else (x : Int)
theorem integerZ {κ : Int} {x : Nat} (hx : x < 18446744073709551616) : ∃ s l e, Ev (fun k => vernierlaw12_integer k κ (x : Int)) (s, (l, e)) ∧ RepZ s l e (intV κ x) := by
  have hw : -9223372036854775808 ≤ IntKind.i64.wrap (x : Int) ∧ IntKind.i64.wrap (x : Int) ≤ 9223372036854775807 := by rw [wrap_i64]; omega
  obtain ⟨s, l, e, o, r⟩ := fromZ hw.1 hw.2
  unfold intV
  by_cases c0 : κ = 0
  · rw [if_pos (.inl c0)]
    exact ⟨s, l, e, Ev.congr (fun k => vernierlaw12_integer_eq k _ _) (Ev.pos (bT c0) (Ev.bind o (Ev.some _))), r⟩
  · by_cases c1 : κ = 1
    · rw [if_pos (.inr c1)]
      exact ⟨s, l, e, Ev.congr (fun k => vernierlaw12_integer_eq k _ _) (Ev.neg (bF c0) (Ev.pos (bT c1) (Ev.bind o (Ev.some _)))), r⟩
    · rw [if_neg (by omega)]
      have wf : WF ((List.replicate 1 (0 : Int)).set 0 (x : Int)) := WF.cons (by omega) (by omega) WF.nil
      have hv : val ((List.replicate 1 (0 : Int)).set 0 (x : Int)) = x := by
        show (x : Int).toNat + 18446744073709551616 * 0 = x
        rw [Int.toNat_natCast]; omega
      have l1 : (digs x).length ≤ 1 := digs_length_lt.2 (by rw [Nat.pow_one]; exact hx)
      by_cases cx : x = 0
      · have o := Canon_zero wf (by simp) (e := 0) (by omega) (by rw [hv]; exact cx) false
        refine ⟨false, [], 0, Ev.congr (fun k => vernierlaw12_integer_eq k _ _) (Ev.neg (bF c0) (Ev.neg (bF c1) (Ev.bind o (Ev.some _)))), ?_⟩
        rw [cx]; exact RepZ.zero
      · have b1 := tz_blen cx
        have b2 := blen_len l1
        have o := Canon_ok wf (by simp) (e := 0) (by omega) (by rw [hv]; exact cx) (by rw [hv]; omega) false
        rw [hv, Int.zero_add] at o
        exact ⟨false, _, _, Ev.congr (fun k => vernierlaw12_integer_eq k _ _) (Ev.neg (bF c0) (Ev.neg (bF c1) (Ev.bind o (Ev.some _)))), RepZ.odd false cx (by omega)⟩
section
variable {f : Int} {W P : Nat} {em ex : Int} (h : Fm f W P em ex)
include h
/-- The value of a pattern that is the whole number U with the sign s. -/
theorem valueZ {K U : Nat} (hK : plV P K = U * wD P em) (hi : K < infP W P) (s : Bool) : ∃ s' l e, Ev (fun k => vernierlaw12_value k f ((K + sgB s W : Nat) : Int)) (s', (l, e)) ∧ RepZ s' l e (sg s U) := by
  have h8 := h.p8; have h3 := h.wp
  have hip := infP_le h
  have hpp := Nat.two_pow_pos (P - 1)
  obtain ⟨t, t1, t2, t3, t4⟩ := wD_pow h
  obtain ⟨q1, q2, q3⟩ := pk_at (W := W) (K := K) (by omega) (by omega) s
  obtain ⟨v1, v2, v3⟩ := value_pk h q3
  rw [q1] at v1 v2 v3
  rw [q2] at v3
  by_cases c : K = 0
  · have hU : U = 0 := by
      rw [c, (plV_zero (P := P) (by omega)).2 rfl] at hK
      rcases Nat.mul_eq_zero.1 hK.symm with e | e
      · exact e
      · have := wD_pos P em; omega
    refine ⟨false, [], 0, Ev.congr (fun k => vernierlaw12_value_eq k _ _) (Ev.bind (Ev.of (v2 c)) (Ev.some _)), ?_⟩
    have : sg s U = 0 := by rw [hU]; unfold sg; cases s <;> rfl
    rw [this]; exact RepZ.zero
  · have hU : U ≠ 0 := by
      intro e
      rw [e, Nat.zero_mul] at hK
      exact c ((plV_zero (P := P) (by omega)).1 hK)
    obtain ⟨a1, a2⟩ := tz_mul_pow hU t
    rw [hK, t1, a1, a2] at v3
    obtain ⟨f1, f2, f3, f4⟩ := plV_facts h c (by omega)
    have bU : blen U ≤ 2112 := by
      rw [hK, t1, blen_pow_mul hU] at f2; omega
    have lU : (digs U).length ≤ 33 := by
      obtain ⟨w, hw⟩ : ∃ w : Nat, w = 33 := ⟨_, rfl⟩
      rw [← hw, digs_length_lt, ← two_64]
      exact Nat.lt_of_lt_of_le (blen_lt U) (pow_mono2 (by omega))
    refine ⟨s, _, _, Ev.congr (fun k => vernierlaw12_value_eq k _ _) (Ev.bind (Ev.of (v3 c hi)) (Ev.eq (Ev.some _) ?_)), RepZ.odd s hU (by omega)⟩
    show (s, (digs (oddN U), em - (P : Int) + 1 + ((tz U + t : Nat) : Int))) = _
    congr 2; omega
theorem finite12_ev {a : Nat} (ha : a < 2 ^ W) : Ev (fun k => vernierlaw12_finite k f (a : Int)) (decide (pk W a < infP W P)) := by
  obtain ⟨vn, d, e, o, -⟩ := open06 h ha
  refine Ev.congr (fun k => vernierlaw12_finite_eq k _ _) (Ev.bind o ?_)
  dsimp only
  by_cases c : infP W P < pk W a
  · rw [decide_eq_true c, decide_eq_false (show ¬ pk W a < infP W P by omega)]
    exact Ev.neg (by simp) (Ev.some _)
  · rw [decide_eq_false c]
    refine Ev.pos rfl (Ev.eq (Ev.some _) ?_)
    by_cases c2 : pk W a = infP W P
    · rw [decide_eq_true c2, decide_eq_false (by omega)]; rfl
    · rw [decide_eq_false c2, decide_eq_true (by omega)]; rfl
end
theorem ends0 (m : Nat) : vernierlaw12_ends (m + 200) 0 = some (true, ([1], (31, (false, ([2147483647], 0))))) := by kernel_rfl
theorem ends1 (m : Nat) : vernierlaw12_ends (m + 200) 1 = some (true, ([1], (63, (false, ([9223372036854775807], 0))))) := by kernel_rfl
theorem ends2 (m : Nat) : vernierlaw12_ends (m + 200) 2 = some (false, ([], (0, (false, ([4294967295], 0))))) := by kernel_rfl
theorem ends3 (m : Nat) : vernierlaw12_ends (m + 200) 3 = some (false, ([], (0, (false, ([18446744073709551615], 0))))) := by kernel_rfl
theorem ends_ev {κ : Int} (h0 : 0 ≤ κ) (h3 : κ ≤ 3) : ∃ s l e s' l' e', Ev (fun k => vernierlaw12_ends k κ) (s, (l, (e, (s', (l', e'))))) ∧ RepZ s l e (-(kBel κ : Int)) ∧ RepZ s' l' e' (kMost κ : Int) := by
  have at200 : ∀ {r} {κ : Int}, (∀ m, vernierlaw12_ends (m + 200) κ = some r) → Ev (fun k => vernierlaw12_ends k κ) r := fun {r κ} g => ⟨200, fun k hk => by
    obtain ⟨m, rfl⟩ : ∃ m, k = m + 200 := ⟨k - 200, by omega⟩
    exact g m⟩
  have w1 : ∀ n : Nat, n ≠ 0 → n < 18446744073709551616 → [(n : Int)] = digs n := fun n hn hl => by
    rw [digs_pos hn, show n / 18446744073709551616 = 0 by omega, digs_zero, show n % 18446744073709551616 = n by omega]
  have one : ∀ (t : Nat), t ≤ 100 → RepZ true [1] (t : Int) (-((2 ^ t : Nat) : Int)) := fun t ht => ⟨1, w1 1 (by decide) (by decide), by rw [← w1 1 (by decide) (by decide)]; simp, by omega, by omega, by simp [sg]⟩
  have pos : ∀ n : Nat, n ≠ 0 → n < 18446744073709551616 → RepZ false [(n : Int)] 0 (n : Int) := fun n hn hl => by
    rw [w1 n hn hl]; exact RepZ.word false hl
  have : κ = 0 ∨ κ = 1 ∨ κ = 2 ∨ κ = 3 := by omega
  rcases this with rfl | rfl | rfl | rfl
  · exact ⟨_, _, _, _, _, _, at200 ends0, one 31 (by decide), pos 2147483647 (by decide) (by decide)⟩
  · exact ⟨_, _, _, _, _, _, at200 ends1, one 63 (by decide), pos 9223372036854775807 (by decide) (by decide)⟩
  · exact ⟨_, _, _, _, _, _, at200 ends2, RepZ.zero, pos 4294967295 (by decide) (by decide)⟩
  · exact ⟨_, _, _, _, _, _, at200 ends3, RepZ.zero, pos 18446744073709551615 (by decide) (by decide)⟩
end Go.Proofs.YtldjheckpophaaaDoor.X
