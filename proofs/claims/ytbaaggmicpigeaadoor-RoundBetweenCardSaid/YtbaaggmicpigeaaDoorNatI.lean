/- Plain law: what the functions of naturals answer: divided, DivMod, Gcd. Conditions: the words are words, the lists are not longer than memory. -/
import Derived.Test.YtbaaggmicpigeaaDoorNatH
namespace Go.Proofs.YtbaaggmicpigeaaDoor.X
open Go Go.Rex
set_option linter.unusedVariables false

theorem copy_pad (o : List Int) (n : Nat) (h : o.length ≤ n) : ((List.replicate n (0 : Int)).take 0) ++ ((o.take (min o.length ((List.replicate n (0 : Int)).length))) ++ ((List.replicate n (0 : Int)).drop (min o.length ((List.replicate n (0 : Int)).length)))) = o ++ List.replicate (n - o.length) 0 := by
  simp [List.drop_replicate, Nat.min_eq_left h]
theorem val_pad (o : List Int) (m : Nat) : val (o ++ List.replicate m 0) = val o := by rw [val_append, val_replicate]; omega
/-- The divisor, shifted until its highest bit is set. -/
theorem norm_facts {B : Nat} (hB : B ≠ 0) {t : Nat} (ht : (digs B).getD ((digs B).length - 1) 0 = (t : Int)) : 0 < t ∧ t < 18446744073709551616 ∧ blen t ≤ 64 ∧ 0 < blen t ∧ B * 2 ^ (64 - blen t) < 18446744073709551616 ^ (digs B).length ∧ 9223372036854775808 * 18446744073709551616 ^ ((digs B).length - 1) ≤ B * 2 ^ (64 - blen t) := by
  have hl := digs_len_pos.2 hB
  have hn := Neat.digs B (by rw [Ne, digs_nil]; exact hB)
  have hw := (WF.digs B).getD ((digs B).length - 1)
  rw [ht] at hn hw
  have t0 : 0 < t := by omega
  have tb := blen_bound (n := t) (k := 64) (by omega)
  have tp := blen_pos (n := t) (by omega)
  have hv := val_take_last (p := digs B) (n := (digs B).length - 1) (by omega)
  rw [val_digs, ht, Int.toNat_natCast] at hv
  have hlow := take_val_lt (WF.digs B) ((digs B).length - 1)
  have b1 := blen_lt t
  have b2 := blen_le (n := t) (by omega)
  refine ⟨t0, by omega, tb, tp, ?_, ?_⟩
  · have e : 18446744073709551616 ^ (digs B).length = 18446744073709551616 ^ ((digs B).length - 1) * 18446744073709551616 := by
      rw [← Nat.pow_succ]; congr 1; omega
    have h1 : B < 18446744073709551616 ^ ((digs B).length - 1) * (t + 1) := by rw [Nat.mul_add]; omega
    have h2 : (t + 1) * 2 ^ (64 - blen t) ≤ 2 ^ blen t * 2 ^ (64 - blen t) := Nat.mul_le_mul_right _ b1
    rw [← Nat.pow_add, show blen t + (64 - blen t) = 64 by omega] at h2
    have h3 := Nat.mul_lt_mul_of_pos_right h1 (Nat.two_pow_pos (64 - blen t))
    rw [Nat.mul_assoc] at h3
    rw [e]
    exact Nat.lt_of_lt_of_le h3 (Nat.mul_le_mul_left _ h2)
  · have h2 : 2 ^ (blen t - 1) * 2 ^ (64 - blen t) ≤ t * 2 ^ (64 - blen t) := Nat.mul_le_mul_right _ b2
    rw [← Nat.pow_add, show blen t - 1 + (64 - blen t) = 63 by omega] at h2
    have h3 := Nat.mul_le_mul_right (18446744073709551616 ^ ((digs B).length - 1)) h2
    have h4 : t * 2 ^ (64 - blen t) * 18446744073709551616 ^ ((digs B).length - 1) = 18446744073709551616 ^ ((digs B).length - 1) * t * 2 ^ (64 - blen t) := by grind
    rw [h4] at h3
    have h5 : 18446744073709551616 ^ ((digs B).length - 1) * t * 2 ^ (64 - blen t) ≤ B * 2 ^ (64 - blen t) := Nat.mul_le_mul_right _ (by omega)
    omega
theorem divided_ev {a b : List Int} (ha : WF a) (hb : WF b) (la : Lb a) (lb : Lb b) (ca : (digs (val a)).length ≤ 1000000000000) (hB : val b ≠ 0) : Ev (fun k => nat_divided k a b) (digs (val a / val b), digs (val a % val b)) := by
  refine Ev.congr (fun k => nat_divided_eq k a b) (Ev.bind (trim_ev ha la) (Ev.bind (trim_ev hb lb) ?_))
  have l1 := la.ofv ha
  have l2 := lb.ofv hb
  have lenB := digs_len_pos.2 hB
  have hc := Cmp_ev (WF.digs (val a)) (WF.digs (val b)) l1 l2
  rw [val_digs, val_digs] at hc
  generalize val a = A at *
  generalize val b = B at *
  refine Ev.bind hc ?_
  by_cases c : A < B
  · refine Ev.pos (dT (by rw [cmpN, if_pos c]; omega)) ?_
    have := copied_ev (WF.digs A) l1
    rw [val_digs] at this
    rw [Nat.div_eq_of_lt c, Nat.mod_eq_of_lt c, digs_zero]
    exact Ev.bind this (Ev.some _)
  refine Ev.neg (dF (by unfold cmpN; rw [if_neg c]; split <;> omega)) ?_
  have lAB := digs_len_mono (Nat.le_of_not_lt c)
  by_cases c1 : (digs B).length = 1
  · refine Ev.pos (bT (by omega)) ?_
    have := copied_ev (WF.digs A) l1
    rw [val_digs] at this
    refine Ev.bind this (Ev.pos ⟨by omega, by omega⟩ ?_)
    have rB := (WF.digs B).getD 0
    obtain ⟨d, ed⟩ := Int.eq_ofNat_of_zero_le rB.1
    have hBd : B = d := by
      have h1 := val_take_last (p := digs B) (n := 0) c1
      rw [val_digs, ed] at h1; simpa [val] using h1
    rw [show ((0 : Int).toNat) = 0 from rfl, ed, hBd]
    have hw := byWord_ev (WF.digs A) l1 (d := d) (by omega) (by omega)
    rw [val_digs] at hw
    refine Ev.bind hw ?_
    have hm := Nat.mod_lt A (show 0 < d by omega)
    have ht := trim_ev (a := [((A % d : Nat) : Int)]) (WF.cons (by omega) (by omega) WF.nil) (by unfold Lb; simp)
    have ev : val [((A % d : Nat) : Int)] = A % d := by rw [val_cons, val_nil, Int.toNat_natCast]; omega
    rw [ev] at ht
    exact Ev.bind ht (Ev.some _)
  refine Ev.neg (bF (by omega)) ?_
  have u1 := l1
  have u2 := l2
  unfold Lb at u1 u2
  have rt := (WF.digs B).getD ((digs B).length - 1)
  obtain ⟨t, et⟩ := Int.eq_ofNat_of_zero_le rt.1
  obtain ⟨n1, n2, n3, n4, n5, n6⟩ := norm_facts hB et
  rw [show IntKind.i64.wrap (((digs B).length : Int) - 1) = (((digs B).length - 1 : Nat) : Int) by rw [wrapI] <;> omega, Int.toNat_natCast, et]
  refine Ev.pos ⟨by omega, by omega⟩ (Ev.bind (Ev.of fun k => lz64 k t n2) ?_)
  generalize hs : 64 - blen t = s at *
  have hs64 : s < 64 := by omega
  have hP : 0 < 2 ^ s := Nat.two_pow_pos s
  -- both shifted
  have e1 := left_ev (WF.digs B) l2 (n := s) (by rw [val_digs]; omega)
  have e2 := left_ev (WF.digs A) l1 (n := s) (by rw [val_digs]; omega)
  rw [val_digs] at e1 e2
  have hVle : B ≤ B * 2 ^ s := Nat.le_mul_of_pos_right _ hP
  have hvl : (digs (B * 2 ^ s)).length = (digs B).length := Nat.le_antisymm (digs_length_lt.2 n5) (digs_len_mono hVle)
  have hA := digs_length_lt.1 (Nat.le_refl (digs A).length)
  have hP64 : 2 ^ s ≤ 9223372036854775808 := by
    have : 2 ^ s ≤ 2 ^ 63 := Nat.pow_le_pow_right (by decide) (by omega)
    exact this
  have hAs : A * 2 ^ s < 18446744073709551616 ^ (digs A).length * 9223372036854775808 := Nat.lt_of_lt_of_le (Nat.mul_lt_mul_of_pos_right hA hP) (Nat.mul_le_mul_left _ hP64)
  have hul : (digs (A * 2 ^ s)).length ≤ (digs A).length + 1 := digs_length_lt.2 (by rw [pow_s]; exact Nat.lt_of_lt_of_le hAs (Nat.mul_le_mul_left _ (by decide)))
  refine Ev.bind e1 ?_
  rw [succ_i (digs A).length (by omega), Int.toNat_natCast]
  refine Ev.pos ⟨by omega, by omega⟩ (Ev.bind e2 ?_)
  rw [copy_pad _ _ hul]
  have hpl : (digs (A * 2 ^ s) ++ List.replicate ((digs A).length + 1 - (digs (A * 2 ^ s)).length) 0).length = (digs A).length + 1 := by simp; omega
  rw [hpl, hvl, sub_i _ _ (by omega) (by omega), Int.toNat_natCast]
  refine Ev.pos ⟨by omega, by omega⟩ ?_
  rw [List.length_replicate, show IntKind.i64.wrap ((((digs A).length + 1 - (digs B).length : Nat) : Int) - 1) = (((digs A).length + 1 - (digs B).length : Nat) : Int) - 1 by rw [wrapI] <;> omega]
  have hpw : WF (digs (A * 2 ^ s) ++ List.replicate ((digs A).length + 1 - (digs (A * 2 ^ s)).length) 0) := (WF.digs _).append (WF.replicate _)
  have hpv : val (digs (A * 2 ^ s) ++ List.replicate ((digs A).length + 1 - (digs (A * 2 ^ s)).length) 0) = A * 2 ^ s := by rw [val_pad, val_digs]
  generalize digs (A * 2 ^ s) ++ List.replicate ((digs A).length + 1 - (digs (A * 2 ^ s)).length) 0 = u0 at *
  have hB2 : 0 < B * 2 ^ s := Nat.mul_pos (by omega) hP
  have htop : val (u0.drop ((digs A).length + 1 - (digs B).length)) < B * 2 ^ s := by
    rw [val_drop_div hpw, hpv, Nat.div_lt_iff_lt_mul (W_pow_pos _)]
    refine Nat.lt_of_lt_of_le hAs ?_
    have h1 := Nat.mul_le_mul_right (18446744073709551616 ^ ((digs A).length + 1 - (digs B).length)) n6
    have h2 : 18446744073709551616 ^ (digs A).length = 18446744073709551616 ^ ((digs B).length - 1) * 18446744073709551616 ^ ((digs A).length + 1 - (digs B).length) := by
      rw [← Nat.pow_add]; congr 1; omega
    rw [h2]
    refine Nat.le_trans ?_ h1
    have h3 : 18446744073709551616 ^ ((digs B).length - 1) * 18446744073709551616 ^ ((digs A).length + 1 - (digs B).length) * 9223372036854775808 = 9223372036854775808 * 18446744073709551616 ^ ((digs B).length - 1) * 18446744073709551616 ^ ((digs A).length + 1 - (digs B).length) := by grind
    omega
  have key := (divd_l0 (WF.digs (B * 2 ^ s)) hpw (n := (digs B).length) (L := (digs A).length + 1 - (digs B).length) (s := s) hvl (by omega) (by omega) (by omega) (by rw [val_digs]; exact hB2) hs64 ((digs A).length + 1 - (digs B).length)
    (List.replicate ((digs A).length + 1 - (digs B).length) 0) u0 (Nat.le_refl _) (WF.replicate _) (by simp) hpw (by omega) rfl (by rw [val_digs]; exact htop) (by rw [List.drop_of_length_le (l := List.replicate _ _) (by simp)]; simp [val])).ev
  rw [hpv, val_digs, Nat.mul_div_mul_right _ _ hP, Nat.mul_mod_mul_right, Nat.mul_div_cancel _ hP] at key
  exact key

theorem DivMod_ev {a b : List Int} (ha : WF a) (hb : WF b) (la : Lb a) (lb : Lb b) (ca : (digs (val a)).length ≤ 1024) (cb : (digs (val b)).length ≤ 1024) (hB : val b ≠ 0) : Ev (fun k => nat_DivMod k a b) (digs (val a / val b), (digs (val a % val b), (0 : Int))) := by
  refine Ev.congr (fun k => nat_DivMod_eq k a b) ?_
  rw [set2]
  refine Ev.bind (Ev.eq (great_ev (l := [a, b]) (fun x hx => ?_) (by simp)) (r' := false) ?_) (Ev.neg (by simp) (Ev.bind (trim_ev hb lb) ?_))
  · rcases List.mem_cons.1 hx with rfl | hx
    · exact ⟨ha, la⟩
    · rw [List.mem_singleton.1 hx]; exact ⟨hb, lb⟩
  · simp; omega
  · have := digs_len_pos.2 hB
    exact Ev.neg (bF (by omega)) (Ev.bind (divided_ev ha hb la lb (by omega) hB) (Ev.some _))
theorem DivMod_zero {a b : List Int} (ha : WF a) (hb : WF b) (la : Lb a) (lb : Lb b) (ca : (digs (val a)).length ≤ 1024) (hB : val b = 0) : Ev (fun k => nat_DivMod k a b) (([] : List Int), (([] : List Int), (10 : Int))) := by
  refine Ev.congr (fun k => nat_DivMod_eq k a b) ?_
  rw [set2]
  refine Ev.bind (Ev.eq (great_ev (l := [a, b]) (fun x hx => ?_) (by simp)) (r' := false) ?_) (Ev.neg (by simp) (Ev.bind (trim_ev hb lb) ?_))
  · rcases List.mem_cons.1 hx with rfl | hx
    · exact ⟨ha, la⟩
    · rw [List.mem_singleton.1 hx]; exact ⟨hb, lb⟩
  · simp [hB, digs_zero]; omega
  · rw [hB, digs_zero]
    exact Ev.pos (bT rfl) (Ev.some _)

end Go.Proofs.YtbaaggmicpigeaaDoor.X
