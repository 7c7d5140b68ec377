/- Plain law: what the functions of naturals answer: digit, divided, DivMod, Gcd. Conditions: the words are words, the lists are not longer than memory. -/
import Derived.Test.YtbaaggmicpigeaaDoorNatG
namespace Go.Proofs.YtbaaggmicpigeaaDoor.X
open Go Go.Rex
set_option linter.unusedVariables false

/-- The two highest words. -/
theorem top2 {a : List Int} {n : Nat} (h : a.length = n + 2) {x y : Nat} (ex : a.getD (n + 1) 0 = (x : Int)) (ey : a.getD n 0 = (y : Int)) : val a = val (a.take n) + (x * 18446744073709551616 + y) * 18446744073709551616 ^ n := by
  have h1 := val_take_last (p := a) (n := n + 1) h
  have h2 := take_succ_val' a n
  rw [ex, Int.toNat_natCast] at h1
  rw [ey, Int.toNat_natCast] at h2
  rw [h1, h2, pow_s]; grind
theorem top3 {a : List Int} {n : Nat} (h : a.length = n + 3) {x y z : Nat} (ex : a.getD (n + 2) 0 = (x : Int)) (ey : a.getD (n + 1) 0 = (y : Int)) (ez : a.getD n 0 = (z : Int)) :
    val a = val (a.take n) + ((x * 18446744073709551616 + y) * 18446744073709551616 + z) * 18446744073709551616 ^ n := by
  have h1 := val_take_last (p := a) (n := n + 2) h
  have h2 := take_succ_val' a (n + 1)
  have h3 := take_succ_val' a n
  rw [ex, Int.toNat_natCast] at h1
  rw [ey, Int.toNat_natCast] at h2
  rw [ez, Int.toNat_natCast] at h3
  rw [h1, h2, h3, pow_s, pow_s]; grind

theorem digit_ev {u v : List Int} (hu : WF u) (hv : WF v) {n : Nat} (hul : u.length = n + 1) (hvl : v.length = n) (hn : n ≤ 17592186044416) (h2 : 2 ≤ n) (hV : 0 < val v) (huV : val u < 18446744073709551616 * val v) :
    ∃ p : List Int, WF p ∧ p.length = n + 1 ∧ val p = val u % val v ∧ Ev (fun k => nat_digit k u v) (p, ((val u / val v : Nat) : Int)) := by
  obtain ⟨m, rfl⟩ : ∃ m, n = m + 2 := ⟨n - 2, by omega⟩
  have r0 := hu.getD (m + 2)
  have r1 := hu.getD (m + 1)
  have r2 := hu.getD m
  have s1 := hv.getD (m + 1)
  have s2 := hv.getD m
  obtain ⟨u0, e0⟩ := Int.eq_ofNat_of_zero_le r0.1
  obtain ⟨u1, e1⟩ := Int.eq_ofNat_of_zero_le r1.1
  obtain ⟨u2, e2⟩ := Int.eq_ofNat_of_zero_le r2.1
  obtain ⟨v1, f1⟩ := Int.eq_ofNat_of_zero_le s1.1
  obtain ⟨v2, f2⟩ := Int.eq_ofNat_of_zero_le s2.1
  have tu := top3 (a := u) (n := m) hul e0 e1 e2
  have tv := top2 (a := v) (n := m) hvl f1 f2
  have lu := take_val_lt hu m
  have lv := take_val_lt hv m
  have dm := Nat.div_add_mod (val u) (val v)
  have ml := Nat.mod_lt (val u) hV
  have hQ : val u / val v < 18446744073709551616 := by rw [Nat.div_lt_iff_lt_mul hV]; exact huV
  have w1 : IntKind.i64.wrap (((m + 2 : Nat) : Int) - 1) = ((m + 1 : Nat) : Int) := by rw [wrapI] <;> omega
  generalize hq : val u / val v = Q at *
  generalize hr : val u % val v = R at *
  by_cases c : u0 < v1
  · -- the first guess is not too small
    have hg : Q ≤ (u0 * 18446744073709551616 + u1) / v1 := by
      rw [Nat.le_div_iff_mul_le (by omega)]
      have k1 : Q * v1 * 18446744073709551616 ^ (m + 1) ≤ val v * Q := by
        have a1 : v1 * 18446744073709551616 ^ (m + 1) ≤ val v := by
          rw [tv, pow_s]
          have : v1 * (18446744073709551616 ^ m * 18446744073709551616) = v1 * 18446744073709551616 * 18446744073709551616 ^ m := by grind
          rw [this, Nat.add_mul]
          omega
        have a2 := Nat.mul_le_mul_right Q a1
        have a3 : Q * v1 * 18446744073709551616 ^ (m + 1) = v1 * 18446744073709551616 ^ (m + 1) * Q := by grind
        omega
      have k2 : val u < (u0 * 18446744073709551616 + u1 + 1) * 18446744073709551616 ^ (m + 1) := by
        have h1 := val_take_last (p := u) (n := m + 2) hul
        have h2 := take_succ_val' u (m + 1)
        rw [e0, Int.toNat_natCast] at h1
        rw [e1, Int.toNat_natCast] at h2
        have h3 := take_val_lt hu (m + 1)
        rw [h1, h2, pow_s (m + 1)]
        have : (u0 * 18446744073709551616 + u1 + 1) * 18446744073709551616 ^ (m + 1) = 18446744073709551616 ^ (m + 1) * u1 + 18446744073709551616 ^ (m + 1) * 18446744073709551616 * u0 + 18446744073709551616 ^ (m + 1) := by grind
        rw [this]
        omega
      have k3 : Q * v1 * 18446744073709551616 ^ (m + 1) < (u0 * 18446744073709551616 + u1 + 1) * 18446744073709551616 ^ (m + 1) := by omega
      have k4 := Nat.lt_of_mul_lt_mul_right k3
      omega
    have hgl : (u0 * 18446744073709551616 + u1) / v1 < 18446744073709551616 := by
      rw [Nat.div_lt_iff_lt_mul (by omega)]
      have : (u0 + 1) * 18446744073709551616 ≤ v1 * 18446744073709551616 := Nat.mul_le_mul_right _ c
      rw [Nat.mul_comm 18446744073709551616 v1]
      omega
    have gd := Nat.div_add_mod (u0 * 18446744073709551616 + u1) v1
    have gm := Nat.mod_lt (u0 * 18446744073709551616 + u1) (show 0 < v1 by omega)
    have hd := div64_ev (h := u0) (l := u1) (y := v1) (by omega) c (by omega)
    generalize (u0 * 18446744073709551616 + u1) / v1 = g at *
    generalize (u0 * 18446744073709551616 + u1) % v1 = r at *
    obtain ⟨p, a1, a2, a3, a4⟩ := digit_l0 hv hvl hn (U := val u) (Q := Q) (R := R) dm ml hu hul rfl h2 (v1 := v1) (v2 := v2) (T := u0 * 18446744073709551616 + u1) (u2 := u2) f1 f2 e2
      (by rw [show m + 2 - 2 = m by omega, tu]
          have : ((u0 * 18446744073709551616 + u1) * 18446744073709551616 + u2 + 1) * 18446744073709551616 ^ m = ((u0 * 18446744073709551616 + u1) * 18446744073709551616 + u2) * 18446744073709551616 ^ m + 18446744073709551616 ^ m := by rw [Nat.add_mul, Nat.one_mul]
          rw [this]; omega)
      (by rw [show m + 2 - 2 = m by omega, tv]; omega) (g - Q) g r (by omega) hgl (by omega) (by rw [Nat.mul_comm]; exact gd)
    refine ⟨p, a1, a2, a3, Ev.congr (fun k => nat_digit_eq k u v) ?_⟩
    rw [hvl, w1, Int.toNat_natCast, Int.toNat_natCast, e0, e1, f1]
    refine Ev.pos ⟨by omega, by omega⟩ (Ev.pos ⟨by omega, by omega⟩ (Ev.pos (dT (by omega)) (Ev.pos ⟨by omega, by omega⟩ (Ev.pos ⟨by omega, by omega⟩ (Ev.pos ⟨by omega, by omega⟩ (Ev.bind hd a4.ev))))))
  · obtain ⟨p, a1, a2, a3, a4⟩ := digit_j1 hv hvl hn (U := val u) (Q := Q) (R := R) dm ml hu hul rfl (g := 18446744073709551615) (by omega) (by omega)
    refine ⟨p, a1, a2, a3, Ev.congr (fun k => nat_digit_eq k u v) ?_⟩
    rw [hvl, w1, Int.toNat_natCast, Int.toNat_natCast, e0, f1]
    exact Ev.pos ⟨by omega, by omega⟩ (Ev.pos ⟨by omega, by omega⟩ (Ev.neg (dF (by omega)) a4))

/-! ### divided -/
theorem val_zero_drop {a : List Int} {k : Nat} (h : val (a.drop k) = 0) (hw : WF a) (m : Nat) (hm : k ≤ m) : val (a.drop m) = 0 := by
  have := val_take_drop (a.drop k) (m - k)
  rw [List.drop_drop, show k + (m - k) = m by omega] at this
  have hp := W_pow_pos (m - k)
  rcases Nat.eq_zero_or_pos (val (a.drop m)) with h0 | h0
  · exact h0
  · have := Nat.mul_pos hp h0; omega
theorem divd_l0 {v u0 : List Int} (hv : WF v) (hu0 : WF u0) {n L s : Nat} (hvl : v.length = n) (h2 : 2 ≤ n) (hul : u0.length = L + n) (hL : L + n ≤ 17592186044416) (hV : 0 < val v) (hs : s < 64) (m : Nat) : ∀ (q u : List Int), m ≤ L → WF q → q.length = L → WF u → u.length = L + n → u.take m = u0.take m → val (u.drop m) < val v → val (u0.drop m) = val (q.drop m) * val v + val (u.drop m) →
    Ev2 (fun k l => nat_divided.l0 k l (s : Int) v (n : Int) ((m : Int) - 1) q u) (digs (val u0 / val v), digs (val u0 % val v / 2 ^ s)) := by
  induction m with
  | zero =>
    intro q u hm hq hql hu hul' ht hlt hval
    refine Ev2.step (fun k l => nat_divided.l0_eq k l _ _ _ _ _ _) (Ev2.neg (dF (by omega)) ?_)
    rw [List.drop_zero] at hlt hval
    rw [List.drop_zero, List.drop_zero] at hval
    have eq : val u0 / val v = val q := by rw [hval, Nat.mul_comm, Nat.mul_add_div hV, Nat.div_eq_of_lt hlt, Nat.add_zero]
    have er : val u0 % val v = val u := by rw [hval, Nat.mul_comm, Nat.mul_add_mod, Nat.mod_eq_of_lt hlt]
    rw [eq, er]
    refine Ev2.call (trim_ev hq (by unfold Lb; omega)) (Ev2.pos ⟨by omega, by omega⟩ ?_)
    rw [Int.toNat_natCast]
    have hvW := val_lt hv
    rw [hvl] at hvW
    have e2 : val (u.take n) = val u := by
      have h1 := val_take_drop u n
      have : val (u.drop n) = 0 := by
        rcases Nat.eq_zero_or_pos (val (u.drop n)) with h | h
        · exact h
        · have := Nat.mul_le_mul_left (18446744073709551616 ^ n) h; omega
      rw [this] at h1; omega
    have hr := right_ev (hu.take n) (by unfold Lb; simp; omega) s (by omega)
    rw [e2] at hr
    exact Ev2.call hr (Ev2.some _)
  | succ m ih =>
    intro q u hm hq hql hu hul' ht hlt hval
    refine Ev2.step (fun k l => nat_divided.l0_eq k l _ _ _ _ _ _) ?_
    have hvW := val_lt hv
    rw [hvl] at hvW
    -- the window
    have hz : val (u.drop (m + n + 1)) = 0 := by
      have h1 := val_take_drop (u.drop (m + 1)) n
      rw [List.drop_drop, show m + 1 + n = m + n + 1 by omega] at h1
      rcases Nat.eq_zero_or_pos (val (u.drop (m + n + 1))) with h | h
      · exact h
      · have := Nat.mul_le_mul_left (18446744073709551616 ^ n) h; omega
    have hwl : ((u.drop m).take (n + 1)).length = n + 1 := by simp; omega
    have hwv : val ((u.drop m).take (n + 1)) = val (u.drop m) := by
      have h1 := val_take_drop (u.drop m) (n + 1)
      rw [List.drop_drop, show m + (n + 1) = m + n + 1 by omega, hz] at h1
      omega
    have hum : u.getD m 0 = u0.getD m 0 := by
      have e1 : (u.take (m + 1)).getD m 0 = (u0.take (m + 1)).getD m 0 := by rw [ht]
      simpa [List.getD_eq_getElem?_getD, List.getElem?_take] using e1
    have d1 := drop_val u (i := m) (by omega)
    have d0 := drop_val u0 (i := m) (by omega)
    rw [← hum] at d0
    have hx := getD_toNat_lt hu m
    have hb : val ((u.drop m).take (n + 1)) < 18446744073709551616 * val v := by rw [hwv, d1]; omega
    obtain ⟨p, a1, a2, a3, a4⟩ := digit_ev ((hu.drop m).take (n + 1)) hv hwl hvl (by omega) h2 hV hb
    have e1 : IntKind.i64.wrap (((m + 1 : Nat) : Int) - 1 + (n : Int)) = ((m + n : Nat) : Int) := by rw [wrapI] <;> omega
    have e2 : IntKind.i64.wrap (((m + n : Nat) : Int) + 1) = ((m + n + 1 : Nat) : Int) := succ_i _ (by omega)
    have e3 : (((m + 1 : Nat) : Int) - 1) = (m : Int) := by omega
    have e4 : IntKind.i64.wrap ((m : Int) - 1) = (m : Int) - 1 := by rw [wrapI] <;> omega
    rw [e1, e2, e3, e4, Int.toNat_natCast, Int.toNat_natCast, show m + n + 1 - m = n + 1 by omega]
    refine Ev2.pos (dT (by omega)) (Ev2.pos ⟨by omega, by omega, by omega⟩ (Ev2.call a4 (Ev2.pos ⟨by omega, by omega⟩ ?_)))
    have dm := Nat.div_add_mod (val ((u.drop m).take (n + 1))) (val v)
    have ml := Nat.mod_lt (val ((u.drop m).take (n + 1))) hV
    have hQ : val ((u.drop m).take (n + 1)) / val v < 18446744073709551616 := by rw [Nat.div_lt_iff_lt_mul hV]; exact hb
    rw [hwv] at *
    generalize hqq : val (u.drop m) / val v = Q at *
    generalize hrr : val (u.drop m) % val v = R at *
    have hlow : (u.take m ++ (p ++ u.drop (m + (n + 1)))).take m = u.take m := by
      rw [List.take_append_of_le_length (by simp; omega)]; rw [List.take_take]; simp
    have hhigh : val ((u.take m ++ (p ++ u.drop (m + (n + 1)))).drop m) = R := by
      rw [List.drop_append_of_le_length (by simp; omega), List.drop_of_length_le (l := u.take m) (by simp; omega), List.nil_append, val_append, show m + (n + 1) = m + n + 1 by omega, hz, a3]; simp
    refine ih (q.set m (Q : Int)) _ (by omega) (hq.set _ (Int.natCast_nonneg _) (Int.ofNat_lt.2 hQ)) (by simp [hql]) (((hu.take m).append (a1.append (hu.drop _)))) (by simp; omega) ?_ (by rw [hhigh]; exact ml) ?_
    · rw [hlow]
      have := congrArg (List.take m) ht
      simpa [List.take_take] using this
    · rw [hhigh, val_drop_set q (by omega), Int.toNat_natCast, d0, hval]
      rw [d1] at dm
      generalize val (q.drop (m + 1)) = Z at *
      generalize val (u.drop (m + 1)) = Y at *
      grind
end Go.Proofs.YtbaaggmicpigeaaDoor.X
