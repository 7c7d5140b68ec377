/- Plain law: layer 12's calls, as plain functions; the reference's Open. Conditions: the format is one of the four, the patterns are of its width, the mode is one of the six. -/
import Derived.Test.YtoeedodjldlalaaDoorWhA
namespace Go.Proofs.YtoeedodjldlalaaDoor.X
open Go Go.Rex
set_option linter.unusedVariables false

theorem xor_top {K n : Nat} (hK : K < 2 ^ n) : (K ^^^ 2 ^ n = K + 2 ^ n) ∧ ((K + 2 ^ n) ^^^ 2 ^ n = K) := by
  have e : K ^^^ 2 ^ n = K + 2 ^ n := by
    rw [Nat.xor_comm, Nat.add_comm]
    apply Nat.eq_of_testBit_eq
    intro j
    have hor := Nat.two_pow_add_eq_or_of_lt hK 1
    rw [Nat.mul_one] at hor
    rw [hor, Nat.testBit_xor, Nat.testBit_or, Nat.testBit_two_pow]
    by_cases hj : n = j
    · subst hj
      rw [Nat.testBit_lt_two_pow hK]; simp
    · simp [hj]
  refine ⟨e, ?_⟩
  rw [← e, Nat.xor_assoc, Nat.xor_self, Nat.xor_zero]
theorem xorK_nat' (x y : Nat) (hx : x < 18446744073709551616) (hy : y < 18446744073709551616) : xorK .u64 (x : Int) (y : Int) = ((x ^^^ y : Nat) : Int) := by
  have hxy : x ^^^ y < 18446744073709551616 := Nat.xor_lt_two_pow (n := 64) hx hy
  unfold xorK
  show IntKind.u64.wrap ((BitVec.ofInt 64 (x : Int) ^^^ BitVec.ofInt 64 (y : Int)).toNat : Int) = _
  rw [BitVec.toNat_xor, ofInt_nat _ hx, ofInt_nat _ hy, wrapUn hxy]
section
variable {f : Int} {W P : Nat} {em ex : Int} (h : Fm f W P em ex)
include h
omit h in
theorem shl_one {n : Nat} (hn : n < 64) : shlK .u64 1 (n : Int) = ((2 ^ n : Nat) : Int) := by
  have h1 : 2 ^ n ≤ 2 ^ 63 := pow_mono2 (by omega)
  have h63 : (2 : Nat) ^ 63 = 9223372036854775808 := rfl
  have := shlK_exact 1 n (by omega) (by omega)
  rwa [Nat.one_mul, show ((1 : Nat) : Int) = 1 from rfl] at this
theorem wref_ev {m : Int} (hm : Md m) : Ev (fun k => whole_refuses k f m) 0 := by
  have hm0 := hm.m0; have hm5 := hm.m5
  exact Ev.congr (fun k => whole_refuses_eq k _ _) (Ev.bind (Ev.of fun k => params_at h k) (Ev.neg (nF rfl) (Ev.neg (dF (by omega)) (Ev.neg (dF (by omega)) (Ev.some _)))))
/-- The program's own significand. -/
theorem wfin_ev {a : Nat} (ha : a < 2 ^ W) (hi : pk W a < infP W P) : Ev (fun k => whole_finite k f (a : Int)) (ps W a, (((fN P (pk W a / 2 ^ (P - 1)) (pk W a % 2 ^ (P - 1)) : Nat) : Int), (fQ (pk W a / 2 ^ (P - 1)) : Int) + (em - (P : Int) + 1))) := by
  have h1 := h.w64; have h2 := h.p8; have h3 := h.wp; have h53 := h.p53; have m0 := h.m0; have m1 := h.m1; have h11 := h.wp11
  obtain ⟨f1, f2, f3⟩ := field_top h ha
  have hwp : 2 ^ (W - P) ≤ 2 ^ 11 := pow_mono2 (by omega)
  have h211 : (2 : Nat) ^ 11 = 2048 := rfl
  have hpp := Nat.two_pow_pos (P - 1)
  have hF := Nat.mod_lt (pk W a) hpp
  have h52 : 2 ^ (P - 1) ≤ 2 ^ 52 := pow_mono2 (by omega)
  have h52' : (2 : Nat) ^ 52 = 4503599627370496 := rfl
  have el : IntKind.i64.wrap ((IntKind.i64.wrap (em - (P : Int))) + 1) = em - (P : Int) + 1 := by rw [wrapI (x := em - (P : Int)) (by omega) (by omega), wrapI (by omega) (by omega)]
  have q2 : IntKind.i64.wrap ((P : Int) - 1) = ((P - 1 : Nat) : Int) := by rw [wrapI (by omega) (by omega)]; omega
  refine Ev.congr (fun k => whole_finite_eq k _ _) (Ev.bind (Ev.of fun k => params_at h k) (Ev.bind (Ev.of fun k => fields_pk h ha k) ?_))
  dsimp only
  rw [el, q2, shl_one (by omega)]
  unfold fN fQ
  by_cases c0 : pk W a / 2 ^ (P - 1) = 0
  · rw [if_pos c0, if_pos c0]
    exact Ev.neg (dF (by omega)) (Ev.eq (Ev.some _) (by rw [Int.natCast_zero, Int.zero_add]))
  · rw [if_neg c0, if_neg c0]
    have eo : orK IntKind.u64 ((pk W a % 2 ^ (P - 1) : Nat) : Int) ((2 ^ (P - 1) : Nat) : Int) = ((pk W a % 2 ^ (P - 1) + 2 ^ (P - 1) : Nat) : Int) := by
      rw [orK_add' _ _ (P - 1) hF (Nat.mod_self _) (by omega)]
    have hE0 : (0 : Int) ≤ ((pk W a / 2 ^ (P - 1) : Nat) : Int) := Int.natCast_nonneg _
    have hE1 : pk W a / 2 ^ (P - 1) < 2 ^ (W - P) := f2
    have ee : IntKind.i64.wrap (em - (P : Int) + 1 + IntKind.i64.wrap (IntKind.i64.wrap ((pk W a / 2 ^ (P - 1) : Nat) : Int) - 1)) = ((pk W a / 2 ^ (P - 1) - 1 : Nat) : Int) + (em - (P : Int) + 1) := by
      rw [wrapI (x := ((pk W a / 2 ^ (P - 1) : Nat) : Int)) (by omega) (by omega), wrapI (x := ((pk W a / 2 ^ (P - 1) : Nat) : Int) - 1) (by omega) (by omega), wrapI (by omega) (by omega)]; omega
    rw [eo, ee]
    exact Ev.pos (dT (by omega)) (Ev.pos (by omega) (Ev.some _))
/-- A short whole number, put into the format. -/
theorem parts_whole {m : Int} (hm : Md m) {u K : Nat} (hu : u < 18446744073709551616) (hK : plV P K = u * wD P em) (hi : K < infP W P) (s : Bool) : Ev (fun k => round_Parts k f m s 0 (u : Int) 0 false) (((K + sgB s W : Nat) : Int), ((0 : Int), (0 : Int))) := by
  have h8 := h.p8; have m0 := h.m0; have m1 := h.m1
  have pe := Parts_ev h hm (hi := 0) (lo := u) (by decide) hu 0 s false
  refine Ev.eq pe ?_
  unfold paR
  rw [if_neg (by omega), if_neg (by simp), Nat.mul_zero, Nat.add_zero]
  by_cases c0 : u = 0
  · rw [c0, Nat.zero_mul] at hK
    have hK0 := (plV_zero (P := P) (by omega)).1 hK
    rw [if_pos c0, hK0, Nat.zero_add]
  · rw [if_neg c0]
    have eA : qA u 0 false (em - (P : Int) + 1) = plV P K * 1 := by
      unfold qA nuN
      rw [if_neg (by simp), Nat.mul_one, hK]
      unfold wD; rw [show (0 : Int) - (em - (P : Int) + 1) = -(em - (P : Int) + 1) by omega]
    have eB : qB 0 false (em - (P : Int) + 1) = 1 := by
      unfold qB nuD
      rw [if_neg (by simp), p2_neg (by omega)]
    rw [eA, eB, rnOut_rep (W := W) (by omega) (by decide) hi m s]
/-- The bits and flags that Integral answers. -/
def inR (W P : Nat) (em m : Int) (c a N : Int) (s tell : Bool) (p : Nat) : Int × (Int × Int) :=
  if c = 0 then (N, (1, 0)) else if c = 1 then (N, (0, 0)) else if c = 2 ∨ c = 9 ∨ c = 5 ∨ c = 6 then (a, (0, 0))
  else (((wK P em m s p + sgB s W : Nat) : Int), ((if tell = true ∧ wL P em p = true then 16 else 0), 0))
theorem Integral_ev {m : Int} (hm : Md m) {a : Nat} (ha : a < 2 ^ W) (tell : Bool) : Ev (fun k => whole_Integral k f m (a : Int) tell) (inR W P em m (clsOf W P (pk W a) (ps W a)) (a : Int) ((infP W P + 2 ^ (P - 2) : Nat) : Int) (ps W a) tell (pk W a)) := by
  have h1 := h.w64; have h2 := h.p8; have h3 := h.wp; have h53 := h.p53; have m0 := h.m0; have m1 := h.m1
  have i1 : 0 < infP W P := Nat.mul_pos (by have := (eTop_le h).2; omega) (Nat.two_pow_pos _)
  have hip := infP_le h
  have hpp := Nat.two_pow_pos (P - 1)
  obtain ⟨p1, p2, p3, p4, p5, p6⟩ := pat_parts h ha
  have j0 : pk W a < infP W P → Ev (fun k => whole_Integral.j0 k f m (a : Int) tell) (((wK P em m (ps W a) (pk W a) + sgB (ps W a) W : Nat) : Int), ((if tell = true ∧ wL P em (pk W a) = true then 16 else 0), (0 : Int))) := fun hi => by
    obtain ⟨k1, k2⟩ := wK_ok h (m := m) (ps W a) hi
    obtain ⟨t, t1, t2, t3, t4⟩ := wD_pow h
    obtain ⟨s1, s2⟩ := sig_ex h (pk W a) p5
    have hv := plV_pat (P := P) (by omega) (pk W a)
    have hP53 : 2 ^ P ≤ 2 ^ 53 := pow_mono2 h53
    refine Ev.congr (fun k => whole_Integral.j0_eq k _ _ _ _) (Ev.bind (wfin_ev h ha hi) ?_)
    dsimp only
    have hKv := k1
    generalize fN P (pk W a / 2 ^ (P - 1)) (pk W a % 2 ^ (P - 1)) = N at *
    generalize fQ (pk W a / 2 ^ (P - 1)) = q at *
    by_cases c : t ≤ q
    · have he : plV P (pk W a) = N * 2 ^ (q - t) * 2 ^ t := by rw [Nat.mul_assoc, ← Nat.pow_add, show q - t + t = q by omega, hv]
      have l0 : wL P em (pk W a) = false := by
        unfold wL
        rw [decide_eq_false]
        intro g; apply g
        rw [t1, he]; exact lftN_zero.2 (Nat.mul_mod_left _ _)
      have hu : wU P em m (ps W a) (pk W a) * wD P em = plV P (pk W a) := by
        unfold wU cutN
        rw [t1, he, Nat.mul_mod_left, Nat.mul_div_cancel _ (Nat.two_pow_pos t)]
        have : lft 0 (2 ^ t) = 0 := by unfold lft; rw [if_pos rfl]
        rw [this, chs_zero]
      rw [hu] at k1
      have hk : wK P em m (ps W a) (pk W a) = pk W a := plV_inj (by omega) k1
      rw [l0, hk, ← p4, if_neg (by simp)]
      exact Ev.pos (dT (by omega)) (Ev.some _)
    · have hu : wU P em m (ps W a) (pk W a) = cutN m (ps W a) N (2 ^ (t - q)) := by
        unfold wU
        rw [t1, ← hv]
        refine cutN_cross m (ps W a) (Nat.two_pow_pos _) (Nat.two_pow_pos _) ?_
        rw [Nat.mul_assoc, ← Nat.pow_add, show q + (t - q) = t by omega]
      have hl : wL P em (pk W a) = decide (lftN N (2 ^ (t - q)) ≠ 0) := by
        unfold wL
        rw [t1, ← hv, lftN_cross (Nat.two_pow_pos _) (Nat.two_pow_pos (t - q)) (by rw [Nat.mul_assoc, ← Nat.pow_add, show q + (t - q) = t by omega])]
      have cu := fun k => wcut_ev hm (n := N) (by omega) (t := t - q) (by omega) (by omega) (ps W a) k
      rw [← hu, ← hl] at cu
      have huS : wU P em m (ps W a) (pk W a) < 18446744073709551616 := by
        rw [hu]
        have h1 := chs_le m (ps W a) (N / 2 ^ (t - q)) (lft (N % 2 ^ (t - q)) (2 ^ (t - q)))
        have h2 := Nat.div_le_self N (2 ^ (t - q))
        have h53' : (2 : Nat) ^ 53 = 9007199254740992 := rfl
        unfold cutN; omega
      have pw := parts_whole h hm huS k1 k2 (ps W a)
      have j1 : ∀ x3 x5 x6 : Int, Ev (fun k => whole_Integral.j1 k f m ((wU P em m (ps W a) (pk W a) : Nat) : Int) x3 (ps W a) x5 x6) (((wK P em m (ps W a) (pk W a) + sgB (ps W a) W : Nat) : Int), (x3, (0 : Int))) := fun x3 x5 x6 => Ev.congr (fun k => whole_Integral.j1_eq k _ _ _ _ _ _ _) (Ev.bind pw (Ev.some _))
      have ee : (q : Int) + (em - (P : Int) + 1) = -((t - q : Nat) : Int) := by omega
      rw [ee]
      refine Ev.neg (dF (by omega)) (Ev.bind (Ev.of cu) ?_)
      cases wL P em (pk W a)
      · rw [if_neg (by simp)]
        exact Ev.neg (by simp) (j1 _ _ _)
      · cases tell
        · rw [if_neg (by simp)]; exact Ev.pos rfl (Ev.neg (by simp) (j1 _ _ _))
        · rw [if_pos (by simp)]; exact Ev.pos rfl (Ev.pos rfl (j1 _ _ _))
  have cl := fun k => class_pk h ha k
  have nn := fun k => nan_at h k
  refine Ev.congr (fun k => whole_Integral_eq k _ _ _ _) (Ev.bind (wref_ev h hm) (Ev.neg (nF rfl) (Ev.bind (Ev.of cl) (Ev.neg (nF rfl) (Ev.bind (Ev.of nn) ?_)))))
  obtain ⟨c, hc, hcc⟩ := cls_all (W := W) (P := P) (p := pk W a) (neg := ps W a) i1
  rw [hc]
  clear cl nn hc
  generalize ((infP W P + 2 ^ (P - 2) : Nat) : Int) = N at *
  unfold inR
  rcases hcc with ⟨rfl, -⟩ | ⟨rfl, -⟩ | ⟨rfl, -⟩ | ⟨rfl, -⟩ | ⟨rfl, -⟩ | ⟨rfl, -⟩ | ⟨hc, -, hi⟩
  · exact Ev.pos rfl (Ev.some _)
  · exact Ev.neg (by decide) (Ev.pos rfl (Ev.some _))
  · exact Ev.neg (by decide) (Ev.neg (by decide) (Ev.pos rfl (Ev.pos rfl (Ev.some _))))
  · exact Ev.neg (by decide) (Ev.neg (by decide) (Ev.neg (by decide) (Ev.pos rfl (Ev.pos rfl (Ev.some _)))))
  · exact Ev.neg (by decide) (Ev.neg (by decide) (Ev.neg (by decide) (Ev.neg (by decide) (Ev.pos rfl (Ev.pos rfl (Ev.some _))))))
  · exact Ev.neg (by decide) (Ev.neg (by decide) (Ev.neg (by decide) (Ev.neg (by decide) (Ev.neg (by decide) (Ev.pos rfl (Ev.some _))))))
  · rcases hc with rfl | rfl | rfl | rfl <;>
      exact Ev.neg (by decide) (Ev.neg (by decide) (Ev.neg (by decide) (Ev.neg (by decide) (Ev.neg (by decide) (Ev.neg (by decide) (j0 hi))))))
end
end Go.Proofs.YtoeedodjldlalaaDoor.X
