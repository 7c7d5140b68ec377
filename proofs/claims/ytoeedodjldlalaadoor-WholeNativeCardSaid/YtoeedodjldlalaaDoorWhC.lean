/- Plain law: layer 12's ToInt and FromInt, the law's own right and awake. Conditions: the format is one of the four, the patterns are of its width, the mode is one of the six. -/
import Derived.Test.YtoeedodjldlalaaDoorWhB
namespace Go.Proofs.YtoeedodjldlalaaDoor.X
open Go Go.Rex
set_option linter.unusedVariables false

/-! ### Kinds of integers -/
def kBel (κ : Int) : Nat := if κ = 0 then 2147483648 else if κ = 1 then 9223372036854775808 else 0
def kMost (κ : Int) : Nat := if κ = 0 then 2147483647 else if κ = 1 then 9223372036854775807 else if κ = 2 then 4294967295 else 18446744073709551615
theorem kinds_at {κ : Int} (h0 : 0 ≤ κ) (h3 : κ ≤ 3) : kindsT.getD κ.toNat (0, 0) = ((kBel κ : Int), (kMost κ : Int)) := by
  have : κ = 0 ∨ κ = 1 ∨ κ = 2 ∨ κ = 3 := by omega
  rcases this with rfl | rfl | rfl | rfl <;> rfl
theorem kB_lt (κ : Int) : kBel κ < 18446744073709551616 ∧ kMost κ < 18446744073709551616 := by
  unfold kBel kMost
  constructor
  · split <;> (try split) <;> decide
  · split <;> (try split) <;> (try split) <;> decide
/-- The 64 bits of the opposite. -/
def negU (n : Nat) : Int := IntKind.u64.wrap (0 - (n : Int))
/-- What ToInt answers: by class, sign, whole number, rest. -/
def toR (κ c : Int) (s : Bool) (U : Nat) (lost : Bool) : Int × (Int × Int) :=
  if c = 0 ∨ c = 1 ∨ c = 9 then ((kMost κ : Int), (1, 0)) else if c = 2 then (negU (kBel κ), (1, 0))
  else if (if s then kBel κ else kMost κ) < U then ((if s then negU (kBel κ) else (kMost κ : Int)), (1, 0))
  else ((if s then negU U else (U : Int)), ((if lost then 16 else 0), 0))
section
variable {f : Int} {W P : Nat} {em ex : Int} (h : Fm f W P em ex)
include h
omit h in
theorem wend_ev (κ : Int) (s : Bool) : Ev (fun k => whole_end k (kBel κ : Int) (kMost κ : Int) s) (if s then negU (kBel κ) else (kMost κ : Int)) := by
  refine Ev.congr (fun k => whole_end_eq k _ _ _) ?_
  cases s
  · exact Ev.neg (by simp) (Ev.some _)
  · exact Ev.pos rfl (Ev.some _)
omit h in
theorem toint_j3 (κ : Int) (U : Nat) (lost s : Bool) (x y : Int) : Ev (fun k => whole_ToInt.j3 k (U : Int) lost (kBel κ : Int) (kMost κ : Int) s x y) (toR κ 8 s U lost) := by
  have we := wend_ev κ s
  have e8 : toR κ 8 s U lost = if (if s then kBel κ else kMost κ) < U then ((if s then negU (kBel κ) else (kMost κ : Int)), (1, 0)) else ((if s then negU U else (U : Int)), ((if lost then 16 else 0), 0)) := by
    unfold toR; rw [if_neg (by decide), if_neg (by decide)]
  have j4t : Ev (fun k => whole_ToInt.j4 k (U : Int) lost true (kBel κ : Int) (kMost κ : Int) s x y) ((if s then negU (kBel κ) else (kMost κ : Int)), (1, 0)) := Ev.congr (fun k => whole_ToInt.j4_eq k _ _ _ _ _ _ _ _) (Ev.pos rfl (Ev.bind we (Ev.some _)))
  have j4f : Ev (fun k => whole_ToInt.j4 k (U : Int) lost false (kBel κ : Int) (kMost κ : Int) s x y) ((if s then negU U else (U : Int)), ((if lost then 16 else 0), 0)) := by
    refine Ev.congr (fun k => whole_ToInt.j4_eq k _ _ _ _ _ _ _ _) (Ev.neg (by simp) (Ev.congr (fun k => whole_ToInt.j5_eq k _ _ _ _ _) ?_))
    cases s <;> cases lost
    · exact Ev.neg (by simp) (Ev.neg (by simp) (Ev.some _))
    · exact Ev.neg (by simp) (Ev.pos rfl (Ev.some _))
    · exact Ev.pos rfl (Ev.neg (by simp) (Ev.some _))
    · exact Ev.pos rfl (Ev.pos rfl (Ev.some _))
  rw [e8]
  refine Ev.congr (fun k => whole_ToInt.j3_eq k _ _ _ _ _ _ _) ?_
  cases s
  · refine Ev.pos rfl ?_
    show Ev _ (if kMost κ < U then _ else _)
    by_cases c : kMost κ < U
    · rw [if_pos c]; exact Ev.pos (dT (by omega)) j4t
    · rw [if_neg c]; exact Ev.neg (dF (by omega)) (Ev.neg (by simp) j4f)
  · refine Ev.neg (by simp) (Ev.pos rfl ?_)
    show Ev _ (if kBel κ < U then _ else _)
    by_cases c : kBel κ < U
    · rw [if_pos c, decide_eq_true (show (U : Int) > (kBel κ : Int) by omega)]; exact j4t
    · rw [if_neg c, decide_eq_false (show ¬ (U : Int) > (kBel κ : Int) by omega)]; exact j4f
theorem ToInt_ev {m κ : Int} (hm : Md m) (hk0 : 0 ≤ κ) (hk3 : κ ≤ 3) {a : Nat} (ha : a < 2 ^ W) : Ev (fun k => whole_ToInt k f m κ (a : Int)) (toR κ (clsOf W P (pk W a) (ps W a)) (ps W a) (wU P em m (ps W a) (pk W a)) (wL P em (pk W a))) := by
  have h1 := h.w64; have h2 := h.p8; have h3 := h.wp; have h53 := h.p53; have m0 := h.m0; have m1 := h.m1
  have i1 : 0 < infP W P := Nat.mul_pos (by have := (eTop_le h).2; omega) (Nat.two_pow_pos _)
  obtain ⟨p1, p2, p3, p4, p5, p6⟩ := pat_parts h ha
  obtain ⟨kb, km⟩ := kB_lt κ
  have j2 : pk W a < infP W P → Ev (fun k => whole_ToInt.j2 k f m (a : Int) (kBel κ : Int) (kMost κ : Int)) (toR κ 8 (ps W a) (wU P em m (ps W a) (pk W a)) (wL P em (pk W a))) := fun hi => by
    obtain ⟨t, t1, t2, t3, t4⟩ := wD_pow h
    obtain ⟨s1, s2⟩ := sig_ex h (pk W a) p5
    have hv := plV_pat (P := P) (by omega) (pk W a)
    have hP53 : 2 ^ P ≤ 2 ^ 53 := pow_mono2 h53
    have h53' : (2 : Nat) ^ 53 = 9007199254740992 := rfl
    refine Ev.congr (fun k => whole_ToInt.j2_eq k _ _ _ _ _) (Ev.bind (wfin_ev h ha hi) ?_)
    dsimp only
    have hq0 : pk W a = 0 → fQ (pk W a / 2 ^ (P - 1)) = 0 := fun g => by rw [g, Nat.zero_div]; rfl
    generalize fN P (pk W a / 2 ^ (P - 1)) (pk W a % 2 ^ (P - 1)) = N at *
    generalize fQ (pk W a / 2 ^ (P - 1)) = q at *
    by_cases c : t ≤ q
    · have he : plV P (pk W a) = N * 2 ^ (q - t) * 2 ^ t := by rw [Nat.mul_assoc, ← Nat.pow_add, show q - t + t = q by omega, hv]
      have l0 : wL P em (pk W a) = false := by
        unfold wL
        rw [decide_eq_false]
        intro g; apply g
        rw [t1, he]; exact lftN_zero.2 (Nat.mul_mod_left _ _)
      have hu : wU P em m (ps W a) (pk W a) = N * 2 ^ (q - t) := by
        unfold wU cutN
        rw [t1, he, Nat.mul_mod_left, Nat.mul_div_cancel _ (Nat.two_pow_pos t)]
        have : lft 0 (2 ^ t) = 0 := by unfold lft; rw [if_pos rfl]
        rw [this, chs_zero]
      have ee : (q : Int) + (em - (P : Int) + 1) = ((q - t : Nat) : Int) := by omega
      rw [l0, hu, ee]
      have hbN : blen N ≤ 53 := blen_le_iff.2 (by omega)
      refine Ev.neg (dF (by omega)) (Ev.bind (Ev.of fun k => len64 k N (by omega)) ?_)
      have ew : IntKind.i64.wrap (((blen N : Nat) : Int) + ((q - t : Nat) : Int)) = ((blen N + (q - t) : Nat) : Int) := by rw [wrapI (by omega) (by omega)]; omega
      rw [ew]
      by_cases c2 : 64 < blen N + (q - t)
      · have hN0 : N ≠ 0 ∨ N = 0 := by omega
        by_cases z : N = 0
        · -- cannot be: a zero's exponent is the least
          have hz : plV P (pk W a) = 0 := by rw [← hv, z, Nat.zero_mul]
          have hp0 := (plV_zero (P := P) (by omega)).1 hz
          exfalso
          rw [z, blen_zero] at c2
          have := hq0 hp0
          omega
        · have b2 := blen_le z
          have bp := blen_pos z
          have hbig : 18446744073709551616 ≤ N * 2 ^ (q - t) := by
            have h1 : 2 ^ 64 ≤ 2 ^ (blen N - 1 + (q - t)) := pow_mono2 (by omega)
            have h2 : 2 ^ (blen N - 1 + (q - t)) ≤ N * 2 ^ (q - t) := by rw [Nat.pow_add]; exact Nat.mul_le_mul_right _ b2
            have h64 : (2 : Nat) ^ 64 = 18446744073709551616 := rfl
            omega
          have e8 : toR κ 8 (ps W a) (N * 2 ^ (q - t)) false = ((if ps W a then negU (kBel κ) else (kMost κ : Int)), (1, 0)) := by
            unfold toR
            rw [if_neg (by decide), if_neg (by decide), if_pos]
            split <;> omega
          rw [e8]
          exact Ev.pos (dT (by omega)) (Ev.bind (wend_ev κ (ps W a)) (Ev.some _))
      · have hlt : N * 2 ^ (q - t) < 18446744073709551616 := by
          have h1 : N * 2 ^ (q - t) < 2 ^ (blen N + (q - t)) := by rw [Nat.pow_add]; exact (Nat.mul_lt_mul_right (Nat.two_pow_pos _)).2 (blen_lt N)
          have h2 : 2 ^ (blen N + (q - t)) ≤ 2 ^ 64 := pow_mono2 (by omega)
          have h64 : (2 : Nat) ^ 64 = 18446744073709551616 := rfl
          omega
        rw [shlK_exact _ _ (by omega) hlt]
        exact Ev.neg (dF (by omega)) (Ev.pos (by omega) (toint_j3 κ _ false (ps W a) _ _))
    · have hu : wU P em m (ps W a) (pk W a) = cutN m (ps W a) N (2 ^ (t - q)) := by
        unfold wU
        rw [t1, ← hv]
        refine cutN_cross m (ps W a) (Nat.two_pow_pos _) (Nat.two_pow_pos _) ?_
        rw [Nat.mul_assoc, ← Nat.pow_add, show q + (t - q) = t by omega]
      have hl : wL P em (pk W a) = decide (lftN N (2 ^ (t - q)) ≠ 0) := by
        unfold wL
        rw [t1, ← hv, lftN_cross (Nat.two_pow_pos _) (Nat.two_pow_pos (t - q)) (by rw [Nat.mul_assoc, ← Nat.pow_add, show q + (t - q) = t by omega])]
      have cu := fun k => wcut_ev hm (n := N) (by omega) (t := t - q) (by omega) (by omega) (ps W a) k
      rw [← hu, ← hl] at cu
      have ee : (q : Int) + (em - (P : Int) + 1) = -((t - q : Nat) : Int) := by omega
      rw [ee]
      exact Ev.pos (dT (by omega)) (Ev.bind (Ev.of cu) (toint_j3 κ _ _ (ps W a) _ _))
  have cl := fun k => class_pk h ha k
  refine Ev.congr (fun k => whole_ToInt_eq k _ _ _ _) (Ev.bind (wref_ev h hm) (Ev.neg (nF rfl) (Ev.neg (dF (by omega)) (Ev.neg (dF (by omega)) (Ev.congr (fun k => whole_ToInt.j0_eq k _ _ _ _) (Ev.bind (Ev.of cl) (Ev.neg (nF rfl) (Ev.pos ⟨by omega, by omega⟩ ?_))))))))
  rw [kinds_at hk0 hk3]
  obtain ⟨c, hc, hcc⟩ := cls_all (W := W) (P := P) (p := pk W a) (neg := ps W a) i1
  rw [hc]
  clear cl hc
  have j1f : ∀ x : Int, pk W a < infP W P → x ≠ 2 → Ev (fun k => whole_ToInt.j1 k f m (a : Int) x false (kBel κ : Int) (kMost κ : Int)) (toR κ 8 (ps W a) (wU P em m (ps W a) (pk W a)) (wL P em (pk W a))) := fun x hi hx => Ev.congr (fun k => whole_ToInt.j1_eq k _ _ _ _ _ _ _) (Ev.neg (by simp) (Ev.neg (bF hx) (j2 hi)))
  have j1t : ∀ x : Int, Ev (fun k => whole_ToInt.j1 k f m (a : Int) x true (kBel κ : Int) (kMost κ : Int)) ((kMost κ : Int), (1, 0)) := fun x => Ev.congr (fun k => whole_ToInt.j1_eq k _ _ _ _ _ _ _) (Ev.pos rfl (Ev.some _))
  rcases hcc with ⟨rfl, -⟩ | ⟨rfl, -⟩ | ⟨rfl, -⟩ | ⟨rfl, -⟩ | ⟨rfl, hp, -⟩ | ⟨rfl, hp, -⟩ | ⟨hc, -, hi⟩
  · exact Ev.pos rfl (j1t 0)
  · exact Ev.neg (by decide) (Ev.pos rfl (j1t 1))
  · refine Ev.neg (by decide) (Ev.neg (by decide) (Ev.congr (fun k => whole_ToInt.j1_eq k _ _ _ _ _ _ _) (Ev.neg (by decide) (Ev.pos rfl (Ev.some _)))))
  · exact Ev.neg (by decide) (Ev.neg (by decide) (j1t 9))
  · have e : toR κ 5 (ps W a) (wU P em m (ps W a) (pk W a)) (wL P em (pk W a)) = toR κ 8 (ps W a) (wU P em m (ps W a) (pk W a)) (wL P em (pk W a)) := rfl
    rw [e]
    exact Ev.neg (by decide) (Ev.neg (by decide) (j1f 5 (by omega) (by decide)))
  · have e : toR κ 6 (ps W a) (wU P em m (ps W a) (pk W a)) (wL P em (pk W a)) = toR κ 8 (ps W a) (wU P em m (ps W a) (pk W a)) (wL P em (pk W a)) := rfl
    rw [e]
    exact Ev.neg (by decide) (Ev.neg (by decide) (j1f 6 (by omega) (by decide)))
  · rcases hc with rfl | rfl | rfl | rfl
    · exact Ev.neg (by decide) (Ev.neg (by decide) (j1f 3 hi (by decide)))
    · exact Ev.neg (by decide) (Ev.neg (by decide) (j1f 4 hi (by decide)))
    · exact Ev.neg (by decide) (Ev.neg (by decide) (j1f 7 hi (by decide)))
    · exact Ev.neg (by decide) (Ev.neg (by decide) (j1f 8 hi (by decide)))
/-- Is the integer below zero; its size. -/
def inNeg (κ : Int) (x : Nat) : Bool := decide (0 < kBel κ) && decide (9223372036854775808 ≤ x)
def inMag (κ : Int) (x : Nat) : Nat := if inNeg κ x then 18446744073709551616 - x else x
theorem FromInt_ev {m κ : Int} (hm : Md m) (hk0 : 0 ≤ κ) (hk3 : κ ≤ 3) {x : Nat} (hx : x < 18446744073709551616) : Ev (fun k => whole_FromInt k f m κ (x : Int)) (if (if inNeg κ x then kBel κ else kMost κ) < inMag κ x then (0, (0, 7)) else paR W P em m (inNeg κ x) (inMag κ x) 0 false) := by
  have hm0 := hm.m0; have hm5 := hm.m5
  have sh : (shrK IntKind.u64 (x : Int) 63 == 1) = decide (9223372036854775808 ≤ x) := by
    rw [show (63 : Int) = ((63 : Nat) : Int) from rfl, shrK_nat _ _ (by decide), show (2 : Nat) ^ 63 = 9223372036854775808 from rfl]
    by_cases c : 9223372036854775808 ≤ x
    · rw [decide_eq_true c, show x / 9223372036854775808 = 1 by omega]; rfl
    · rw [decide_eq_false c, show x / 9223372036854775808 = 0 by omega]; rfl
  have hmag : inMag κ x < 18446744073709551616 := by
    unfold inMag inNeg
    by_cases c : (decide (0 < kBel κ) && decide (9223372036854775808 ≤ x)) = true
    · rw [if_pos c]; simp at c; omega
    · rw [if_neg c]; exact hx
  have pe := Parts_ev h hm (hi := 0) (lo := inMag κ x) (by decide) hmag 0 (inNeg κ x) false
  rw [Nat.mul_zero, Nat.add_zero] at pe
  have j4 : Ev (fun k => whole_FromInt.j4 k f m (inNeg κ x) (inMag κ x : Int)) (paR W P em m (inNeg κ x) (inMag κ x) 0 false) := Ev.congr (fun k => whole_FromInt.j4_eq k _ _ _ _) (Ev.bind pe (Ev.some _))
  have j3t : Ev (fun k => whole_FromInt.j3 k f m (inNeg κ x) (inMag κ x : Int) true) (0, (0, 7)) := Ev.congr (fun k => whole_FromInt.j3_eq k _ _ _ _ _) (Ev.pos rfl (Ev.some _))
  have j3f : Ev (fun k => whole_FromInt.j3 k f m (inNeg κ x) (inMag κ x : Int) false) (paR W P em m (inNeg κ x) (inMag κ x) 0 false) := Ev.congr (fun k => whole_FromInt.j3_eq k _ _ _ _ _) (Ev.neg (by simp) j4)
  have j2 : Ev (fun k => whole_FromInt.j2 k f m (inNeg κ x) (inMag κ x : Int) (kBel κ : Int) (kMost κ : Int)) (if (if inNeg κ x then kBel κ else kMost κ) < inMag κ x then (0, (0, 7)) else paR W P em m (inNeg κ x) (inMag κ x) 0 false) := by
    refine Ev.congr (fun k => whole_FromInt.j2_eq k _ _ _ _ _ _) ?_
    cases hn : inNeg κ x
    · rw [hn] at j3t j3f
      refine Ev.pos rfl ?_
      show Ev _ (if kMost κ < inMag κ x then _ else _)
      by_cases c : kMost κ < inMag κ x
      · rw [if_pos c]; exact Ev.pos (dT (by omega)) j3t
      · rw [if_neg c]; exact Ev.neg (dF (by omega)) (Ev.neg (by simp) j3f)
    · rw [hn] at j3t j3f
      refine Ev.neg (by simp) (Ev.pos rfl ?_)
      show Ev _ (if kBel κ < inMag κ x then _ else _)
      by_cases c : kBel κ < inMag κ x
      · rw [if_pos c, decide_eq_true (show (inMag κ x : Int) > (kBel κ : Int) by omega)]; exact j3t
      · rw [if_neg c, decide_eq_false (show ¬ (inMag κ x : Int) > (kBel κ : Int) by omega)]; exact j3f
  have j1 : Ev (fun k => whole_FromInt.j1 k f m (x : Int) (inNeg κ x) (kBel κ : Int) (kMost κ : Int)) (if (if inNeg κ x then kBel κ else kMost κ) < inMag κ x then (0, (0, 7)) else paR W P em m (inNeg κ x) (inMag κ x) 0 false) := by
    refine Ev.congr (fun k => whole_FromInt.j1_eq k _ _ _ _ _ _) ?_
    cases hn : inNeg κ x
    · have e : inMag κ x = x := by unfold inMag; rw [hn]; rfl
      rw [hn, e] at j2
      rw [e]
      exact Ev.neg (by simp) j2
    · have e : inMag κ x = 18446744073709551616 - x := by unfold inMag; rw [hn]; rfl
      have hx0 : 9223372036854775808 ≤ x := by unfold inNeg at hn; simp at hn; exact hn.2
      have ew : IntKind.u64.wrap (0 - (x : Int)) = ((18446744073709551616 - x : Nat) : Int) := by rw [wrap_u64]; omega
      rw [hn, e] at j2
      rw [e, ew]
      exact Ev.pos rfl j2
  refine Ev.congr (fun k => whole_FromInt_eq k _ _ _ _) (Ev.bind (wref_ev h hm) (Ev.neg (nF rfl) (Ev.neg (dF (by omega)) (Ev.neg (dF (by omega)) (Ev.congr (fun k => whole_FromInt.j0_eq k _ _ _ _) (Ev.pos ⟨by omega, by omega⟩ ?_))))))
  rw [kinds_at hk0 hk3]
  dsimp only
  rw [sh]
  by_cases c : 0 < kBel κ
  · have e : decide (9223372036854775808 ≤ x) = inNeg κ x := by unfold inNeg; rw [decide_eq_true c]; rfl
    rw [e]
    exact Ev.pos (dT (by omega)) j1
  · have e : false = inNeg κ x := by unfold inNeg; rw [decide_eq_false c]; rfl
    refine Ev.neg (dF (by omega)) (Ev.congr (fun k => ?_) j1)
    rw [← e]
end
theorem wk_ff : rnOut 32 24 0 false (4294967295 * 2 ^ 149) 1 = (1333788672, 16) := by
  have hb : blen (4294967295 * 2 ^ 149 / 1) = 180 + 1 := blen_is (by decide +kernel) (by decide +kernel)
  have hs : shf 24 (4294967295 * 2 ^ 149) 1 = 157 := by unfold shf; rw [hb]
  unfold rnOut rnd lftP tinyB
  rw [hs]
  decide +kernel
theorem awake12_ev : Ev (fun k => vernierlaw12_awake k) true := by
  have e1 : pk 32 1075838976 = 1075838976 := by decide +kernel
  have e2 : ps 32 1075838976 = false := by decide +kernel
  have e3 : pk 32 3223322624 = 1075838976 := by decide +kernel
  have e4 : ps 32 3223322624 = true := by decide +kernel
  have v5 : plV 24 1075838976 = 5 * 2 ^ 148 := by decide +kernel
  have v2 : plV 24 1073741824 = 2 * 2 ^ 149 := by decide +kernel
  have hD : wD 24 (-126) = 2 * 2 ^ 148 := by decide +kernel
  have hp := Nat.two_pow_pos 148
  have u0 : wU 24 (-126) 0 false 1075838976 = 2 := by unfold wU; rw [v5, hD, cutN_scale 0 false 5 2 hp]; decide
  have u2 : wU 24 (-126) 2 true 1075838976 = 2 := by unfold wU; rw [v5, hD, cutN_scale 2 true 5 2 hp]; decide
  have l0 : wL 24 (-126) 1075838976 = true := by unfold wL; rw [v5, hD, lftN_scale 5 2 hp]; decide
  have k0 : wK 24 (-126) 0 false 1075838976 = 1073741824 := by
    unfold wK
    rw [u0]
    exact flr_at' (P := 24) (by decide) (by rw [v2, hD, Nat.mul_comm 2 (2 * 2 ^ 148), Nat.mul_assoc, Nat.mul_comm (2 ^ 148) 2])
  have r1 := Integral_ev fm32 (m := 0) ⟨by decide, by decide⟩ (a := 1075838976) (by decide) true
  have r2 := ToInt_ev fm32 (m := 2) (κ := 0) ⟨by decide, by decide⟩ (by decide) (by decide) (a := 3223322624) (by decide)
  have r3 := FromInt_ev fm32 (m := 0) (κ := 2) ⟨by decide, by decide⟩ (by decide) (by decide) (x := 4294967295) (by decide)
  have c1 : clsOf 32 24 1075838976 false = 8 := by decide +kernel
  have c3 : clsOf 32 24 1075838976 true = 3 := by decide +kernel
  rw [e1, e2, c1] at r1
  rw [e3, e4, c3, u2, l0] at r2
  have x1 : inR 32 24 (-126) 0 8 1075838976 ((infP 32 24 + 2 ^ (24 - 2) : Nat) : Int) false true 1075838976 = ((1073741824 : Int), ((16 : Int), (0 : Int))) := by
    unfold inR
    rw [if_neg (by decide), if_neg (by decide), if_neg (by decide), k0, l0]; decide +kernel
  have x2 : toR 0 3 true 2 true = ((18446744073709551614 : Int), ((16 : Int), (0 : Int))) := by decide +kernel
  have n3 : inNeg 2 4294967295 = false := by decide
  have g3 : inMag 2 4294967295 = 4294967295 := by decide
  have x3 : (if (if inNeg 2 4294967295 then kBel 2 else kMost 2) < inMag 2 4294967295 then (0, (0, 7)) else paR 32 24 (-126) 0 (inNeg 2 4294967295) (inMag 2 4294967295) 0 false) = ((1333788672 : Int), ((16 : Int), (0 : Int))) := by
    rw [n3, g3, if_neg (by decide)]
    unfold paR
    rw [if_neg (by decide), if_neg (by decide), if_neg (by decide)]
    have hA : qA 4294967295 0 false (-126 - ((24 : Nat) : Int) + 1) = 4294967295 * 2 ^ 149 := by decide +kernel
    have hB : qB 0 false (-126 - ((24 : Nat) : Int) + 1) = 1 := by decide +kernel
    rw [hA, hB, wk_ff]
  rw [show ((1075838976 : Nat) : Int) = (1075838976 : Int) from rfl, x1] at r1
  rw [x2] at r2
  rw [x3] at r3
  refine Ev.congr (fun k => vernierlaw12_awake_eq k) (Ev.bind r1 (Ev.bind r2 (Ev.bind r3 (Ev.neg (nF rfl) (Ev.neg (nF rfl) (Ev.neg (nF rfl) (Ev.congr (fun k => vernierlaw12_awake.j0_eq k _ _ _ _ _ _) ?_)))))))
  exact Ev.pos rfl (Ev.pos rfl (Ev.pos rfl (Ev.pos rfl (Ev.pos rfl (Ev.some _)))))
end Go.Proofs.YtoeedodjldlalaaDoor.X
