/- Plain law: layer 11's remainder of any two patterns. Conditions: the format is one of the four, the patterns are of its width. -/
import Derived.Test.YtldjheckpophaaaDoorRemA
namespace Go.Proofs.YtldjheckpophaaaDoor.X
open Go Go.Rex
set_option linter.unusedVariables false

/-- Where there is nothing to divide. -/
def spR (c d a N : Int) : Int × (Int × (Bool × Int)) :=
  if (c == 0 || d == 0) = true then (N, (1, (true, 0))) else if (c == 1 || d == 1) = true then (N, (0, (true, 0)))
  else if (c == 9 || (c == 2 || (d == 6 || d == 5))) = true then (N, (1, (true, 0))) else if (d == 9 || (d == 2 || (c == 6 || c == 5))) = true then (a, (0, (true, 0))) else (0, (0, (false, 0)))
/-- The remainder of two patterns; r where both are numbers. -/
def spZ (c d a N : Int) (r : Int × (Int × (Int × Int))) : Int × (Int × (Int × Int)) :=
  if (c == 0 || d == 0) = true then (N, (0, (1, 0))) else if (c == 1 || d == 1) = true then (N, (0, (0, 0)))
  else if (c == 9 || (c == 2 || (d == 6 || d == 5))) = true then (N, (0, (1, 0))) else if (d == 9 || (d == 2 || (c == 6 || c == 5))) = true then (a, (0, (0, 0))) else r
theorem sp_at (k : Nat) (c d a N : Int) : (if (c == 0) = true then rem_special.j1 k a c d N true else rem_special.j1 k a c d N (d == 0)) = some (spR c d a N) := by
  have e1 : (if (c == 0) = true then rem_special.j1 k a c d N true else rem_special.j1 k a c d N (d == 0)) = rem_special.j1 k a c d N (c == 0 || d == 0) := by cases (c == 0) <;> simp
  have e2 : (if (c == 1) = true then rem_special.j2 k a c d N true else rem_special.j2 k a c d N (d == 1)) = rem_special.j2 k a c d N (c == 1 || d == 1) := by cases (c == 1) <;> simp
  have e3 : (if (c == 9) = true then rem_special.j3 k a c d N true else (if (c == 2) = true then rem_special.j3 k a c d N true else (if (d == 6) = true then rem_special.j3 k a c d N true else rem_special.j3 k a c d N (d == 5)))) = rem_special.j3 k a c d N (c == 9 || (c == 2 || (d == 6 || d == 5))) := by cases (c == 9) <;> cases (c == 2) <;> cases (d == 6) <;> simp
  have e4 : (if (d == 9) = true then rem_special.j4 k a true else (if (d == 2) = true then rem_special.j4 k a true else (if (c == 6) = true then rem_special.j4 k a true else rem_special.j4 k a (c == 5)))) = rem_special.j4 k a (d == 9 || (d == 2 || (c == 6 || c == 5))) := by cases (d == 9) <;> cases (d == 2) <;> cases (c == 6) <;> simp
  rw [e1, rem_special.j1_eq, e2, rem_special.j2_eq, e3, rem_special.j3_eq, e4, rem_special.j4_eq, rem_special.j5_eq]
  unfold spR
  split
  · rfl
  · split
    · rfl
    · split
      · rfl
      · split <;> rfl
section
variable {f : Int} {W P : Nat} {em ex : Int} (h : Fm f W P em ex)
include h
theorem special_ev {a b : Nat} (ha : a < 2 ^ W) (hb : b < 2 ^ W) : Ev (fun k => rem_special k f (a : Int) (b : Int)) (spR (clsOf W P (pk W a) (ps W a)) (clsOf W P (pk W b) (ps W b)) (a : Int) ((infP W P + 2 ^ (P - 2) : Nat) : Int)) := by
  obtain ⟨p1, p2, p3, p4, p5, p6⟩ := pat_parts h ha
  obtain ⟨q1, q2, q3, q4, q5, q6⟩ := pat_parts h hb
  have ca1 : Ev (fun k => format_Check k f (a : Int)) 0 := Ev.of fun k => by rw [check_at h k a p6, if_pos ha]
  have cb1 : Ev (fun k => format_Check k f (b : Int)) 0 := Ev.of fun k => by rw [check_at h k b q6, if_pos hb]
  have e : (((List.replicate 2 (0 : Int)).set 0 (a : Int)).set 1 (b : Int)) = [(a : Int), (b : Int)] := rfl
  refine Ev.congr (fun k => rem_special_eq k _ _ _) (Ev.bind (Ev.of fun k => params_at h k) (Ev.neg (nF rfl) ?_))
  rw [e]
  have s2 : Ev2 (fun k n => rem_special.l0 k n f (a : Int) (b : Int) 2 2 [(a : Int), (b : Int)]) (spR (clsOf W P (pk W a) (ps W a)) (clsOf W P (pk W b) (ps W b)) (a : Int) ((infP W P + 2 ^ (P - 2) : Nat) : Int)) := by
    refine Ev2.step (fun k n => rem_special.l0_eq k n _ _ _ _ _ _) (Ev2.neg (by decide) (Ev2.call (Ev.of fun k => class_pk h ha k) (Ev2.call (Ev.of fun k => class_pk h hb k) (Ev2.call (Ev.of fun k => nan_at h k) (Ev2.of fun k n => ?_)))))
    exact sp_at k _ _ _ _
  have s1 : Ev2 (fun k n => rem_special.l0 k n f (a : Int) (b : Int) 2 1 [(a : Int), (b : Int)]) _ := Ev2.step (fun k n => rem_special.l0_eq k n _ _ _ _ _ _) (Ev2.pos (by decide) (Ev2.pos ⟨by decide, by simp⟩ (Ev2.call cb1 (Ev2.neg (nF rfl) s2))))
  have s0 : Ev2 (fun k n => rem_special.l0 k n f (a : Int) (b : Int) 2 0 [(a : Int), (b : Int)]) _ := Ev2.step (fun k n => rem_special.l0_eq k n _ _ _ _ _ _) (Ev2.pos (by decide) (Ev2.pos ⟨by decide, by simp⟩ (Ev2.call ca1 (Ev2.neg (nF rfl) s1))))
  exact s0.ev
omit h in
theorem odd_short {P k : Nat} (hP : 1 ≤ P) (hk : k ≠ 0) : oddN (plV P k) < 2 ^ P := by
  obtain ⟨q, u, k1, k2, k3⟩ := plV_step (P := P) hP k
  have hv : plV P k = u * 2 ^ q := by rw [k1]; exact plV_at hP k2 (Nat.le_of_lt k3)
  have hu : u ≠ 0 := by
    intro e
    have : plV P k = 0 := by rw [hv, e, Nat.zero_mul]
    exact hk ((plV_zero hP).1 this)
  rw [hv, (tz_mul_pow hu q).2]
  exact Nat.lt_of_le_of_lt (oddN_le u) k3
/-- Two numbers, in the lesser one's places. -/
theorem in_places {p q : Nat} (g1 : p ≠ 0 ∧ p < infP W P) (g2 : q ≠ 0 ∧ q < infP W P) :
    ∃ (A B c : Nat) (e : Int), A = oddN (plV P p) * p2 ((em - (P : Int) + 1 + (tz (plV P p) : Int)) - (em - (P : Int) + 1 + (tz (plV P q) : Int))) ∧ B = oddN (plV P q) * p2 ((em - (P : Int) + 1 + (tz (plV P q) : Int)) - (em - (P : Int) + 1 + (tz (plV P p) : Int))) ∧
      e = (if (em - (P : Int) + 1 + (tz (plV P q) : Int)) > (em - (P : Int) + 1 + (tz (plV P p) : Int)) then (em - (P : Int) + 1 + (tz (plV P p) : Int)) else (em - (P : Int) + 1 + (tz (plV P q) : Int))) ∧ c = p2 (e - (em - (P : Int) + 1)) ∧ em - (P : Int) + 1 ≤ e ∧ e ≤ em - (P : Int) + 1 + 2112 ∧ 0 < c ∧ 0 < B ∧ plV P p = A * c ∧ plV P q = B * c ∧ (B < 2 ^ P ∨ A < 2 ^ P) := by
  have hip := infP_le h
  have hpp := Nat.two_pow_pos (P - 1)
  have h8 := h.p8
  obtain ⟨w1, w2, w3, w4⟩ := plV_facts h g1.1 (by omega)
  obtain ⟨x1, x2, x3, x4⟩ := plV_facts h g2.1 (by omega)
  have e1 := oddN_mul w1
  have e2 := oddN_mul x1
  have s1 := odd_short (P := P) (by omega) g1.1
  have s2 := odd_short (P := P) (by omega) g2.1
  have o2 := oddN_ne x1
  refine ⟨_, _, _, _, rfl, rfl, rfl, rfl, ?_⟩
  generalize em - (P : Int) + 1 = l at *
  generalize oddN (plV P p) = x at *
  generalize oddN (plV P q) = y at *
  generalize tz (plV P p) = u at *
  generalize tz (plV P q) = v at *
  by_cases c : l + (v : Int) > l + (u : Int)
  · rw [if_pos c, show l + (u : Int) - (l + (v : Int)) = (u : Int) - (v : Int) by omega, show l + (v : Int) - (l + (u : Int)) = (v : Int) - (u : Int) by omega, show l + (u : Int) - l = (u : Int) by omega, p2_neg (show (u : Int) - (v : Int) ≤ 0 by omega), p2_nat]
    have hp := p2_pos ((v : Int) - (u : Int))
    refine ⟨by omega, by omega, Nat.two_pow_pos u, Nat.mul_pos (by omega) hp, by rw [Nat.mul_one]; exact e1.symm, ?_, .inr (by rw [Nat.mul_one]; exact s1)⟩
    rw [Nat.mul_assoc, ← e2]
    congr 1
    unfold p2
    rw [← Nat.pow_add]; congr 1; omega
  · rw [if_neg c, show l + (u : Int) - (l + (v : Int)) = (u : Int) - (v : Int) by omega, show l + (v : Int) - (l + (u : Int)) = (v : Int) - (u : Int) by omega, show l + (v : Int) - l = (v : Int) by omega, p2_neg (show (v : Int) - (u : Int) ≤ 0 by omega), p2_nat]
    refine ⟨by omega, by omega, Nat.two_pow_pos v, by omega, ?_, by rw [Nat.mul_one]; exact e2.symm, .inl (by rw [Nat.mul_one]; exact s2)⟩
    rw [Nat.mul_assoc, ← e1]
    congr 1
    unfold p2
    rw [← Nat.pow_add]; congr 1; omega
omit h in
theorem left_short {P A B : Nat} (near : Bool) (hB : 0 < B) (hs : B < 2 ^ P ∨ A < 2 ^ P) : leftR near A B < 2 ^ P := by
  have := Nat.two_pow_pos P
  rcases leftR_both near (A := A) hB with ⟨h1, h2⟩ | ⟨h1, h2⟩
  · rcases hs with hs | hs <;> omega
  · omega
/-- What is left is a number of the format. -/
theorem left_place {p q : Nat} (near : Bool) (g1 : p ≠ 0 ∧ p < infP W P) (g2 : q ≠ 0 ∧ q < infP W P) : ∃ K, plV P K = leftR near (plV P p) (plV P q) ∧ K < infP W P := by
  have h8 := h.p8
  obtain ⟨A, B, c, e, -, -, -, hc, -, -, hc0, hB0, hA, hB, hs⟩ := in_places h g1 g2
  obtain ⟨K, hK⟩ := short_place (P := P) (q := (e - (em - (P : Int) + 1)).toNat) (by omega) (left_short near hB0 hs)
  have hKe : plV P K = leftR near (plV P p) (plV P q) := by rw [hA, hB, leftR_scale near A hc0, hc]; exact hK
  refine ⟨K, hKe, ?_⟩
  have hq0 : 0 < plV P q := by rw [hB]; exact Nat.mul_pos hB0 hc0
  rcases leftR_both near (A := plV P p) hq0 with ⟨h1, h2⟩ | ⟨h1, h2⟩
  · have := (plV_le (P := P) (by omega)).1 (show plV P K ≤ plV P p by omega)
    omega
  · have := (plV_zero (P := P) (by omega)).1 (show plV P K = 0 by omega)
    omega
/-- The remainder of two numbers. -/
theorem rem_nums {a b : Nat} (ha : a < 2 ^ W) (hb : b < 2 ^ W) (near : Bool) (g1 : pk W a ≠ 0 ∧ pk W a < infP W P) (g2 : pk W b ≠ 0 ∧ pk W b < infP W P) {K : Nat} (hK : plV P K = leftR near (plV P (pk W a)) (plV P (pk W b))) (hKi : K < infP W P) :
    Ev (fun k => rem_remainder k f (a : Int) (b : Int) near) (((K + sgB (signR near (ps W a) (plV P (pk W a)) (plV P (pk W b))) W : Nat) : Int), (((oftenR near (plV P (pk W a)) (plV P (pk W b)) % 8 : Nat) : Int), ((0 : Int), (0 : Int)))) := by
  have hip := infP_le h
  have hpp := Nat.two_pow_pos (P - 1)
  have h8 := h.p8; have h53 := h.p53; have m0 := h.m0; have m1 := h.m1
  obtain ⟨w1, w2, w3, w4⟩ := plV_facts h g1.1 (by omega)
  obtain ⟨x1, x2, x3, x4⟩ := plV_facts h g2.1 (by omega)
  have s1 := odd_short (P := P) (by omega) g1.1
  have s2 := odd_short (P := P) (by omega) g2.1
  have hP53 : 2 ^ P ≤ 2 ^ 53 := pow_mono2 h53
  have z1 := oddN_ne w1
  have z2 := oddN_ne x1
  obtain ⟨-, -, v3⟩ := value_pk h ha
  obtain ⟨-, -, v4⟩ := value_pk h hb
  have sp := special_ev h ha hb
  have hsp : spR (clsOf W P (pk W a) (ps W a)) (clsOf W P (pk W b) (ps W b)) (a : Int) ((infP W P + 2 ^ (P - 2) : Nat) : Int) = (0, (0, (false, 0))) := by
    rcases cls_num (neg := ps W a) g1.1 g1.2 with e | e | e | e <;> rcases cls_num (neg := ps W b) g2.1 g2.2 with e' | e' | e' | e' <;> rw [e, e'] <;> rfl
  rw [hsp] at sp
  obtain ⟨A, B, c, e, hA0, hB0, he, hc, l1, l2, hc0, hBp, hA, hB, hs⟩ := in_places h g1 g2
  obtain ⟨m, n, n1, n2, n3, n4, n5⟩ := rcut_ev z1 z2 (by omega) (by omega) (e := em - (P : Int) + 1 + (tz (plV P (pk W a)) : Int)) (f := em - (P : Int) + 1 + (tz (plV P (pk W b)) : Int)) (by omega) (by omega) (ps W a) (ps W b)
  rw [← hA0, ← hB0] at n2 n3 n4 n5
  rw [← he] at n5
  rw [hA, hB, leftR_scale near A hc0] at hK
  have hsg : signR near (ps W a) (plV P (pk W a)) (plV P (pk W b)) = signR near (ps W a) A B := by
    unfold signR
    rw [hA, hB, leftR_scale near A hc0, upR_scale near A hc0]
    by_cases q : leftR near A B = 0
    · rw [q, Nat.zero_mul]
    · rw [if_neg q, if_neg (Nat.mul_ne_zero q (by omega))]
  rw [hsg, hA, hB, oftenR_scale near A hc0]
  have hl := left_short near hBp hs
  -- the end: round.Parts
  have parts : ∀ sg : Bool, Ev (fun k => round_Parts k f 2 sg 0 ((leftR near A B : Nat) : Int) e false) (((K + sgB sg W : Nat) : Int), ((0 : Int), (0 : Int))) := fun sg => by
    have pe := Parts_ev h (m := 2) ⟨by decide, by decide⟩ (hi := 0) (lo := leftR near A B) (by decide) (by omega) e sg false
    refine Ev.eq pe ?_
    unfold paR
    rw [if_neg (by omega), if_neg (by simp), Nat.mul_zero, Nat.add_zero]
    by_cases c0 : leftR near A B = 0
    · rw [c0, Nat.zero_mul] at hK
      have hK0 := (plV_zero (P := P) (by omega)).1 hK
      rw [if_pos c0, hK0, Nat.zero_add]
    · rw [if_neg c0]
      have eA : qA (leftR near A B) e false (em - (P : Int) + 1) = plV P K * 1 := by
        unfold qA nuN
        rw [if_neg (by simp), Nat.mul_one, hK, hc]
      have eB : qB e false (em - (P : Int) + 1) = 1 := by
        unfold qB nuD
        rw [if_neg (by simp), p2_neg (by omega)]
      rw [eA, eB, rnOut_rep (W := W) (by omega) (by decide) hKi 2 sg]
  have low : ∀ {n : Nat}, n < 18446744073709551616 → IntKind.i64.wrap (andK IntKind.u64 (n : Int) 7) = ((n % 8 : Nat) : Int) := fun {n} hn => by
    have := andK_mask n 3 (by decide) hn
    rw [show ((2 ^ 3 - 1 : Nat) : Int) = 7 from rfl, show (2 : Nat) ^ 3 = 8 from rfl] at this
    rw [this, wrapI (by omega) (by omega)]
  refine Ev.congr (fun k => rem_remainder_eq k _ _ _ _) (Ev.bind sp (Ev.neg (by simp) (Ev.bind (Ev.of (v3 g1.1 g1.2)) (Ev.bind (Ev.of (v4 g2.1 g2.2)) (Ev.bind n5 ?_)))))
  cases near with
  | true =>
    obtain ⟨m', n', t1, t2, t3⟩ := nearest_ev (A := A) (B := B) (m := m) (n := n) (e := e) hBp n1 n2 n4 (n3.imp id fun ⟨q1, q2, _⟩ => ⟨q1, q2⟩)
    refine Ev.pos rfl (Ev.bind t3 ?_)
    have fin : ∀ sg : Bool, Ev (fun k => (round_Parts k f 2 sg 0 ((leftR true A B : Nat) : Int) e false).bind fun o5 => some (o5.1, ((IntKind.i64.wrap (andK IntKind.u64 (n' : Int) 7)), ((0 : Int), o5.2.2)))) (((K + sgB sg W : Nat) : Int), (((oftenR true A B % 8 : Nat) : Int), ((0 : Int), (0 : Int)))) := fun sg => by
      rw [low t1, t2]
      exact Ev.bind (parts sg) (Ev.some _)
    by_cases cu : upR true A B = true
    · refine Ev.pos cu ?_
      by_cases c0 : leftR true A B = 0
      · have : signR true (ps W a) A B = ps W a := by unfold signR; rw [if_pos c0]
        rw [this]
        refine Ev.pos (bT ?_) (fin (ps W a))
        show ((leftR true A B : Nat) : Int) = 0; omega
      · have : signR true (ps W a) A B = !ps W a := by unfold signR; rw [if_neg c0, if_pos cu]
        rw [this]
        refine Ev.neg (bF ?_) (fin (!ps W a))
        show ((leftR true A B : Nat) : Int) ≠ 0; omega
    · refine Ev.neg cu ?_
      have : signR true (ps W a) A B = ps W a := by unfold signR; rw [if_neg cu]; split <;> rfl
      rw [this]
      by_cases c0 : leftR true A B = 0
      · refine Ev.pos (bT ?_) (fin (ps W a))
        show ((leftR true A B : Nat) : Int) = 0; omega
      · refine Ev.neg (bF ?_) (fin (ps W a))
        show ((leftR true A B : Nat) : Int) ≠ 0; omega
  | false =>
    have eu : upR false A B = false := rfl
    have el : leftR false A B = A % B := by unfold leftR; rw [eu]; rfl
    have eo : oftenR false A B = A / B := by unfold oftenR; rw [eu]; rfl
    have es : signR false (ps W a) A B = ps W a := by unfold signR; rw [eu]; split <;> rfl
    rw [el] at parts
    rw [eo, es]
    refine Ev.neg (by simp) ?_
    have fin : Ev (fun k => (round_Parts k f 2 (ps W a) 0 ((A % B : Nat) : Int) e false).bind fun o5 => some (o5.1, ((IntKind.i64.wrap (andK IntKind.u64 (n : Int) 7)), ((0 : Int), o5.2.2)))) (((K + sgB (ps W a) W : Nat) : Int), (((A / B % 8 : Nat) : Int), ((0 : Int), (0 : Int)))) := by
      rw [low n1, n2]
      exact Ev.bind (parts (ps W a)) (Ev.some _)
    by_cases c0 : A % B = 0
    · refine Ev.pos (bT ?_) fin
      show ((A % B : Nat) : Int) = 0; omega
    · refine Ev.neg (bF ?_) fin
      show ((A % B : Nat) : Int) ≠ 0; omega
/-- The remainder of two patterns. -/
theorem rem_ev {a b : Nat} (ha : a < 2 ^ W) (hb : b < 2 ^ W) (near : Bool) : ∃ K, (pk W a ≠ 0 ∧ pk W a < infP W P → pk W b ≠ 0 ∧ pk W b < infP W P → plV P K = leftR near (plV P (pk W a)) (plV P (pk W b)) ∧ K < infP W P) ∧
    Ev (fun k => rem_remainder k f (a : Int) (b : Int) near) (spZ (clsOf W P (pk W a) (ps W a)) (clsOf W P (pk W b) (ps W b)) (a : Int) ((infP W P + 2 ^ (P - 2) : Nat) : Int) (((K + sgB (signR near (ps W a) (plV P (pk W a)) (plV P (pk W b))) W : Nat) : Int), (((oftenR near (plV P (pk W a)) (plV P (pk W b)) % 8 : Nat) : Int), ((0 : Int), (0 : Int))))) := by
  by_cases g : (pk W a ≠ 0 ∧ pk W a < infP W P) ∧ (pk W b ≠ 0 ∧ pk W b < infP W P)
  · obtain ⟨K, k1, k2⟩ := left_place h near g.1 g.2
    refine ⟨K, fun _ _ => ⟨k1, k2⟩, Ev.eq (rem_nums h ha hb near g.1 g.2 k1 k2) ?_⟩
    rcases cls_num (neg := ps W a) g.1.1 g.1.2 with e | e | e | e <;> rcases cls_num (neg := ps W b) g.2.1 g.2.2 with e' | e' | e' | e' <;> rw [e, e'] <;> rfl
  · refine ⟨0, fun g1 g2 => absurd ⟨g1, g2⟩ g, ?_⟩
    have sp := special_ev h ha hb
    obtain ⟨c, hc, hcc⟩ := cls_cases (W := W) (P := P) (p := pk W a) (neg := ps W a) (Nat.two_pow_pos _)
    obtain ⟨d, hd, hdd⟩ := cls_cases (W := W) (P := P) (p := pk W b) (neg := ps W b) (Nat.two_pow_pos _)
    rw [hc, hd] at sp ⊢
    have key : (spR c d (a : Int) ((infP W P + 2 ^ (P - 2) : Nat) : Int)).2.2.1 = true ∧ ∀ r, ((spR c d (a : Int) ((infP W P + 2 ^ (P - 2) : Nat) : Int)).1, ((0 : Int), ((spR c d (a : Int) ((infP W P + 2 ^ (P - 2) : Nat) : Int)).2.1, (spR c d (a : Int) ((infP W P + 2 ^ (P - 2) : Nat) : Int)).2.2.2))) = spZ c d (a : Int) ((infP W P + 2 ^ (P - 2) : Nat) : Int) r := by
      have hn : ¬ ((c = 3 ∨ c = 4 ∨ c = 7 ∨ c = 8) ∧ (d = 3 ∨ d = 4 ∨ d = 7 ∨ d = 8)) := fun q => g ⟨by omega, by omega⟩
      clear sp hc hd g
      generalize ((infP W P + 2 ^ (P - 2) : Nat) : Int) = N at *
      have hc' : c = 0 ∨ c = 1 ∨ c = 2 ∨ c = 9 ∨ c = 5 ∨ c = 6 ∨ c = 3 ∨ c = 4 ∨ c = 7 ∨ c = 8 := by omega
      have hd' : d = 0 ∨ d = 1 ∨ d = 2 ∨ d = 9 ∨ d = 5 ∨ d = 6 ∨ d = 3 ∨ d = 4 ∨ d = 7 ∨ d = 8 := by omega
      clear hcc hdd
      rcases hc' with rfl | rfl | rfl | rfl | rfl | rfl | rfl | rfl | rfl | rfl <;> rcases hd' with rfl | rfl | rfl | rfl | rfl | rfl | rfl | rfl | rfl | rfl <;> first | exact ⟨rfl, fun _ => rfl⟩ | exact absurd ⟨by decide, by decide⟩ hn
    refine Ev.congr (fun k => rem_remainder_eq k _ _ _ _) (Ev.bind sp (Ev.pos key.1 (Ev.eq (Ev.some _) (key.2 _))))
omit h in
theorem Remainder_ev {a b : Nat} {r : Int × (Int × (Int × Int))} (hr : Ev (fun k => rem_remainder k f (a : Int) (b : Int) true) r) : Ev (fun k => rem_Remainder k f (a : Int) (b : Int)) r :=
  Ev.congr (fun k => rem_Remainder_eq k _ _ _) (Ev.bind hr (Ev.some _))
omit h in
theorem Mod_ev {a b : Nat} {r : Int × (Int × (Int × Int))} (hr : Ev (fun k => rem_remainder k f (a : Int) (b : Int) false) r) : Ev (fun k => rem_Mod k f (a : Int) (b : Int)) r :=
  Ev.congr (fun k => rem_Mod_eq k _ _ _) (Ev.bind hr (Ev.some _))
end
/-! ### The errors -/
theorem rem_bad_f {f : Int} (hf : ¬ (0 ≤ f ∧ f < 4)) (a b : Int) (near : Bool) : Ev (fun k => rem_remainder k f a b near) (0, (0, (0, 2))) := by
  have sp : Ev (fun k => rem_special k f a b) (0, (0, (true, 2))) := Ev.congr (fun k => rem_special_eq k _ _ _) (Ev.bind (params_bad (by omega)) (Ev.pos (nT (by decide)) (Ev.some _)))
  exact Ev.congr (fun k => rem_remainder_eq k _ _ _ _) (Ev.bind sp (Ev.pos rfl (Ev.some _)))
section
variable {f : Int} {W P : Nat} {em ex : Int} (h : Fm f W P em ex)
include h
theorem rem_bad_b {a b : Nat} (ha : a < 18446744073709551616) (hb : b < 18446744073709551616) (hbad : ¬ (a < 2 ^ W ∧ b < 2 ^ W)) (near : Bool) : Ev (fun k => rem_remainder k f (a : Int) (b : Int) near) (0, (0, (0, 4))) := by
  have ca := Ev.of fun k => check_at h k a ha
  have cb := Ev.of fun k => check_at h k b hb
  have e : (((List.replicate 2 (0 : Int)).set 0 (a : Int)).set 1 (b : Int)) = [(a : Int), (b : Int)] := rfl
  have sp : Ev (fun k => rem_special k f (a : Int) (b : Int)) (0, (0, (true, 4))) := by
    refine Ev.congr (fun k => rem_special_eq k _ _ _) (Ev.bind (Ev.of fun k => params_at h k) (Ev.neg (nF rfl) ?_))
    rw [e]
    have s0 : Ev2 (fun k n => rem_special.l0 k n f (a : Int) (b : Int) 2 0 [(a : Int), (b : Int)]) (0, (0, (true, 4))) := by
      refine Ev2.step (fun k n => rem_special.l0_eq k n _ _ _ _ _ _) (Ev2.pos (by decide) (Ev2.pos ⟨by decide, by simp⟩ (Ev2.call ca ?_)))
      by_cases c1 : a < 2 ^ W
      · rw [if_pos c1]
        rw [if_neg (fun g => hbad ⟨c1, g⟩)] at cb
        exact Ev2.neg (nF rfl) (Ev2.step (fun k n => rem_special.l0_eq k n _ _ _ _ _ _) (Ev2.pos (by decide) (Ev2.pos ⟨by decide, by show IntKind.i64.wrap (0 + 1) < ((2 : Nat) : Int); decide⟩ (Ev2.call cb (Ev2.pos (nT (by decide)) (Ev2.some _))))))
      · rw [if_neg c1]
        exact Ev2.pos (nT (by decide)) (Ev2.some _)
    exact s0.ev
  exact Ev.congr (fun k => rem_remainder_eq k _ _ _ _) (Ev.bind sp (Ev.pos rfl (Ev.some _)))
end
end Go.Proofs.YtldjheckpophaaaDoor.X
