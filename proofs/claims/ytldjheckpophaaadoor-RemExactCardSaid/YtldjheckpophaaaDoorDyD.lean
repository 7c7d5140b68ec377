/- Plain law: exact numbers of layer 3 in units of 2^B, of up to some thousand bits: Add, Sub, Cmp, Top, Scale, Mul by a word, and layer 11's own question for whole multiples. Conditions: the numbers are below 2^p, the exponents in their range. -/
import Derived.Test.YtldjheckpophaaaDoorDyC
import Derived.Test.YtldjheckpophaaaDoorFreA
namespace Go.Proofs.YtldjheckpophaaaDoor.X
open Go Go.Rex
set_option linter.unusedVariables false

/-- An exact number that is v units of 2^B. -/
def RepV (B : Int) (s : Bool) (l : List Int) (e v : Int) : Prop := ∃ n : Nat, l = digs n ∧ B ≤ e ∧ e ≤ B + 6000 ∧ sg s (n * 2 ^ (e - B).toNat) = v
theorem vsg_abs (s : Bool) (n : Nat) : (sg s n).natAbs = n := by unfold sg; cases s <;> simp
theorem RepV.neg {B : Int} {s : Bool} {l : List Int} {e v : Int} (h : RepV B s l e v) : RepV B (!s) l e (-v) := by
  obtain ⟨n, h1, h2, h3, h4⟩ := h
  exact ⟨n, h1, h2, h3, by rw [← h4]; unfold sg; cases s <;> simp⟩
theorem RepV.abs {B : Int} {s : Bool} {l : List Int} {e v : Int} (h : RepV B s l e v) : RepV B false l e (v.natAbs : Int) := by
  obtain ⟨n, h1, h2, h3, h4⟩ := h
  exact ⟨n, h1, h2, h3, by rw [← h4, vsg_abs]; rfl⟩
theorem RepV.up {B : Int} {s : Bool} {l : List Int} {e v : Int} (h : RepV B s l e v) (j : Nat) (hj : e + (j : Int) ≤ B + 6000) : RepV B s l (e + (j : Int)) (v * ((2 ^ j : Nat) : Int)) := by
  obtain ⟨n, h1, h2, h3, h4⟩ := h
  refine ⟨n, h1, by omega, hj, ?_⟩
  rw [← h4, show (e + (j : Int) - B).toNat = (e - B).toNat + j by omega, Nat.pow_add, ← Nat.mul_assoc, sg_mul]
theorem RepV.zero {B : Int} (hB : -2000 ≤ B ∧ B ≤ 0) : RepV B false [] 0 0 := ⟨0, digs_zero.symm, hB.2, by omega, by rw [Nat.zero_mul]; rfl⟩
theorem digs_short {n p k : Nat} (h : n < 2 ^ p) (hp : p ≤ 64 * k) : (digs n).length ≤ k := by
  rw [digs_length_lt, ← two_64 k]
  exact Nat.lt_of_lt_of_le h (pow_mono2 hp)
theorem RepV.facts {B : Int} {s : Bool} {l : List Int} {e v : Int} (h : RepV B s l e v) {p : Nat} (hp : p ≤ 4000) (hv : v.natAbs < 2 ^ p) : ∃ n : Nat, l = digs n ∧ (digs n).length ≤ 63 ∧ B ≤ e ∧ e ≤ B + 6000 ∧ sg s (n * 2 ^ (e - B).toNat) = v ∧ (n = 0 ↔ v = 0) ∧ n * 2 ^ (e - B).toNat = v.natAbs ∧ (n ≠ 0 → blen n + (e - B).toNat = blen v.natAbs ∧ blen v.natAbs ≤ p) := by
  obtain ⟨n, h1, h2, h3, h4⟩ := h
  have ha : n * 2 ^ (e - B).toNat = v.natAbs := by rw [← h4, vsg_abs]
  have hpp := Nat.two_pow_pos (e - B).toNat
  have hn : n < 2 ^ p := by
    have := Nat.le_mul_of_pos_right n hpp
    omega
  refine ⟨n, h1, digs_short hn (by omega), h2, h3, h4, ?_, ha, fun h0 => ?_⟩
  · constructor
    · intro e; rw [e, Nat.zero_mul] at ha; omega
    · intro e
      rw [e] at ha
      rcases Nat.mul_eq_zero.1 ha with g | g
      · exact g
      · omega
  · rw [← ha, blen_pow_mul h0]
    refine ⟨rfl, ?_⟩
    have := (blen_le_iff (n := n * 2 ^ (e - B).toNat) (k := p)).2 (by rw [ha]; exact hv)
    rwa [blen_pow_mul h0] at this
theorem addD {B : Int} (hB : -2000 ≤ B ∧ B ≤ 0) {s t : Bool} {l m : List Int} {e f v w : Int} (h : RepV B s l e v) (h' : RepV B t m f w) {p : Nat} (hp : p ≤ 3000) (hv : v.natAbs < 2 ^ p) (hw : w.natAbs < 2 ^ p) : ∃ r : Bool × (List Int × Int), Ev (fun k => dyad_Add k s l e t m f) (r.1, (r.2.1, (r.2.2, (0 : Int)))) ∧ RepV B r.1 r.2.1 r.2.2 (v + w) ∧ (v + w = 0 → r = (false, ([], 0))) := by
  have hvw : (v + w).natAbs < 2 ^ (p + 1) := by have : 2 ^ (p + 1) = 2 * 2 ^ p := by rw [Nat.pow_succ, Nat.mul_comm]
                                                omega
  obtain ⟨n, rfl, n1, n2, n3, n4, nz, na, nb⟩ := h.facts (by omega) hv
  obtain ⟨q, rfl, q1, q2, q3, q4, qz, qa, qb⟩ := h'.facts (by omega) hw
  have tw := two_ev (n := n) (m := q) (e := e) (f := f) ⟨by omega, by omega, by omega⟩ ⟨by omega, by omega, by omega⟩ s t
  have fin : ∀ (s1 : Bool) (l1 : List Int) (e1 : Int) (s2 : Bool) (l2 : List Int) (e2 : Int) (g Z : Int), Ev (fun k => dyad_odd k s (digs n) e) (s1, (l1, e1)) → Ev (fun k => dyad_odd k t (digs q) f) (s2, (l2, e2)) → Ev (fun k => dyad_sum k s1 l1 e1 s2 l2 e2) (outZ g Z) → B ≤ g → g ≤ 4800 → Z * ((2 ^ (g - B).toNat : Nat) : Int) = v + w →
      ∃ r : Bool × (List Int × Int), Ev (fun k => dyad_Add k s (digs n) e t (digs q) f) (r.1, (r.2.1, (r.2.2, (0 : Int)))) ∧ RepV B r.1 r.2.1 r.2.2 (v + w) ∧ (v + w = 0 → r = (false, ([], 0))) := by
    intro s1 l1 e1 s2 l2 e2 g Z o1 o2 sm hg hg5 hZ
    have hpg := Nat.two_pow_pos (g - B).toNat
    have hZa : Z.natAbs * 2 ^ (g - B).toNat = (v + w).natAbs := by rw [← hZ, Int.natAbs_mul, Int.natAbs_natCast]
    have hZl : Z.natAbs < 2 ^ (p + 1) := by
      have := Nat.le_mul_of_pos_right Z.natAbs hpg
      omega
    have hl : (digs Z.natAbs).length ≤ 80 := digs_short hZl (by omega)
    refine ⟨outZ g Z, ?_, ?_, fun z => ?_⟩
    · exact Ev.congr (fun k => dyad_Add_eq k _ _ _ _ _ _) (Ev.bind tw (Ev.neg (nF rfl) (Ev.bind o1 (Ev.bind o2 (Ev.bind sm (Ev.bind (ans_outZ (by omega) hl) (Ev.some _)))))))
    · obtain ⟨x, r1, r2, r3, r4, r5⟩ := outZ_rep hg hB.2 hg5 hl (by decide) hZ
      refine ⟨x, r1, r3, ?_, r5⟩
      by_cases c : Z = 0
      · unfold outZ; rw [if_pos c]; show (0 : Int) ≤ B + 6000; omega
      · unfold outZ; rw [if_neg c]
        have hn : Z.natAbs ≠ 0 := by omega
        have b1 := tz_blen hn
        have b2 := (blen_le_iff (n := Z.natAbs * 2 ^ (g - B).toNat) (k := p + 1)).2 (by omega)
        rw [blen_pow_mul hn] at b2
        show g + (tz Z.natAbs : Int) ≤ B + 6000
        omega
    · rw [z] at hZ
      have : Z = 0 := by
        rcases Int.mul_eq_zero.1 hZ with g1 | g1
        · exact g1
        · have := Nat.two_pow_pos (g - B).toNat; omega
      unfold outZ; rw [if_pos this]
  by_cases z1 : n = 0
  · have o1 := odd_zero (a := digs n) (WF.digs n) (lb_short n1 (by omega)) (by rw [val_digs]; exact z1) s e
    have hv : v = 0 := nz.1 z1
    by_cases z2 : q = 0
    · have o2 := odd_zero (a := digs q) (WF.digs q) (lb_short q1 (by omega)) (by rw [val_digs]; exact z2) t f
      have hw : w = 0 := qz.1 z2
      refine fin _ _ _ _ _ _ 0 0 o1 o2 ?_ hB.2 (by decide) (by rw [hv, hw, Int.zero_mul]; rfl)
      exact Ev.congr (fun k => dyad_sum_eq k _ _ _ _ _ _) (Ev.pos (bT rfl) (Ev.some _))
    · have o2 := odd_at z2 (by omega) t (e := f) (by omega)
      have := qb z2
      refine fin _ _ _ _ _ _ f (sg t q) o1 o2 ?_ q2 (by omega) (by rw [hv, Int.zero_add, ← q4, sg_mul])
      rw [outZ_of z2]
      exact Ev.congr (fun k => dyad_sum_eq k _ _ _ _ _ _) (Ev.pos (bT rfl) (Ev.some _))
  · have o1 := odd_at z1 (by omega) s (e := e) (by omega)
    have p1 := digs_len_pos.2 (oddN_ne z1)
    have nb' := nb z1
    by_cases z2 : q = 0
    · have o2 := odd_zero (a := digs q) (WF.digs q) (lb_short q1 (by omega)) (by rw [val_digs]; exact z2) t f
      have hw : w = 0 := qz.1 z2
      refine fin _ _ _ _ _ _ e (sg s n) o1 o2 ?_ n2 (by omega) (by rw [hw, Int.add_zero, ← n4, sg_mul])
      rw [outZ_of z1]
      exact Ev.congr (fun k => dyad_sum_eq k _ _ _ _ _ _) (Ev.neg (bF (by omega)) (Ev.pos (bT rfl) (Ev.some _)))
    · have o2 := odd_at z2 (by omega) t (e := f) (by omega)
      have qb' := qb z2
      have t1 := tz_blen z1
      have t2 := tz_blen z2
      have l1 := Nat.le_trans (digs_len_mono (oddN_le n)) n1
      have l2 := Nat.le_trans (digs_len_mono (oddN_le q)) q1
      have sm := sumV (e := e + (tz n : Int)) (f := f + (tz q : Int)) (oddN_ne z1) (oddN_ne z2) (by omega) (by omega) (by omega) (by omega) s t
      obtain ⟨g, hg⟩ : ∃ g : Int, g = min (e + (tz n : Int)) (f + (tz q : Int)) := ⟨_, rfl⟩
      rw [← hg] at sm
      refine fin _ _ _ _ _ _ g _ o1 o2 sm (by omega) (by omega) ?_
      rw [Int.add_mul, ← sg_mul, ← sg_mul, Nat.mul_assoc, Nat.mul_assoc, ← Nat.pow_add, ← Nat.pow_add]
      have x1 : (e + (tz n : Int) - g).toNat + (g - B).toNat = (e + (tz n : Int) - B).toNat := by omega
      have x2 : (f + (tz q : Int) - g).toNat + (g - B).toNat = (f + (tz q : Int) - B).toNat := by omega
      rw [x1, x2, odd_val z1 e B n2, odd_val z2 f B q2, n4, q4]
theorem subD {B : Int} (hB : -2000 ≤ B ∧ B ≤ 0) {s t : Bool} {l m : List Int} {e f v w : Int} (h : RepV B s l e v) (h' : RepV B t m f w) {p : Nat} (hp : p ≤ 3000) (hv : v.natAbs < 2 ^ p) (hw : w.natAbs < 2 ^ p) : ∃ r : Bool × (List Int × Int), Ev (fun k => dyad_Sub k s l e t m f) (r.1, (r.2.1, (r.2.2, (0 : Int)))) ∧ RepV B r.1 r.2.1 r.2.2 (v - w) ∧ (v - w = 0 → r = (false, ([], 0))) := by
  obtain ⟨r, r1, r2, r3⟩ := addD hB h h'.neg hp hv (by rw [Int.natAbs_neg]; exact hw)
  rw [← Int.sub_eq_add_neg] at r2 r3
  exact ⟨r, Ev.congr (fun k => dyad_Sub_eq k _ _ _ _ _ _) (Ev.bind r1 (Ev.some _)), r2, r3⟩
theorem cmpD {B : Int} (hB : -2000 ≤ B ∧ B ≤ 0) {s t : Bool} {l m : List Int} {e f v w : Int} (h : RepV B s l e v) (h' : RepV B t m f w) {p : Nat} (hp : p ≤ 3000) (hv : v.natAbs < 2 ^ p) (hw : w.natAbs < 2 ^ p) : Ev (fun k => dyad_Cmp k s l e t m f) (sgn (v - w), (0 : Int)) := by
  obtain ⟨n, rfl, n1, n2, n3, n4, -⟩ := h.facts (by omega) hv
  obtain ⟨q, rfl, q1, q2, q3, q4, -⟩ := h'.facts (by omega) hw
  have c := DCmp_ev (n := n) (m := q) (e := e) (f := f) ⟨by omega, by omega, by omega⟩ ⟨by omega, by omega, by omega⟩ s t B n2 q2 (by omega)
  have e : sg s (n * 2 ^ (e - B).toNat) + sg (!t) (q * 2 ^ (f - B).toNat) = v - w := by
    rw [n4, ← q4]; unfold sg; cases t <;> simp [Int.sub_eq_add_neg]
  rw [e] at c
  exact c
theorem topD {B : Int} (hB : -2000 ≤ B ∧ B ≤ 0) {s : Bool} {l : List Int} {e v : Int} (h : RepV B s l e v) {p : Nat} (hp : p ≤ 3000) (hv : v.natAbs < 2 ^ p) (h0 : v ≠ 0) : Ev (fun k => dyad_Top k s l e) (B + (blen v.natAbs : Int) - 1, (0 : Int)) := by
  obtain ⟨n, rfl, n1, n2, n3, n4, n5, n6, n7⟩ := h.facts (by omega) hv
  have hn : n ≠ 0 := fun e => h0 (n5.1 e)
  obtain ⟨n8, n9⟩ := n7 hn
  have ln := Len_ev (a := digs n) (WF.digs _) (by unfold Lb; omega)
  rw [val_digs] at ln
  have hbp := blen_pos hn
  refine Ev.congr (fun k => dyad_Top_eq k _ _ _) (Ev.bind (refuses_ev ⟨by omega, by omega, by omega⟩ s) (Ev.neg (nF rfl) (Ev.bind ln (Ev.neg (bF (by omega)) (Ev.eq (Ev.some _) ?_)))))
  rw [wrapI (x := (blen n : Int) - 1) (by omega) (by omega), wrapI (by omega) (by omega)]
  congr 1
  omega
theorem scaleD {B : Int} (hB : -2000 ≤ B ∧ B ≤ 0) {s : Bool} {l : List Int} {e v : Int} (h : RepV B s l e v) {p j : Nat} (hp : p ≤ 3000) (hv : (v * ((2 ^ j : Nat) : Int)).natAbs < 2 ^ p) (h0 : v ≠ 0) : ∃ (l' : List Int) (e' : Int), Ev (fun k => dyad_Scale k s l e (j : Int)) (s, (l', (e', (0 : Int)))) ∧ RepV B s l' e' (v * ((2 ^ j : Nat) : Int)) := by
  have hva : v.natAbs * 2 ^ j < 2 ^ p := by rw [Int.natAbs_mul, Int.natAbs_natCast] at hv; exact hv
  have hpj := Nat.two_pow_pos j
  have hv1 : v.natAbs < 2 ^ p := by
    have := Nat.le_mul_of_pos_right v.natAbs hpj
    omega
  obtain ⟨n, rfl, n1, n2, n3, n4, n5, n6, n7⟩ := h.facts (by omega) hv1
  have hn : n ≠ 0 := fun e => h0 (n5.1 e)
  obtain ⟨n8, n9⟩ := n7 hn
  have b2 := (blen_le_iff (n := v.natAbs * 2 ^ j) (k := p)).2 hva
  rw [blen_pow_mul (by omega)] at b2
  have t1 := tz_blen hn
  have sc := Scale_ok hn (by omega) (e := e) (n := (j : Int)) (by omega) (by omega) (by omega) s
  refine ⟨_, _, sc, oddN n, rfl, by omega, by omega, ?_⟩
  rw [← n4, ← sg_mul, show (e + (tz n : Int) + (j : Int) - B).toNat = tz n + ((e - B).toNat + j) by omega, Nat.pow_add, ← Nat.mul_assoc, oddN_mul hn, Nat.pow_add, ← Nat.mul_assoc]
theorem mulD {B : Int} (hB : -2000 ≤ B ∧ B ≤ 0) {s : Bool} {l : List Int} {e v : Int} (h : RepV B s l e v) {p : Nat} (hp : p ≤ 3000) (hv : v.natAbs < 2 ^ p) (h0 : v ≠ 0) {x : Nat} (hx : x < 8) : ∃ r : Bool × (List Int × Int), Ev (fun k => dyad_Mul k s l e false ((List.replicate 1 (0 : Int)).set 0 (x : Int)) 0) (r.1, (r.2.1, (r.2.2, (0 : Int)))) ∧ RepV B r.1 r.2.1 r.2.2 (v * (x : Int)) := by
  obtain ⟨n, rfl, n1, n2, n3, n4, n5, n6, n7⟩ := h.facts (by omega) hv
  have hn : n ≠ 0 := fun e => h0 (n5.1 e)
  obtain ⟨n8, n9⟩ := n7 hn
  have t1 := tz_blen hn
  have o1 := odd_at hn (by omega) s (e := e) (by omega)
  have ll := Nat.le_trans (digs_len_mono (oddN_le n)) n1
  have rf := refuses_ev (n := n) (e := e) ⟨by omega, by omega, by omega⟩ s
  have e1 : ((List.replicate 1 (0 : Int)).set 0 (x : Int)) = [(x : Int)] := rfl
  have hwf : WF [(x : Int)] := WF.cons (by omega) (by omega) WF.nil
  have hval : val [(x : Int)] = x := by show (x : Int).toNat + 18446744073709551616 * 0 = x; simp
  have rf2 : Ev (fun k => dyad_refuses k false [(x : Int)] 0) 0 := Ev.congr (fun k => dyad_refuses_eq k _ _ _) (Ev.neg (dF (by simp)) (Ev.neg (dF (by decide)) (Ev.neg (dF (by decide)) (Ev.some _))))
  have tw : Ev (fun k => dyad_two k s (digs n) e false [(x : Int)] 0) 0 := Ev.congr (fun k => dyad_two_eq k _ _ _ _ _ _) (by
    refine Ev.bind rf (Ev.neg (nF rfl) (Ev.bind rf2 (Ev.some _))))
  rw [e1]
  by_cases cx : x = 0
  · have o2 := odd_zero (a := [(x : Int)]) hwf (by unfold Lb; simp) (by rw [hval]; exact cx) false 0
    have ml := Mul_ev (a := digs (oddN n)) (b := []) (WF.digs _) WF.nil (by unfold Lb; omega) (by unfold Lb; simp) (by rw [val_digs]; omega) (by rw [show val [] = 0 from rfl, digs_zero]; simp) (by rw [show val [] = 0 from rfl, Nat.mul_zero, digs_zero]; simp)
    rw [show val [] = 0 from rfl, Nat.mul_zero, digs_zero] at ml
    have an : ∀ (u : Bool) (g : Int), Ev (fun k => dyad_answer k u [] g) (false, (([] : List Int), ((0 : Int), (0 : Int)))) := fun u g =>
      Ev.congr (fun k => dyad_answer_eq k _ _ _) (Ev.bind (odd_zero (a := []) WF.nil (by unfold Lb; simp) rfl u g) (Ev.neg (dF (by simp)) (Ev.neg (dF (by simp)) (Ev.neg (dF (by simp)) (Ev.some _)))))
    refine ⟨(false, ([], 0)), Ev.congr (fun k => dyad_Mul_eq k _ _ _ _ _ _) (Ev.bind tw (Ev.neg (nF rfl) (Ev.bind o1 (Ev.bind o2 (Ev.bind ml (Ev.neg (nF rfl) (Ev.bind (an _ _) (Ev.some _)))))))), ?_⟩
    rw [cx]
    show RepV B false [] 0 (v * 0)
    rw [Int.mul_zero]
    exact RepV.zero hB
  · have lx : (digs x).length ≤ 1 := digs_length_lt.2 (by rw [Nat.pow_one]; omega)
    have ex : [(x : Int)] = digs x := by
      rw [digs_pos cx, Nat.mod_eq_of_lt (by omega), Nat.div_eq_of_lt (by omega), digs_zero]
    have o2 := odd_at cx (by omega) false (e := 0) (by omega)
    rw [← ex] at o2
    have lx2 := Nat.le_trans (digs_len_mono (oddN_le x)) lx
    have on := oddN_odd hn
    have ox := oddN_odd cx
    have oM : (oddN n * oddN x) % 2 = 1 := by rw [Nat.mul_mod, on, ox]
    have hM0 : oddN n * oddN x ≠ 0 := by omega
    have hox : oddN x < 8 := Nat.lt_of_le_of_lt (oddN_le x) hx
    have tx := tz_blen cx
    have bx := (blen_le_iff (n := x) (k := 3)).2 hx
    have hMl : (digs (oddN n * oddN x)).length ≤ 64 := by
      have h1 : oddN n < 2 ^ p := by
        have := oddN_le n
        have := Nat.le_mul_of_pos_right n (Nat.two_pow_pos (e - B).toNat)
        omega
      refine digs_short (p := p + 3) ?_ (by omega)
      rw [Nat.pow_add]
      exact Nat.mul_lt_mul'' h1 hox
    have ml := Mul_ev (a := digs (oddN n)) (b := digs (oddN x)) (WF.digs _) (WF.digs _) (by unfold Lb; omega) (by unfold Lb; omega) (by rw [val_digs]; omega) (by rw [val_digs]; omega) (by rw [val_digs, val_digs]; omega)
    rw [val_digs, val_digs] at ml
    have o3 := odd_at hM0 (by omega) (!(s == false)) (e := e + (tz n : Int) + (0 + (tz x : Int))) (by omega)
    rw [oddN_of_odd oM, tz_of_odd oM] at o3
    have we : IntKind.i64.wrap (e + (tz n : Int) + (0 + (tz x : Int))) = e + (tz n : Int) + (0 + (tz x : Int)) := wrapI (by omega) (by omega)
    refine ⟨(s, (digs (oddN n * oddN x), e + (tz n : Int) + (tz x : Int))), Ev.congr (fun k => dyad_Mul_eq k _ _ _ _ _ _) (Ev.bind tw (Ev.neg (nF rfl) (Ev.bind o1 (Ev.bind o2 (Ev.bind ml (Ev.neg (nF rfl) ?_)))))), oddN n * oddN x, rfl, by show B ≤ e + (tz n : Int) + (tz x : Int); omega, by show e + (tz n : Int) + (tz x : Int) ≤ B + 6000; omega, ?_⟩
    · dsimp only
      rw [we]
      refine Ev.bind (Ev.congr (fun k => dyad_answer_eq k _ _ _) (Ev.bind o3 (Ev.neg (dF ?_) (Ev.neg (dF ?_) (Ev.neg (dF ?_) (Ev.some _)))))) (Ev.eq (Ev.some _) ?_)
      · show ¬ (((digs (oddN n * oddN x)).length : Int) > 1024); omega
      · show ¬ (e + (tz n : Int) + (0 + (tz x : Int)) + ((0 : Nat) : Int) < -40000); omega
      · show ¬ (e + (tz n : Int) + (0 + (tz x : Int)) + ((0 : Nat) : Int) > 40000); omega
      · cases s <;> simp
    · show sg s (oddN n * oddN x * 2 ^ (e + (tz n : Int) + (tz x : Int) - B).toNat) = v * (x : Int)
      rw [← n4, ← sg_mul, show (e + (tz n : Int) + (tz x : Int) - B).toNat = tz n + ((e - B).toNat + tz x) by omega, Nat.pow_add, Nat.pow_add]
      congr 1
      calc oddN n * oddN x * (2 ^ tz n * (2 ^ (e - B).toNat * 2 ^ tz x)) = (oddN n * 2 ^ tz n) * 2 ^ (e - B).toNat * (oddN x * 2 ^ tz x) := by grind
        _ = n * 2 ^ (e - B).toNat * x := by rw [oddN_mul hn, oddN_mul cx]
theorem multD_l0 {B : Int} (hB : -2000 ≤ B ∧ B ≤ 0) {Wv p : Nat} (hW : Wv ≠ 0) (hp : p ≤ 2900) (hWp : Wv < 2 ^ p) {l5 : List Int} {x6 : Int} (hb : RepV B false l5 x6 (Wv : Int)) (r : Nat) : ∀ (i : Nat) (b1 : Bool) (l2 : List Int) (x3 : Int) (D : Nat), blen D ≤ r → i + r ≤ 4000 → D < 2 ^ p → (D = 0 → l2 = []) → RepV B b1 l2 x3 (D : Int) → Ev2 (fun k m => vernierlaw11_multiple.l0 k m (i : Int) b1 l2 x3 false l5 x6) (decide (D % Wv = 0)) := by
  induction r with
  | zero =>
    intro i b1 l2 x3 D hr hi hN hz hd
    have z : D = 0 := by
      refine Nat.eq_zero_of_not_pos fun g => ?_
      have := blen_pos (n := D) (by omega)
      omega
    rw [hz z, z]
    exact Ev2.step (fun k m => vernierlaw11_multiple.l0_eq k m _ _ _ _ _ _ _) (Ev2.pos (dT (by omega)) (Ev2.neg (by decide) (Ev2.eq (Ev2.some _) (by simp))))
  | succ r ih =>
    intro i b1 l2 x3 D hr hi hN hz hd
    refine Ev2.step (fun k m => vernierlaw11_multiple.l0_eq k m _ _ _ _ _ _ _) (Ev2.pos (dT (by omega)) ?_)
    by_cases z : D = 0
    · rw [hz z, z]
      exact Ev2.neg (by decide) (Ev2.eq (Ev2.some _) (by simp))
    obtain ⟨n, hl, n1, n2, n3, n4, n5, n6, n7⟩ := hd.facts (p := p) (by omega) (by rw [Int.natAbs_natCast]; exact hN)
    have hn0 : n ≠ 0 := fun e => z (by have := n5.1 e; omega)
    have hlen := digs_len_pos.2 hn0
    rw [← hl] at hlen
    have td := topD hB hd (p := p) (by omega) (by rw [Int.natAbs_natCast]; exact hN) (by omega)
    have tb := topD hB hb (p := p) (by omega) (by rw [Int.natAbs_natCast]; exact hWp) (by omega)
    rw [Int.natAbs_natCast] at td tb
    have bD := blen_le z
    have bD' := blen_lt D
    have bW := blen_le hW
    have bW' := blen_lt Wv
    have bDp := (blen_le_iff (n := D) (k := p)).2 hN
    have bWp := (blen_le_iff (n := Wv) (k := p)).2 hWp
    have bDpos := blen_pos z
    refine Ev2.pos (dT (by omega)) (Ev2.congr (fun k m => vernierlaw11_multiple.j1_eq k m _ _ _ _ _ _ _) (Ev2.call td (Ev2.call tb (Ev2.neg (nF rfl) (Ev2.neg (nF rfl) ?_)))))
    by_cases hlt : blen D < blen Wv
    · have hDW : D < Wv := by
        refine Nat.lt_of_not_le fun g => ?_
        have := blen_le_iff.2 (Nat.lt_of_le_of_lt g bD')
        omega
      refine Ev2.pos (dT (by show B + (blen D : Int) - 1 < B + (blen Wv : Int) - 1; omega)) (Ev2.eq (Ev2.some _) ?_)
      rw [Nat.mod_eq_of_lt hDW, decide_eq_false z]
    obtain ⟨j, hj⟩ : ∃ j : Nat, blen D = blen Wv + j := ⟨blen D - blen Wv, by omega⟩
    have bC := blen_pow_mul hW j
    have cC := blen_lt (Wv * 2 ^ j)
    have cC0 : Wv * 2 ^ j ≠ 0 := Nat.mul_ne_zero hW (Nat.ne_of_gt (Nat.two_pow_pos j))
    have cC' := blen_le cC0
    rw [bC, ← hj] at cC cC'
    have pw : 2 ^ blen D = 2 * 2 ^ (blen D - 1) := pow_half bDpos
    have ppm : 2 ^ blen D ≤ 2 ^ p := pow_mono2 bDp
    obtain ⟨lc, ec, sc, rc⟩ := scaleD hB hb (p := p) (j := j) (by omega) (by rw [← Int.natCast_mul, Int.natAbs_natCast]; omega) (by omega)
    rw [← Int.natCast_mul] at rc
    have cm := cmpD hB rc hd (p := p) (by omega) (by rw [Int.natAbs_natCast]; omega) (by rw [Int.natAbs_natCast]; exact hN)
    have w1 : IntKind.i64.wrap (B + (blen D : Int) - 1 - (B + (blen Wv : Int) - 1)) = (j : Int) := by rw [wrapI (by omega) (by omega)]; omega
    have next : ∀ (M : Nat) (lm : List Int) (xm : Int), RepV B false lm xm ((M * Wv : Nat) : Int) → M * Wv ≤ D → D - M * Wv < 2 ^ (blen D - 1) →
        Ev2 (fun k m => (dyad_Sub k b1 l2 x3 false lm xm).bind fun o5 => (if o5.2.2.2 != 0 then some false else vernierlaw11_multiple.l0 k m (IntKind.i64.wrap ((i : Int) + 1)) o5.1 o5.2.1 o5.2.2.1 false l5 x6)) (decide (D % Wv = 0)) := fun M lm xm hM h1 h2 => by
      obtain ⟨q, q1, q2, q3⟩ := subD hB hd hM (p := p) (by omega) (by rw [Int.natAbs_natCast]; exact hN) (by rw [Int.natAbs_natCast]; omega)
      have ed : (D : Int) - ((M * Wv : Nat) : Int) = ((D - M * Wv : Nat) : Int) := by omega
      rw [ed] at q2 q3
      have hbl : blen (D - M * Wv) ≤ r := by
        have := (blen_le_iff (n := D - M * Wv) (k := blen D - 1)).2 h2
        omega
      have em : (D - M * Wv) % Wv = D % Wv := by
        conv => rhs; rw [show D = D - M * Wv + M * Wv by omega]
        rw [Nat.add_mul_mod_self_right]
      rw [← em, wrapI (x := (i : Int) + 1) (by omega) (by omega), show (i : Int) + 1 = ((i + 1 : Nat) : Int) by omega]
      exact Ev2.call q1 (Ev2.neg (nF rfl) (ih (i + 1) q.1 q.2.1 q.2.2 (D - M * Wv) hbl (by omega) (by omega) (fun e => by rw [q3 (by omega)]) q2))
    refine Ev2.neg (dF (by show ¬ (B + (blen D : Int) - 1 < B + (blen Wv : Int) - 1); omega)) (Ev2.congr (fun k m => vernierlaw11_multiple.j2_eq k m _ _ _ _ _ _ _ _ _) ?_)
    dsimp only
    rw [w1]
    refine Ev2.call sc (Ev2.neg (nF rfl) (Ev2.call cm (Ev2.neg (nF rfl) ?_)))
    by_cases cc : D < Wv * 2 ^ j
    · have hs : sgn (((Wv * 2 ^ j : Nat) : Int) - (D : Int)) > 0 := by unfold sgn; rw [if_neg (by omega), if_neg (by omega)]; decide
      refine Ev2.pos (dT hs) ?_
      by_cases j0 : j = 0
      · rw [j0, Nat.pow_zero, Nat.mul_one] at cc
        refine Ev2.pos (bT (by omega)) (Ev2.eq (Ev2.some _) ?_)
        rw [Nat.mod_eq_of_lt cc, decide_eq_false z]
      · have e2 : Wv * 2 ^ j = 2 * (Wv * 2 ^ (j - 1)) := by rw [show j = (j - 1) + 1 by omega, Nat.pow_succ]; simp only [Nat.add_sub_cancel]; grind
        have w2 : IntKind.i64.wrap ((j : Int) - 1) = ((j - 1 : Nat) : Int) := by rw [wrapI (by omega) (by omega)]; omega
        obtain ⟨lc', ec', sc', rc'⟩ := scaleD hB hb (p := p) (j := j - 1) (by omega) (by rw [← Int.natCast_mul, Int.natAbs_natCast]; omega) (by omega)
        rw [← Int.natCast_mul, Nat.mul_comm Wv] at rc'
        rw [w2]
        refine Ev2.neg (bF (by omega)) (Ev2.call sc' (Ev2.neg (nF rfl) (next _ _ _ rc' ?_ ?_)))
        · rw [Nat.mul_comm]; omega
        · rw [Nat.mul_comm (2 ^ (j - 1))]; omega
    · have hs : ¬ (sgn (((Wv * 2 ^ j : Nat) : Int) - (D : Int)) > 0) := by
        unfold sgn
        split
        · decide
        · rw [if_pos (by omega)]; decide
      rw [Nat.mul_comm Wv] at rc
      refine Ev2.neg (dF hs) (next _ _ _ rc ?_ ?_)
      · rw [Nat.mul_comm]; omega
      · rw [Nat.mul_comm (2 ^ j)]; omega
theorem multD {B : Int} (hB : -2000 ≤ B ∧ B ≤ 0) {Wv p : Nat} (hW : Wv ≠ 0) (hp : p ≤ 2800) {s t : Bool} {l m : List Int} {e f v w : Int} (hd : RepV B s l e v) (hb : RepV B t m f w) (hw : w.natAbs = Wv) (hv : v.natAbs < 2 ^ p) (hWp : 8 * Wv < 2 ^ p) (hz : v = 0 → l = []) (hf : f + 3 ≤ B + 6000) : Ev (fun k => vernierlaw11_multiple k s l e t m f) (decide (v.natAbs % (8 * Wv) = 0)) := by
  have hf2 : B ≤ f := by obtain ⟨_, _, g, _⟩ := hb; exact g
  have hb8 := hb.abs.up 3 (by omega)
  rw [hw, ← Int.natCast_mul, Nat.mul_comm, show 2 ^ 3 * Wv = 8 * Wv by omega] at hb8
  have bp := (blen_le_iff (n := v.natAbs) (k := p)).2 hv
  have g := multD_l0 hB (Wv := 8 * Wv) (p := p) (by omega) (by omega) hWp hb8 (blen v.natAbs) 0 false l e v.natAbs (Nat.le_refl _) (by omega) hv (fun e => hz (by omega)) hd.abs
  have w3 : IntKind.i64.wrap (f + 3) = f + ((3 : Nat) : Int) := by rw [wrapI (by omega) (by omega)]; rfl
  refine Ev.congr (fun k => vernierlaw11_multiple_eq k _ _ _ _ _ _) ?_
  rw [w3]
  exact g.ev
theorem sg_less (s : Bool) {x y : Nat} (h : y ≤ x) : (sg s x - sg s y).natAbs = x - y := by unfold sg; cases s <;> simp <;> omega
theorem sg_more (s : Bool) {x y : Nat} (h : y ≤ x) : (sg s x + sg (!s) y).natAbs = x - y := by unfold sg; cases s <;> simp <;> omega
/-- Is N * Y, with a sign, a whole multiple of Y, and are these N's low bits? -/
theorem timesD {B : Int} (hB : -2000 ≤ B ∧ B ≤ 0) {N Y p : Nat} (hY : Y ≠ 0) (hp : p ≤ 2700) {s' s t : Bool} {l m : List Int} {e f : Int} (hd : RepV B s' l e (sg s (N * Y))) (hb : RepV B t m f (sg t Y)) (hN : N * Y < 2 ^ p) (hYp : Y < 2 ^ p) (hf : f ≤ B + 5000) : Ev (fun k => vernierlaw11_times k s' l e t m f ((N % 8 : Nat) : Int)) true := by
  have p1 : 2 ^ (p + 4) = 16 * 2 ^ p := by rw [Nat.pow_add, Nat.mul_comm]
  have h8 := Nat.mod_lt N (show 0 < 8 by decide)
  have hdm := Nat.div_add_mod N 8
  have vy : (sg t Y).natAbs = Y := vsg_abs t Y
  obtain ⟨r, r1, r2⟩ := mulD hB hb (p := p) (by omega) (by rw [vy]; exact hYp) (by intro z; rw [z] at vy; omega) h8
  rw [← sg_mul] at r2
  have hYm : Y * (N % 8) ≤ 7 * Y := by rw [Nat.mul_comm 7]; exact Nat.mul_le_mul_left Y (by omega)
  have a1 : (sg s (N * Y)).natAbs < 2 ^ (p + 4) := by rw [vsg_abs]; omega
  have a2 : (sg t (Y * (N % 8))).natAbs < 2 ^ (p + 4) := by rw [vsg_abs]; omega
  obtain ⟨x, x1, x2, x3⟩ := subD hB hd r2 (p := p + 4) (by omega) a1 a2
  obtain ⟨y, y1, y2, y3⟩ := addD hB hd r2 (p := p + 4) (by omega) a1 a2
  have p2 : 2 ^ (p + 5) = 2 * 2 ^ (p + 4) := by rw [Nat.pow_succ, Nat.mul_comm]
  have m1 := multD hB hY (p := p + 5) (by omega) x2 hb vy (by omega) (by omega) (fun z => by rw [x3 z]) (by omega)
  have m2 := multD hB hY (p := p + 5) (by omega) y2 hb vy (by omega) (by omega) (fun z => by rw [y3 z]) (by omega)
  have hq : ∀ z : Int, z.natAbs = N * Y - Y * (N % 8) → decide (z.natAbs % (8 * Y) = 0) = true := fun z hz => by
    have : N * Y - Y * (N % 8) = N / 8 * (8 * Y) := by
      have e1 : N * Y = (8 * (N / 8) + N % 8) * Y := by rw [hdm]
      have e2 : (8 * (N / 8) + N % 8) * Y = N / 8 * (8 * Y) + Y * (N % 8) := by grind
      omega
    rw [hz, this, Nat.mul_mod_left]; rfl
  have hle : Y * (N % 8) ≤ N * Y := by rw [Nat.mul_comm]; exact Nat.mul_le_mul_right Y (Nat.mod_le _ _)
  have wl : IntKind.u64.wrap ((N % 8 : Nat) : Int) = ((N % 8 : Nat) : Int) := wrapUn (by omega)
  refine Ev.congr (fun k => vernierlaw11_times_eq k _ _ _ _ _ _ _) ?_
  rw [wl]
  refine Ev.bind r1 (Ev.neg (nF rfl) (Ev.bind x1 (Ev.bind y1 (Ev.pos (bT rfl) (Ev.pos (bT rfl) (Ev.bind m1 ?_))))))
  by_cases c : s = t
  · subst c
    have : decide ((sg s (N * Y) - sg s (Y * (N % 8))).natAbs % (8 * Y) = 0) = true := hq _ (sg_less s hle)
    rw [this]
    exact Ev.pos rfl (Ev.some _)
  · have : decide ((sg s (N * Y) + sg t (Y * (N % 8))).natAbs % (8 * Y) = 0) = true := hq _ (by
      have : t = !s := by cases s <;> cases t <;> simp_all
      subst this
      exact sg_more s hle)
    rw [this] at m2
    cases decide ((sg s (N * Y) - sg t (Y * (N % 8))).natAbs % (8 * Y) = 0)
    · exact Ev.neg (by decide) (Ev.bind m2 (Ev.some _))
    · exact Ev.pos rfl (Ev.some _)
end Go.Proofs.YtldjheckpophaaaDoor.X
