/- Plain law: verniertop's own products, its kinds of patterns, its NaNs, infinities and signs. Conditions: the numbers are short; the format is one of the four, the pattern of its width. -/
import Derived.Test.YtmoeaeflljpboaaTpM
namespace Go.Proofs.Ytmoeaeflljpboaa.X
open Go Go.Rex
set_option linter.unusedVariables false

/-! ### Products -/
theorem tmac {x y p c : Nat} (hx : x < 4294967296) (hy : y < 4294967296) (hp : p < 4294967296) (hc : c < 4294967296) : x * y + p + c < 18446744073709551616 := by
  have : x * y ≤ 4294967295 * 4294967295 := Nat.mul_le_mul (by omega) (by omega)
  omega
theorem ttimes_arith {P Q V0 V1 A x y p c lo hi T : Nat} (v1 : V1 + P * Q * p = V0 + P * Q * lo) (h : lo + 4294967296 * hi = x * y + p + c) (hv : V0 + P * Q * c = A + P * (x * T)) : V1 + P * (Q * 4294967296) * hi = A + P * (x * (T + Q * y)) := by
  have e1 : P * Q * (lo + 4294967296 * hi) = P * Q * (x * y) + P * Q * p + P * Q * c := by rw [h]; grind
  have e2 : P * Q * (lo + 4294967296 * hi) = P * Q * lo + P * (Q * 4294967296) * hi := by grind
  have e3 : P * (x * (T + Q * y)) = P * (x * T) + P * Q * (x * y) := by grind
  omega
theorem ttimes_l1 {x y : List Int} (hx : W32 x) (hy : W32 y) (hxl : x.length ≤ 1000000) (hyl : y.length ≤ 1000000) {i X : Nat} (hi : i < x.length) (hX : X < 4294967296) (eX : x.getD i 0 = (X : Int)) {p0 : Nat} {r : List Int}
    (hr : ∀ (c : Nat) (p : List Int), c < 4294967296 → W32 p → p.length = x.length + y.length → (∀ j, i + y.length ≤ j → p.getD j 0 = 0) → v32 p + 4294967296 ^ i * 4294967296 ^ y.length * c = p0 + 4294967296 ^ i * (X * v32 y) →
      Ev2 (fun k n0 => (if 0 ≤ (IntKind.i64.wrap ((i : Int) + (y.length : Int))) ∧ (IntKind.i64.wrap ((i : Int) + (y.length : Int))) < (p.length : Int) then verniertop_times.l0 k n0 x y (x.length : Int) (IntKind.i64.wrap ((i : Int) + 1)) (p.set ((IntKind.i64.wrap ((i : Int) + (y.length : Int))).toNat) (IntKind.u32.wrap (c : Int))) else none)) r) (n : Nat) :
    ∀ (j c : Nat) (p : List Int), j + n = y.length → c < 4294967296 → W32 p → p.length = x.length + y.length → (∀ q, i + y.length ≤ q → p.getD q 0 = 0) → v32 p + 4294967296 ^ i * 4294967296 ^ j * c = p0 + 4294967296 ^ i * (X * v32 (y.take j)) →
      Ev3 (fun k n0 l => verniertop_times.l1 k n0 l x y (i : Int) (c : Int) (x.length : Int) (i : Int) (y.length : Int) (j : Int) p) r := by
  induction n with
  | zero =>
    intro j c p hj hc hp hpl hz hv
    obtain rfl : j = y.length := by omega
    refine Ev3.step (fun k n0 l => verniertop_times.l1_eq k n0 l _ _ _ _ _ _ _ _ _) (Ev3.neg (dF (by omega)) ?_)
    rw [List.take_length] at hv
    exact Ev2.ev3 (hr c p hc hp hpl hz hv)
  | succ n ih =>
    intro j c p hj hc hp hpl hz hv
    refine Ev3.step (fun k n0 l => verniertop_times.l1_eq k n0 l _ _ _ _ _ _ _ _ _) ?_
    obtain ⟨Y, hY, eY⟩ := hy.getD j
    obtain ⟨q, hq, eq⟩ := hp.getD (i + j)
    have hm := tmac hX hY hq hc
    have e1 := v32_take_succ y j
    rw [eY, Int.toNat_natCast] at e1
    rw [add_i i j (by omega), succ_i j (by omega), Int.toNat_natCast, Int.toNat_natCast, Int.toNat_natCast, eX, eY, eq]
    have hXY : X * Y ≤ 4294967295 * 4294967295 := Nat.mul_le_mul (by omega) (by omega)
    have et : IntKind.u64.wrap ((c : Int) + (IntKind.u64.wrap ((IntKind.u64.wrap ((IntKind.u64.wrap (X : Int)) * (IntKind.u64.wrap (Y : Int)))) + (IntKind.u64.wrap (q : Int))))) = ((X * Y + q + c : Nat) : Int) := by
      rw [wrapUn (n := X) (by omega), wrapUn (n := Y) (by omega), wrapUn (n := q) (by omega), mulu_nat X Y (by omega), show (((X * Y : Nat) : Int) + (q : Int)) = ((X * Y + q : Nat) : Int) by omega, wrapUn (by omega), show ((c : Int) + ((X * Y + q : Nat) : Int)) = ((X * Y + q + c : Nat) : Int) by omega, wrapUn (by omega)]
    rw [et, u32w, shr32, show (2 : Nat) ^ 32 = 4294967296 from rfl]
    refine Ev3.pos (dT (by omega)) (Ev3.pos ⟨by omega, by omega⟩ (Ev3.pos ⟨by omega, by omega⟩ (Ev3.pos ⟨by omega, by omega⟩ (Ev3.pos ⟨by omega, by omega⟩ ?_))))
    have hdm := Nat.mod_add_div (X * Y + q + c) 4294967296
    have hml := Nat.mod_lt (X * Y + q + c) (show 0 < 4294967296 by decide)
    have hdl : (X * Y + q + c) / 4294967296 < 4294967296 := by omega
    generalize (X * Y + q + c) / 4294967296 = hi' at *
    generalize (X * Y + q + c) % 4294967296 = lo at *
    have sv := v32_set p (i := i + j) (by omega) (lo : Int)
    rw [eq, Int.toNat_natCast, Int.toNat_natCast, Nat.pow_add] at sv
    refine ih (j + 1) hi' _ (by omega) hdl (hp.set _ hml) (by rw [List.length_set]; exact hpl) (fun t ht => ?_) ?_
    · rw [Rex.getD_set_ne p (by omega)]; exact hz t ht
    · rw [e1, Nat.pow_succ]
      exact ttimes_arith sv hdm hv
theorem ttimes_l0 {x y : List Int} (hx : W32 x) (hy : W32 y) (hxl : x.length ≤ 400000) (hyl : y.length ≤ 400000) (n : Nat) : ∀ (i : Nat) (p : List Int), i + n = x.length → W32 p → p.length = x.length + y.length → (∀ j, i + y.length ≤ j → p.getD j 0 = 0) → v32 p = v32 (x.take i) * v32 y →
    Ev2 (fun k m => verniertop_times.l0 k m x y (x.length : Int) (i : Int) p) (d32 (v32 x * v32 y)) := by
  induction n with
  | zero =>
    intro i p hi hp hpl hz hv
    refine Ev2.step (fun k m => verniertop_times.l0_eq k m _ _ _ _ _) (Ev2.neg (dF (by omega)) (Ev2.call (Ev.eq (ttrim_ev hp (by omega)) ?_) (Ev2.some _)))
    rw [hv, List.take_of_length_le (by omega)]
  | succ n ih =>
    intro i p hi hp hpl hz hv
    refine Ev2.step (fun k m => verniertop_times.l0_eq k m _ _ _ _ _) (Ev2.pos (dT (by omega)) ?_)
    obtain ⟨X, hX, eX⟩ := hx.getD i
    have e1 := v32_take_succ x i
    rw [eX, Int.toNat_natCast] at e1
    have hfin : v32 p + 4294967296 ^ i * (X * v32 y) = v32 (x.take (i + 1)) * v32 y := by
      rw [hv, e1]; grind
    refine Ev3.ev2 (ttimes_l1 hx hy (by omega) (by omega) (i := i) (by omega) hX eX (p0 := v32 p) (fun c q hc hq hql hqz hqv => ?_) y.length 0 0 p (by omega) (by decide) hp hpl (fun t ht => hz t ht) (by simp [v32]))
    rw [succ_i i (by omega), add_i i _ (by omega), Int.toNat_natCast, u32w, Nat.mod_eq_of_lt hc]
    refine Ev2.pos ⟨by omega, by omega⟩ ?_
    have sv := v32_set q (i := i + y.length) (by omega) (c : Int)
    rw [hqz _ (Nat.le_refl _), Nat.pow_add] at sv
    simp only [Int.toNat_natCast, Int.toNat_zero, Nat.mul_zero, Nat.add_zero] at sv
    refine ih (i + 1) _ (by omega) (hq.set _ hc) (by rw [List.length_set]; exact hql) (fun t ht => ?_) (by omega)
    rw [Rex.getD_set_ne q (by omega)]; exact hqz t (by omega)
theorem ttimes_ev {n m : Nat} (hn : (d32 n).length ≤ 400000) (hm : (d32 m).length ≤ 400000) : Ev (fun k => verniertop_times k (d32 n) (d32 m)) (d32 (n * m)) := by
  refine Ev.congr (fun k => verniertop_times_eq k _ _) ?_
  rw [add_i _ _ (by omega), Int.toNat_natCast]
  have g := ttimes_l0 (W32.d32 n) (W32.d32 m) hn hm (d32 n).length 0 (List.replicate ((d32 n).length + (d32 m).length) 0) (by omega) (W32.replicate _) (by simp) (fun j hj => by simp [List.getD_eq_getElem?_getD, List.getElem?_replicate]; split <;> rfl) (by simp [v32, v32_replicate])
  rw [v32_d32, v32_d32] at g
  exact Ev.pos ⟨by omega, by omega⟩ g.ev
theorem sg_mul (s t : Bool) (x y : Nat) : sg (!(s == t)) (x * y) = sg s x * sg t y := by
  unfold sg
  cases s <;> cases t <;> simp [Int.neg_mul, Int.mul_neg]
theorem RepT.base {B : Int} {s : Bool} {l : List Int} {e v : Int} (h : RepT B s l e v) (d : Nat) (he : e ≤ B - (d : Int) + 20000) : RepT (B - (d : Int)) s l e (v * ((2 ^ d : Nat) : Int)) := by
  obtain ⟨n, h1, h2, h3, h4⟩ := h
  refine ⟨n, h1, by omega, he, ?_⟩
  rw [← h4, show (e - (B - (d : Int))).toNat = (e - B).toNat + d by omega, Nat.pow_add, ← Nat.mul_assoc]
  generalize n * 2 ^ (e - B).toNat = z
  unfold sg; cases s <;> simp [Int.neg_mul]
theorem prodT {B B' : Int} {s t : Bool} {l m : List Int} {e f v w : Int} (h : RepT B s l e v) (h' : RepT B' t m f w) (hB : -10000 ≤ B ∧ B ≤ 10000) (hB' : -10000 ≤ B' ∧ B' ≤ 10000) (he : e + f ≤ B + B' + 20000) {p : Nat} (hp : p ≤ 20000) (hv : v.natAbs < 2 ^ p) (hw : w.natAbs < 2 ^ p) :
    ∃ (l1 : List Int), Ev (fun k => verniertop_product k s l e t m f) (!(s == t), (l1, e + f)) ∧ RepT (B + B') (!(s == t)) l1 (e + f) (v * w) := by
  obtain ⟨n, rfl, n2, n3, n4⟩ := h
  obtain ⟨q, rfl, q2, q3, q4⟩ := h'
  have sn := RepT.short n4 hv
  have sq := RepT.short q4 hw
  have ln : (d32 n).length ≤ 625 := d32_short sn.2 (by omega)
  have lq : (d32 q).length ≤ 625 := d32_short sq.2 (by omega)
  refine ⟨d32 (n * q), Ev.congr (fun k => verniertop_product_eq k _ _ _ _ _ _) (Ev.bind (ttimes_ev (by omega) (by omega)) (Ev.eq (Ev.some _) ?_)), n * q, rfl, by omega, he, ?_⟩
  · rw [wrapI (by omega) (by omega)]
  · rw [← n4, ← q4, ← sg_mul, show (e + f - (B + B')).toNat = (e - B).toNat + (f - B').toNat by omega, Nat.pow_add]
    congr 1
    grind
section
variable {f : Int} {W P : Nat} {em ex : Int} (h : Fm f W P em ex)
include h
end
end Go.Proofs.Ytmoeaeflljpboaa.X
