/- Plain law: layer 11's remainder as one function; the law's own asked, cut, awake. Conditions: the format is one of the four, the patterns are of its width. -/
import Derived.Test.YtldjheckpophaaaDoorRemB
namespace Go.Proofs.YtldjheckpophaaaDoor.X
open Go Go.Rex
set_option linter.unusedVariables false

/-- The place of what is left. -/
def remK (P : Nat) (near : Bool) (p q : Nat) : Nat := flr P (leftR near (plV P p) (plV P q)) 1
/-- The remainder of two numbers, by sign and places. -/
def remF (W P : Nat) (near s : Bool) (p q : Nat) : Int × (Int × (Int × Int)) :=
  (((remK P near p q + sgB (signR near s (plV P p) (plV P q)) W : Nat) : Int), (((oftenR near (plV P p) (plV P q) % 8 : Nat) : Int), ((0 : Int), (0 : Int))))
theorem flr_at {P K V : Nat} (hP : 2 ≤ P) (hK : plV P K = V) : flr P V 1 = K := by
  obtain ⟨r1, r2⟩ := rnd_exact (k := K) (B := 1) hP (by decide) 2 false
  rw [Nat.mul_one, hK] at r1 r2
  rw [rnd_flr hP, r2, chs_zero] at r1
  exact r1
section
variable {f : Int} {W P : Nat} {em ex : Int} (h : Fm f W P em ex)
include h
theorem remK_ok {p q : Nat} (near : Bool) (g1 : p ≠ 0 ∧ p < infP W P) (g2 : q ≠ 0 ∧ q < infP W P) : plV P (remK P near p q) = leftR near (plV P p) (plV P q) ∧ remK P near p q < infP W P := by
  have h8 := h.p8
  obtain ⟨K, k1, k2⟩ := left_place h near g1 g2
  have := flr_at (P := P) (by omega) k1
  unfold remK
  rw [this]; exact ⟨k1, k2⟩
theorem rem_at {a b : Nat} (ha : a < 2 ^ W) (hb : b < 2 ^ W) (near : Bool) :
    Ev (fun k => rem_remainder k f (a : Int) (b : Int) near) (spZ (clsOf W P (pk W a) (ps W a)) (clsOf W P (pk W b) (ps W b)) (a : Int) ((infP W P + 2 ^ (P - 2) : Nat) : Int) (remF W P near (ps W a) (pk W a) (pk W b))) := by
  have h8 := h.p8
  obtain ⟨K, k1, k2⟩ := rem_ev h ha hb near
  refine Ev.eq k2 ?_
  by_cases g : (pk W a ≠ 0 ∧ pk W a < infP W P) ∧ (pk W b ≠ 0 ∧ pk W b < infP W P)
  · obtain ⟨q1, q2⟩ := k1 g.1 g.2
    have := flr_at (P := P) (by omega) q1
    unfold remF remK
    rw [this]
  · obtain ⟨c, hc, hcc⟩ := cls_cases (W := W) (P := P) (p := pk W a) (neg := ps W a) (Nat.two_pow_pos _)
    obtain ⟨d, hd, hdd⟩ := cls_cases (W := W) (P := P) (p := pk W b) (neg := ps W b) (Nat.two_pow_pos _)
    rw [hc, hd]
    have hn : ¬ ((c = 3 ∨ c = 4 ∨ c = 7 ∨ c = 8) ∧ (d = 3 ∨ d = 4 ∨ d = 7 ∨ d = 8)) := fun q => g ⟨by omega, by omega⟩
    have hc' : c = 0 ∨ c = 1 ∨ c = 2 ∨ c = 9 ∨ c = 5 ∨ c = 6 ∨ c = 3 ∨ c = 4 ∨ c = 7 ∨ c = 8 := by omega
    have hd' : d = 0 ∨ d = 1 ∨ d = 2 ∨ d = 9 ∨ d = 5 ∨ d = 6 ∨ d = 3 ∨ d = 4 ∨ d = 7 ∨ d = 8 := by omega
    clear hcc hdd hc hd g k1 k2
    generalize ((infP W P + 2 ^ (P - 2) : Nat) : Int) = N at *
    generalize (((K + sgB (signR near (ps W a) (plV P (pk W a)) (plV P (pk W b))) W : Nat) : Int), (((oftenR near (plV P (pk W a)) (plV P (pk W b)) % 8 : Nat) : Int), ((0 : Int), (0 : Int)))) = r1 at *
    generalize remF W P near (ps W a) (pk W a) (pk W b) = r2 at *
    rcases hc' with rfl | rfl | rfl | rfl | rfl | rfl | rfl | rfl | rfl | rfl <;> rcases hd' with rfl | rfl | rfl | rfl | rfl | rfl | rfl | rfl | rfl | rfl <;> first | rfl | exact absurd ⟨by decide, by decide⟩ hn
theorem cut11_ev {x : Nat} (hx : x < 18446744073709551616) : Ev (fun k => vernierlaw11_cut k f (x : Int)) ((x % 2 ^ W : Nat) : Int) := by
  have h8 := h.p8; have h3 := h.wp; have h64 := h.w64
  refine Ev.congr (fun k => vernierlaw11_cut_eq k _ _) (Ev.bind (Ev.of fun k => params_at h k) (Ev.neg (dF ?_) (Ev.neg (dF ?_) ?_)))
  · show ¬ ((W : Int) < 1); omega
  · show ¬ ((W : Int) > 64); omega
  show Ev (fun k => (if 0 ≤ (IntKind.u64.wrap (IntKind.i64.wrap (64 - (W : Int)))) then (if 0 ≤ (IntKind.u64.wrap (IntKind.i64.wrap (64 - (W : Int)))) then some (shrK .u64 (shlK .u64 (x : Int) (IntKind.u64.wrap (IntKind.i64.wrap (64 - (W : Int))))) (IntKind.u64.wrap (IntKind.i64.wrap (64 - (W : Int))))) else none) else none)) _
  have ew : IntKind.u64.wrap (IntKind.i64.wrap (64 - (W : Int))) = ((64 - W : Nat) : Int) := by
    rw [wrapI (by omega) (by omega), wrap_u64]; omega
  rw [ew, cut_low x W h64]
  exact Ev.pos (by omega) (Ev.pos (by omega) (Ev.some _))
end
theorem awake11_ev : Ev (fun k => vernierlaw11_awake k) true := by
  have e1 : pk 32 1084227584 = 1084227584 := by decide +kernel
  have e2 : ps 32 1084227584 = false := by decide +kernel
  have e3 : pk 32 1077936128 = 1077936128 := by decide +kernel
  have e5 : pk 32 3231711232 = 1084227584 := by decide +kernel
  have e6 : ps 32 3231711232 = true := by decide +kernel
  have v5 : plV 24 1084227584 = 5 * 2 ^ 149 := by decide +kernel
  have v3 : plV 24 1077936128 = 3 * 2 ^ 149 := by decide +kernel
  have v1 : plV 24 1065353216 = 1 * 2 ^ 149 := by decide +kernel
  have v2 : plV 24 1073741824 = 2 * 2 ^ 149 := by decide +kernel
  have hp := Nat.two_pow_pos 149
  have hi : infP 32 24 = 2139095040 := by decide +kernel
  have l1 : leftR true 5 3 = 1 := by decide
  have l2 : leftR false 5 3 = 2 := by decide
  have o1 : oftenR true 5 3 = 2 := by decide
  have o2 : oftenR false 5 3 = 1 := by decide
  have u1 : upR true 5 3 = true := by decide
  have r1 := rem_nums fm32 (a := 1084227584) (b := 1077936128) (by decide) (by decide) true (by rw [e1, hi]; decide) (by rw [e3, hi]; decide) (K := 1065353216) (by rw [e1, e3, v5, v3, v1, leftR_scale true 5 hp, l1]) (by rw [hi]; decide)
  have r2 := rem_nums fm32 (a := 3231711232) (b := 1077936128) (by decide) (by decide) false (by rw [e5, hi]; decide) (by rw [e3, hi]; decide) (K := 1073741824) (by rw [e5, e3, v5, v3, v2, leftR_scale false 5 hp, l2]) (by rw [hi]; decide)
  have s1 : signR true (ps 32 1084227584) (plV 24 (pk 32 1084227584)) (plV 24 (pk 32 1077936128)) = true := by
    unfold signR
    rw [e1, e2, e3, v5, v3, leftR_scale true 5 hp, upR_scale true 5 hp, l1, u1, if_neg (by omega), if_pos rfl]; rfl
  have s2 : signR false (ps 32 3231711232) (plV 24 (pk 32 3231711232)) (plV 24 (pk 32 1077936128)) = true := by
    unfold signR
    rw [e5, e6, e3, v5, v3, leftR_scale false 5 hp, upR_scale false 5 hp, l2, if_neg (by omega)]; rfl
  rw [s1, e1, e3, v5, v3, oftenR_scale true 5 hp, o1] at r1
  rw [s2, e5, e3, v5, v3, oftenR_scale false 5 hp, o2] at r2
  have b1 : (((1065353216 + sgB true 32 : Nat) : Int), (((2 % 8 : Nat) : Int), ((0 : Int), (0 : Int)))) = ((3212836864 : Int), ((2 : Int), ((0 : Int), (0 : Int)))) := by decide +kernel
  have b2 : (((1073741824 + sgB true 32 : Nat) : Int), (((1 % 8 : Nat) : Int), ((0 : Int), (0 : Int)))) = ((3221225472 : Int), ((1 : Int), ((0 : Int), (0 : Int)))) := by decide +kernel
  rw [b1] at r1
  rw [b2] at r2
  refine Ev.congr (fun k => vernierlaw11_awake_eq k) (Ev.bind (Remainder_ev r1) (Ev.bind (Mod_ev r2) ?_))
  exact Ev.pos rfl (Ev.pos rfl (Ev.pos rfl (Ev.pos rfl (Ev.pos rfl (Ev.pos rfl (Ev.pos rfl (Ev.some _)))))))
end Go.Proofs.YtldjheckpophaaaDoor.X
