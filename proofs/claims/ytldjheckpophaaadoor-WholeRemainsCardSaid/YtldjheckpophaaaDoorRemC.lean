/- Plain law: layer 11's remainder as one function; the law's own asked, cut, awake. Conditions: the format is one of the four, the patterns are of its width. -/
import Derived.Test.YtldjheckpophaaaDoorRemB
namespace Go.Proofs.YtldjheckpophaaaDoor.X
open Go Go.Rex
set_option linter.unusedVariables false

/-- The place of what is left. -/
def remK (P : Nat) (near : Bool) (p q : Nat) : Nat := flr P (leftR near (plV P p) (plV P q)) 1
/-- The remainder of two numbers, by sign and places. -/
def remF (W P : Nat) (near s : Bool) (p q : Nat) : Int × (Int × (Int × Int)) :=
  (((remK P near p q + sgB (signR near s (plV P p) (plV P q)) W : Nat) : Int), (((oftenR near (plV P p) (plV P q) % 8 : Nat) : Int), ((0 : Int), (0 : Int))))
theorem flr_at {P K V : Nat} (hP : 2 ≤ P) (hK : plV P K = V) : flr P V 1 = K := by
  obtain ⟨r1, r2⟩ := rnd_exact (k := K) (B := 1) hP (by decide) 2 false
  rw [Nat.mul_one, hK] at r1 r2
  rw [rnd_flr hP, r2, chs_zero] at r1
  exact r1
section
variable {f : Int} {W P : Nat} {em ex : Int} (h : Fm f W P em ex)
include h
theorem remK_ok {p q : Nat} (near : Bool) (g1 : p ≠ 0 ∧ p < infP W P) (g2 : q ≠ 0 ∧ q < infP W P) : plV P (remK P near p q) = leftR near (plV P p) (plV P q) ∧ remK P near p q < infP W P := by
  have h8 := h.p8
  obtain ⟨K, k1, k2⟩ := left_place h near g1 g2
  have := flr_at (P := P) (by omega) k1
  unfold remK
  rw [this]; exact ⟨k1, k2⟩
theorem rem_at {a b : Nat} (ha : a < 2 ^ W) (hb : b < 2 ^ W) (near : Bool) :
    Ev (fun k => rem_remainder k f (a : Int) (b : Int) near) (spZ (clsOf W P (pk W a) (ps W a)) (clsOf W P (pk W b) (ps W b)) (a : Int) ((infP W P + 2 ^ (P - 2) : Nat) : Int) (remF W P near (ps W a) (pk W a) (pk W b))) := by
  have h8 := h.p8
  obtain ⟨K, k1, k2⟩ := rem_ev h ha hb near
  refine Ev.eq k2 ?_
  by_cases g : (pk W a ≠ 0 ∧ pk W a < infP W P) ∧ (pk W b ≠ 0 ∧ pk W b < infP W P)
  · obtain ⟨q1, q2⟩ := k1 g.1 g.2
    have := flr_at (P := P) (by omega) q1
    unfold remF remK
    rw [this]
  · obtain ⟨c, hc, hcc⟩ := cls_cases (W := W) (P := P) (p := pk W a) (neg := ps W a) (Nat.two_pow_pos _)
    obtain ⟨d, hd, hdd⟩ := cls_cases (W := W) (P := P) (p := pk W b) (neg := ps W b) (Nat.two_pow_pos _)
    rw [hc, hd]
    have hn : ¬ ((c = 3 ∨ c = 4 ∨ c = 7 ∨ c = 8) ∧ (d = 3 ∨ d = 4 ∨ d = 7 ∨ d = 8)) := fun q => g ⟨by omega, by omega⟩
    have hc' : c = 0 ∨ c = 1 ∨ c = 2 ∨ c = 9 ∨ c = 5 ∨ c = 6 ∨ c = 3 ∨ c = 4 ∨ c = 7 ∨ c = 8 := by omega
    have hd' : d = 0 ∨ d = 1 ∨ d = 2 ∨ d = 9 ∨ d = 5 ∨ d = 6 ∨ d = 3 ∨ d = 4 ∨ d = 7 ∨ d = 8 := by omega
    clear hcc hdd hc hd g k1 k2
    generalize ((infP W P + 2 ^ (P - 2) : Nat) : Int) = N at *
    generalize (((K + sgB (signR near (ps W a) (plV P (pk W a)) (plV P (pk W b))) W : Nat) : Int), (((oftenR near (plV P (pk W a)) (plV P (pk W b)) % 8 : Nat) : Int), ((0 : Int), (0 : Int)))) = r1 at *
    generalize remF W P near (ps W a) (pk W a) (pk W b) = r2 at *
    rcases hc' with rfl | rfl | rfl | rfl | rfl | rfl | rfl | rfl | rfl | rfl <;> rcases hd' with rfl | rfl | rfl | rfl | rfl | rfl | rfl | rfl | rfl | rfl <;> first | rfl | exact absurd ⟨by decide, by decide⟩ hn
end
end Go.Proofs.YtldjheckpophaaaDoor.X
