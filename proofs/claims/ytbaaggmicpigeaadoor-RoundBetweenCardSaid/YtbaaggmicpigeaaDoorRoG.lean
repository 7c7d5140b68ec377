/- Plain law: Exact, Neg and Cmp of the numbers that fit. Conditions: the number is odd or nothing, short, its exponent moderate. -/
import Derived.Test.YtbaaggmicpigeaaDoorRoF
namespace Go.Proofs.YtbaaggmicpigeaaDoor.X
open Go Go.Rex
set_option linter.unusedVariables false

/-- A number that fits. -/
structure Ft (s : Bool) (n : Nat) (g : Int) : Prop where
  z : n = 0 → s = false ∧ g = 0
  o : n ≠ 0 → n % 2 = 1
  l : (digs n).length ≤ 200
  g0 : -8000 ≤ g
  g1 : g ≤ 30000
theorem Ft.sm {s : Bool} {n : Nat} {g : Int} (h : Ft s n g) : Sm n g := by
  have h1 := h.l; have h2 := h.g0; have h3 := h.g1
  exact ⟨by omega, by omega, by omega⟩
def fFlags (W P : Nat) (em m : Int) (s : Bool) (n : Nat) (g : Int) : Int := if n = 0 then 0 else (rnOut W P m s (rA n g (em - (P : Int) + 1)) (rB 1 g (em - (P : Int) + 1))).2
theorem exR_ft {W P : Nat} {em m : Int} {s : Bool} {n : Nat} {g : Int} (h : Ft s n g) : exR W P em m s (digs n) g = (((kNum W P em m s n g + sgB s W : Nat) : Int), (fFlags W P em m s n g, (0 : Int))) := by
  have h1 := h.l; have h2 := h.g0; have h3 := h.g1
  have hb : badE (digs n) g = 0 := by unfold badE; rw [if_neg (by omega), if_neg (by omega)]
  unfold exR
  rw [val_digs, if_neg (by rw [hb]; decide)]
  by_cases c : n = 0
  · obtain ⟨rfl, rfl⟩ := h.z c
    unfold kNum fFlags
    rw [if_pos c, if_pos c, if_pos c]
    rfl
  · unfold kNum fFlags
    rw [if_neg c, if_neg c, if_neg c, tz_of_odd (h.o c), if_neg (by omega), rnOut_bits]
/-- The order that the law asks for, from a common base on. -/
theorem cmp_ft {s t : Bool} {n k : Nat} {g f : Int} (h : Sm n g) (h' : Sm k f) {b : Int} (h1 : b ≤ g) (h2 : b ≤ f) (h3 : -200000 ≤ b) : Ev (fun q => vernierlaw05_cmp q s (digs n) g t (digs k) f) (sgn (sg s (n * p2 (g - b)) + sg (!t) (k * p2 (f - b)))) :=
  Ev.congr (fun q => vernierlaw05_cmp_eq q _ _ _ _ _ _) (Ev.bind (DCmp_ev h h' s t b h1 h2 h3) (Ev.some _))
theorem sg_not (t : Bool) (x : Nat) : sg (!t) x = -sg t x := by unfold sg; cases t <;> simp
/-- Rounding the opposite in the mirrored mode: the same place, the same flags. -/
theorem kNum_mir (W P : Nat) (em m : Int) (s : Bool) (n : Nat) (g : Int) : kNum W P em (mir m) (!s) n g = kNum W P em m s n g := by unfold kNum; rw [kOut_mir]
theorem fFlags_mir (W P : Nat) (em m : Int) (s : Bool) (n : Nat) (g : Int) : fFlags W P em (mir m) (!s) n g = fFlags W P em m s n g := by unfold fFlags; rw [flags_mir]
end Go.Proofs.YtbaaggmicpigeaaDoor.X
