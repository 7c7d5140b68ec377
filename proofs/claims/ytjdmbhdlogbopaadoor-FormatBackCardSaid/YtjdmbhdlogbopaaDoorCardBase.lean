/- What the laid package variables hold, cell by cell: out of the row's condition. No conditions beyond those that each states. -/
import Derived.Test.YtjdmbhdlogbopaaDoorRows
import Derived.Test.YtjdmbhdlogbopaaDoorVGlob
import Derived.ProofKit
import Derived.LaidMore
import Derived.OpenShut
import Derived.Stop.Joined
import Derived.Lib.LaidTab
namespace Go.Proofs.YtjdmbhdlogbopaaDoor.V
open Go.ChangeShapes Go.WideShapes Go.ChangeAt Go.WideMaps Go.WideElems Go.RowKit
set_option linter.unusedVariables false

section
variable {H : Type} {enc : TypeId × Value → H} {P : Program} {w : World} {base : Nat} {spare : Nat → Bool} {held : Bool}
theorem four_cells {t i0 : TypeId} {f0 f1 f2 f3 : Field} {m : Nat} {cs : List Value} {y : DataW H × List MemPlace} {a b c d : Int} (ht : P.underlying t = some (.struct #[f0, f1, f2, f3])) (hi : P.underlying i0 = some (.int .i64)) (h0 : f0.type = i0) (h1 : f1.type = i0) (h2 : f2.type = i0) (h3 : f3.type = i0)
    (o0 : f0.offset = 0) (o1 : f1.offset = 1) (o2 : f2.offset = 2) (o3 : f3.offset = 3) (hc : P.cellsOf i0 = 1) (hct : P.cellsOf t = 4) (h : DataW.trod enc P w base spare held m t cs = some y) (hy : y.1 = .agg [.lit (.int .i64 a), .lit (.int .i64 b), .lit (.int .i64 c), .lit (.int .i64 d)]) :
    cs = [.int .i64 a, .int .i64 b, .int .i64 c, .int .i64 d] := by
  obtain ⟨xs, n, _, hx, hl, hxl, hf⟩ := DataW.trod_struct ht h
  rw [hct] at hl
  have hy1 : (DataW.agg (xs.map (·.1)) : DataW H) = .agg [.lit (.int .i64 a), .lit (.int .i64 b), .lit (.int .i64 c), .lit (.int .i64 d)] := by rw [← hy, hx]
  simp only [DataW.agg.injEq] at hy1
  match xs, hxl, hy1, hf with
  | [x0, x1, x2, x3], _, hy1, hf =>
    simp only [List.map_cons, List.map_nil, List.cons.injEq, and_true] at hy1
    obtain ⟨e0, e1, e2, e3⟩ := hy1
    have g0 := hf 0 f0 rfl
    have g1 := hf 1 f1 rfl
    have g2 := hf 2 f2 rfl
    have g3 := hf 3 f3 rfl
    rw [h0, o0, hc] at g0
    rw [h1, o1, hc] at g1
    rw [h2, o2, hc] at g2
    rw [h3, o3, hc] at g3
    obtain ⟨n0, c0, d0, _⟩ := DataW.trod_int hi (show DataW.trod enc P w base spare held n i0 _ = some x0 from g0)
    obtain ⟨n1, c1, d1, _⟩ := DataW.trod_int hi (show DataW.trod enc P w base spare held n i0 _ = some x1 from g1)
    obtain ⟨n2, c2, d2, _⟩ := DataW.trod_int hi (show DataW.trod enc P w base spare held n i0 _ = some x2 from g2)
    obtain ⟨n3, c3, d3, _⟩ := DataW.trod_int hi (show DataW.trod enc P w base spare held n i0 _ = some x3 from g3)
    rw [d0] at e0; rw [d1] at e1; rw [d2] at e2; rw [d3] at e3
    simp only [DataW.lit.injEq, Lit.int.injEq, true_and] at e0 e1 e2 e3
    subst e0; subst e1; subst e2; subst e3
    match cs, hl, c0, c1, c2, c3 with
    | [v0, v1, v2, v3], _, c0, c1, c2, c3 =>
      simp at c0 c1 c2 c3
      rw [c0, c1, c2, c3]
theorem rows_cells {T t i0 : TypeId} {f0 f1 f2 f3 : Field} {m : Nat} {cs : List Value} {p : List MemPlace} (hT : P.underlying T = some (.array 4 t)) (ht : P.underlying t = some (.struct #[f0, f1, f2, f3])) (hi : P.underlying i0 = some (.int .i64)) (h0 : f0.type = i0) (h1 : f1.type = i0) (h2 : f2.type = i0) (h3 : f3.type = i0)
    (o0 : f0.offset = 0) (o1 : f1.offset = 1) (o2 : f2.offset = 2) (o3 : f3.offset = 3) (hc : P.cellsOf i0 = 1) (hct : P.cellsOf t = 4) (hcT : P.cellsOf T = 16) (h : DataW.trod enc P w base spare held m T cs = some (Rows.laid_vernier_format_rows, p)) :
    cs = rowsT.map (fun n => Value.int .i64 n) := by
  obtain ⟨xs, n, _, hx, hl, hxl, hel⟩ := DataW.trod_array hT h
  rw [hcT] at hl
  rw [hct] at hel
  simp only [Prod.mk.injEq, Rows.laid_vernier_format_rows, DataW.agg.injEq] at hx
  have hx1 := hx.1
  match xs, hxl, hx1, hel with
  | [x0, x1, x2, x3], _, hx1, hel =>
    simp only [List.map_cons, List.map_nil, List.cons.injEq, and_true] at hx1
    obtain ⟨e0, e1, e2, e3⟩ := hx1
    have g0 := four_cells ht hi h0 h1 h2 h3 o0 o1 o2 o3 hc hct (show DataW.trod enc P w base spare held n t _ = some x0 from hel 0 (by decide)) e0.symm
    have g1 := four_cells ht hi h0 h1 h2 h3 o0 o1 o2 o3 hc hct (show DataW.trod enc P w base spare held n t _ = some x1 from hel 1 (by decide)) e1.symm
    have g2 := four_cells ht hi h0 h1 h2 h3 o0 o1 o2 o3 hc hct (show DataW.trod enc P w base spare held n t _ = some x2 from hel 2 (by decide)) e2.symm
    have g3 := four_cells ht hi h0 h1 h2 h3 o0 o1 o2 o3 hc hct (show DataW.trod enc P w base spare held n t _ = some x3 from hel 3 (by decide)) e3.symm
    have split : cs = (cs.drop (0 * 4)).take 4 ++ ((cs.drop (1 * 4)).take 4 ++ ((cs.drop (2 * 4)).take 4 ++ (cs.drop (3 * 4)).take 4)) := by
      match cs, hl with
      | [_, _, _, _, _, _, _, _, _, _, _, _, _, _, _, _], _ => rfl
    rw [split, g0, g1, g2, g3]
    rfl
end
theorem rows_at (k : Nat) (hk : k < 16) : (rowsT.map (fun n => Value.int .i64 n))[k]? = some (.int .i64 (rowsT.getD k 0)) := by
  have hl : k < rowsT.length := hk
  rw [List.getElem?_map, List.getElem?_eq_getElem hl, List.getD_eq_getElem?_getD, List.getElem?_eq_getElem hl]
  rfl
/-- The table of bits.TrailingZeros64, as whole numbers. -/
def dbI : List Int := Lib.deBruijn64tab.map (fun n : Nat => (n : Int))
theorem db_at (k : Nat) (hk : k < 64) : (dbI.map (fun z => Value.int .u8 z))[k]? = some (.int .u8 (Lib.deBruijn64tab.getD k 0 : Nat)) := by
  have hl : k < Lib.deBruijn64tab.length := hk
  unfold dbI
  rw [List.getElem?_map, List.getElem?_map, List.getElem?_eq_getElem hl, List.getD_eq_getElem?_getD, List.getElem?_eq_getElem hl]
  rfl
end Go.Proofs.YtjdmbhdlogbopaaDoor.V
