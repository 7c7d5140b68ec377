/- The laid package variables (the formats' rows, the table of bits.TrailingZeros64) as a premise of the contracts: their cells; what they are under calls that leave old memory as it was. No conditions. -/
import Derived.Test.YtjdmbhdlogbopaaDoorVBase
import Derived.Below
import Derived.Deep.MidRow
import Derived.Lib.TrailingZeros
import Derived.Laws.Bits64b
namespace Go.Proofs.YtjdmbhdlogbopaaDoor.V
open Go.RowKit Go.Proofs.YtjdmbhdlogbopaaDoorQ.PrintWords Go.Proofs.YtjdmbhdlogbopaaDoorQ.PrintLast
set_option linter.unusedVariables false

/-- The formats' rows: width, precision, least and greatest exponent. -/
def rowsT : List Int := [16, 11, -14, 15, 16, 8, -126, 127, 32, 24, -126, 127, 64, 53, -1022, 1023]
/-- The tables' cells. -/
structure GlobR (w : World) : Prop where
  rows : ∀ j, j < 16 → w.cell? ⟨0, j, none⟩ = some (.int .i64 (rowsT.getD j 0))
structure GlobD (w : World) : Prop where
  db : ∀ j, j < 64 → w.cell? ⟨2, j, none⟩ = some (.int .u8 (Lib.deBruijn64tab.getD j 0 : Nat))
theorem cell_below {w w' : World} {a : Addr} {v : Value} (hb : Below w.heap.size w w') (hc : w.cell? a = some v) : w'.cell? a = some v := by
  rw [hb.cell (World.block_lt_of_cell? w a (by rw [hc]))]; exact hc
theorem GlobR.below {w w' : World} (h : GlobR w) (hb : Below w.heap.size w w') : A0 (GlobR w') := ⟨⟨fun j hj => cell_below hb (h.rows j hj)⟩⟩
theorem GlobD.below {w w' : World} (h : GlobD w) (hb : Below w.heap.size w w') : A0 (GlobD w') := ⟨⟨fun j hj => cell_below hb (h.db j hj)⟩⟩

section
variable {P : Program} {ops : Array Oper} {Q : Exit → Act → World → Prop}
/-- A call through a variable that holds a function. -/
theorem goesT_ {oi : Oper} {N : Option Tmp} {a : Act} {w : World} {K : Act → World → Prop} {t : Tmp} {f : FuncId} {fn : Func} {aas : Array Operand} {ts : Array TypeId} (ht : a.eval (.tmp t) = .func (.func f) #[] #[]) (hf : P.funcs[f]? = some fn) (hname : (fn.name == "runtime.NumGoroutine") = false) (hb : fn.body.isSome = true) (args : Array Value)
    (hw : Region.wanted oi (yielded ops a.tmps) = true) (hN : oi.dst = N) (hop : oi.op = .call { callee := .value (.tmp t), args := aas, argTypes := ts }) (hargs : aas.map a.eval = args)
    (h : Calls P f args w fun e w' => ∃ v, e = .returned v ∧ K (a.put N v) w') : if Region.wanted oi (yielded ops a.tmps) = true then Oper.wp P oi a w K Q else K (a.put N undef) w := by
  refine call_ f args hw hN ?_ h
  have he := enters_ hf hname hb args w
  unfold execOp
  simp [hop, resolve, Deferred.ofValue, invoke, ht, hargs, he]
end

/-- The look-up's place. -/
theorem tz_key (x a : Nat) (hx : x < 18446744073709551616) (hx0 : x ≠ 0) (hlow : x &&& (18446744073709551616 - x) = a) :
    IntKind.u64.wrap (bits BinOp.and IntKind.u64 (x : Int) (IntKind.u64.wrap (-(x : Int))) * 285870213051353865) / 288230376151711744 = ((a * 285870213051353865 % 18446744073709551616 / 288230376151711744 : Nat) : Int) := by
  have e1 : IntKind.u64.wrap (-(x : Int)) = ((18446744073709551616 - x : Nat) : Int) := by rw [IntKind.wrap_u64]; omega
  rw [e1, bits_and_u64_nat x _ hx (by omega), hlow, IntKind.wrap_u64]
  omega
end Go.Proofs.YtjdmbhdlogbopaaDoor.V
