/- What the printed texts of this seat lean on beside the kit's words: calls of functions without a body (math/bits.Add64, Sub64). No conditions. -/
import Derived.Test.YtjdmbhdlogbopaaDoorProg
import Derived.Test.YtjdmbhdlogbopaaDoorQ
import Derived.Laws.Externs
import Derived.Lib.Hide
import Derived.Lib.BitFns
namespace Go.Proofs.YtjdmbhdlogbopaaDoor.V
open Go.RowKit Go.Proofs.YtjdmbhdlogbopaaDoorQ.PrintWords Go.Proofs.YtjdmbhdlogbopaaDoorQ.PrintLast
set_option linter.unusedVariables false

/-- A condition that the kernel's evaluation doesn't look into. -/
structure Told (p : Prop) : Prop where mk :: (out : p)
noncomputable instance (p : Prop) : Decidable (Told p) := Classical.propDecidable _

/-- A call that runs here and now, by the model's own entry. -/
def CallsX (P : Program) (f : FuncId) (args : Array Value) (w : World) (R : Ending → World → Prop) : Prop :=
  ∃ v w', (callFunc f args).run P w = .ok (.value v) w' ∧ R (.returned v) w'
theorem CallsX.mono {P : Program} {f : FuncId} {args : Array Value} {w : World} {R R' : Ending → World → Prop}
    (h : CallsX P f args w R) (hr : ∀ e w', R e w' → R' e w') : CallsX P f args w R' :=
  let ⟨v, w', hrun, hR⟩ := h
  ⟨v, w', hrun, hr _ _ hR⟩
theorem CallsX.of_run {P : Program} {f : FuncId} {args : Array Value} {w w' : World} {v : Value} {R : Ending → World → Prop}
    (h : (callFunc f args).run P w = .ok (.value v) w') (hR : R (.returned v) w') : CallsX P f args w R := ⟨v, w', h, hR⟩

section
variable {P : Program} {ops : Array Oper} {Q : Exit → Act → World → Prop}
theorem goesX_ {oi : Oper} {N : Option Tmp} {a : Act} {w : World} {K : Act → World → Prop} {f : FuncId} {fn : Func} {aas : Array Operand} {ts : Array TypeId} (hf : P.funcs[f]? = some fn) (hname : (fn.name == "runtime.NumGoroutine") = false) (hb : fn.body.isNone = true) (args : Array Value)
    (hw : Region.wanted oi (yielded ops a.tmps) = true) (hN : oi.dst = N) (hop : oi.op = .call { callee := .value (.func f), args := aas, argTypes := ts }) (hargs : aas.map a.eval = args)
    (h : CallsX P f args w fun e w' => ∃ v, e = .returned v ∧ K (a.put N v) w') : if Region.wanted oi (yielded ops a.tmps) = true then Oper.wp P oi a w K Q else K (a.put N undef) w := by
  obtain ⟨v, w', hrun, v', hv, hK⟩ := h
  cases hv
  refine value_ hw hN ?_ hK
  unfold execOp
  simp [hop, resolve, Deferred.ofValue, invoke, Act.eval, hargs, hrun]
theorem goesLX_ {rest : List Oper} {oi : Oper} {a : Act} {w : World} (N : Option Tmp) (hd : oi.dst = N) (hg : oi.guard = none) {f : FuncId} {fn : Func} {aas : Array Operand} {ts : Array TypeId} (hf : P.funcs[f]? = some fn) (hname : (fn.name == "runtime.NumGoroutine") = false) (hb : fn.body.isNone = true) (args : Array Value)
    (hop : oi.op = .call { callee := .value (.func f), args := aas, argTypes := ts }) (hargs : aas.map a.eval = args)
    (h : CallsX P f args w fun e w' => ∃ v, e = .returned v ∧ wpList P ops Q rest (a.put N v) w') : wpList P ops Q (oi :: rest) a w := by
  obtain ⟨v, w', hrun, v', hv, hK⟩ := h
  cases hv
  refine wpList_plain hg fun K hK' => ?_
  have hrun' : (execOp a.eval oi).run P w = .ok (.value v) w' := by
    unfold execOp
    simp [hop, resolve, Deferred.ofValue, invoke, Act.eval, hargs, hrun]
  unfold Oper.wp
  rw [hrun']
  subst hd
  exact hK' _ _ hK
end

/-- The model's entry for math/bits.Sub64. -/
def sub64E : Array Value → Sem Value := fun args => do
  let (x, y, b) ← Extern.MathBitsCarry.three "Sub64" args
  pure (Extern.MathBitsCarry.pair ((x + Extern.MathBitsCarry.m64 - y - b) % Extern.MathBitsCarry.m64) (if x < y + b then 1 else 0))
theorem run_sub64E {P : Program} (x y b : Int) (hx : 0 ≤ x) (hy0 : 0 ≤ y) (hy : y < 18446744073709551616) (hb0 : 0 ≤ b) (hb : b ≤ 1) (w : World) :
    (sub64E #[.int .u64 x, .int .u64 y, .int .u64 b]).run P w =
      .ok (.tuple #[.int .u64 ((x - y - b) % 18446744073709551616), .int .u64 (if x < y + b then 1 else 0)]) w := by
  obtain ⟨x, rfl⟩ := Int.eq_ofNat_of_zero_le hx
  obtain ⟨y, rfl⟩ := Int.eq_ofNat_of_zero_le hy0
  obtain ⟨b, rfl⟩ := Int.eq_ofNat_of_zero_le hb0
  have e1 : (((x + 18446744073709551616 - y - b) % 18446744073709551616 : Nat) : Int) = ((x : Int) - y - b) % 18446744073709551616 := by omega
  have e2 : ((if x < y + b then 1 else 0 : Nat) : Int) = if (x : Int) < y + b then 1 else 0 := by split <;> split <;> omega
  rw [← e1, ← e2]
  have : b = 0 ∨ b = 1 := by omega
  rcases this with rfl | rfl <;> rfl

/-- The table of bits.Len64, and what stands at the ends of its walk. -/
theorem len8_get (j : Nat) (h : j < Lib.len8tab.size) : ((Lib.len8tab[j]'h).toNat : Int) = (Lib.bitLen j : Int) := by
  have hj : j < 256 := by rw [Lib.len8tab_size] at h; exact h
  have e := Lib.len8_eq ⟨j, hj⟩
  unfold Lib.len8 at e
  simp only [Int.toNat_natCast, getElem?_pos Lib.len8tab j h, Option.getD_some] at e
  exact e
theorem len_leaf (x j : Int) (k : Nat) (hj0 : 0 ≤ j) (hj : j < 256) (hk : k ≤ 56) (hs : Lib.bitLen x.toNat = k + Lib.bitLen j.toNat) {h : j.toNat < Lib.len8tab.size} :
    wrap64 ((k : Int) + wrap64 ((Lib.len8tab[j.toNat]'h).toNat : Int)) = (Lib.bitLen x.toNat : Int) := by
  have l := Lib.bitLen_le8' j hj0 (by omega)
  rw [len8_get, hs]
  unfold wrap64
  omega
theorem len_leaf0 (x : Int) (hj0 : 0 ≤ x) (hj : x < 256) {h : x.toNat < Lib.len8tab.size} :
    wrap64 (wrap64 ((Lib.len8tab[x.toNat]'h).toNat : Int)) = (Lib.bitLen x.toNat : Int) := by
  have l := Lib.bitLen_le8' x hj0 (by omega)
  rw [len8_get]
  unfold wrap64
  omega
end Go.Proofs.YtjdmbhdlogbopaaDoor.V
