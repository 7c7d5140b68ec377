/- Rex, 1: a symbolic evaluator for the model's functions and its soundness, as far as operations and regions; no conditions beyond those that each states. -/
import Derived.Below
import Derived.Orders
import Derived.KernelRfl
import Derived.Laws.FloatArith
import Derived.Laws.Sem
import Derived.Laws.Small
import Derived.Laws.BytesString
import Derived.Laws.Slices
import Derived.Laws.MakeOwn
/- Rex, part A: a symbolic evaluator for the model's functions: what it is (definitions alone). Values of a Go function are told as plain Lean data, memory as lists; no conditions. -/
namespace Go.Rex

/-! ### Letters of a string: what stands at a place, and how many bytes it takes -/
def u8c (s : ByteArray) (i : Nat) : Int := ((Utf8.decode s i).1 : Int)
def u8w (s : ByteArray) (i : Nat) : Nat := (Utf8.decode s i).2

/-! ### Floats: told by their bits; below 0: some NaN -/
def optF : Option Nat → Int
  | some r => (r : Int)
  | none => -1
/-- What two floats give. -/
def fArith (op : BinOp) (k : FloatKind) (x y : Int) : Int :=
  if 0 ≤ x ∧ 0 ≤ y then optF (floatBits op k x.toNat y.toNat) else -1
/-- How two floats stand. -/
def fOrd (k : FloatKind) (x y : Int) : Option Ordering :=
  if 0 ≤ x ∧ 0 ≤ y then k.format.order x.toNat y.toNat else none
def fCmp (op : BinOp) (k : FloatKind) (x y : Int) : Bool :=
  match op with
  | .eql => fOrd k x y == some .eq
  | .neq => fOrd k x y != some .eq
  | .lss => fOrd k x y == some .lt
  | .leq => fOrd k x y == some .lt || fOrd k x y == some .eq
  | .gtr => fOrd k x y == some .gt
  | .geq => fOrd k x y == some .gt || fOrd k x y == some .eq
  | _ => false
def fNeg (k : FloatKind) (x : Int) : Int := if 0 ≤ x then (Op.negFloat k x.toNat : Int) else -1
def fOfInt (k : FloatKind) (n : Int) : Int := (k.nearest n : Int)
/-- Is what is told of a float that becomes one of another kind told at all? -/
def fFits (j k : FloatKind) (x : Int) : Bool :=
  if j = k then true else if 0 ≤ x then
    match j.decode x.toNat with
    | .number s m e => !(k.decode (k.encode (.number s m e))).isInfinity
    | _ => true
  else true
def fConv (j k : FloatKind) (x : Int) : Int :=
  if j = k then x else if 0 ≤ x then optF (floatToFloatBits j x.toNat k) else -1
/-- Does the whole part of a float lie in a kind of integers? -/
def fIn (j : FloatKind) (k : IntKind) (x : Int) : Bool := decide (0 ≤ x) && (floatToIntVal j x.toNat k).isSome
def fInt (j : FloatKind) (k : IntKind) (x : Int) : Int := (floatToIntVal j x.toNat k).getD 0
/-- The bits of a word. -/
def fOf (x : Int) : Int := (x.toNat : Int)

/-! ### Kinds of data -/
inductive Ty where
  | int (k : IntKind) | bool | str | unit | pair (a b : Ty) | sl (t : Ty) | flt (k : FloatKind)

@[reducible] def Ty.den : Ty → Type
  | .int _ => Int
  | .bool => Bool
  | .str => ByteArray
  | .unit => Unit
  | .pair a b => a.den × b.den
  | .sl t => List t.den
  | .flt _ => Int

/-- Cells of a value. -/
def Ty.size : Ty → Nat
  | .int _ | .bool | .str | .sl _ | .flt _ => 1
  | .unit => 0
  | .pair a b => a.size + b.size

def Ty.zero : (t : Ty) → t.den
  | .int _ => (0 : Int)
  | .bool => false
  | .str => ByteArray.empty
  | .unit => ()
  | .pair a b => (a.zero, b.zero)
  | .sl _ => []
  | .flt _ => (0 : Int)

def Ty.same : (t u : Ty) → Option (PLift (t = u))
  | .int j, .int k => if h : j = k then some ⟨by rw [h]⟩ else none
  | .bool, .bool => some ⟨rfl⟩
  | .str, .str => some ⟨rfl⟩
  | .unit, .unit => some ⟨rfl⟩
  | .pair a b, .pair c d => match Ty.same a c, Ty.same b d with
    | some h, some g => some ⟨by rw [h.down, g.down]⟩
    | _, _ => none
  | .sl a, .sl b => match Ty.same a b with
    | some h => some ⟨by rw [h.down]⟩
    | none => none
  | .flt j, .flt k => if h : j = k then some ⟨by rw [h]⟩ else none
  | _, _ => none

/-- A value of one kind, as a value of another that is the same one. -/
abbrev castTy {t u : Ty} (h : t = u) (x : t.den) : u.den := h ▸ x
abbrev castL {t u : Ty} (h : t = u) (x : List t.den) : List u.den := h ▸ x

/-! ### Values -/
inductive AV0 where
  | un
  | int (k : IntKind) (x : Int)
  | bool (b : Bool)
  | str (s : ByteArray)
  /-- a float: its bits; below 0: some NaN -/
  | flt (k : FloatKind) (x : Int)
  /-- a slice that is only read -/
  | ro (t : Ty) (xs : List t.den)
  | nils
  /-- a slice of block b: from element o on, n elements, or all -/
  | sl (b o : Nat) (n : Option Nat)
  /-- the address of cell o of variable b -/
  | ref (b o : Nat)
  /-- the address of cell f of element i of block b -/
  | rel (b i f : Nat)
  /-- an address in memory that is only read: what lies there -/
  | rp (t : Ty) (x : t.den)
  /-- the address of an array that is only read -/
  | rarr (t : Ty) (xs : List t.den)
  | fn (f : Nat)
  /-- the address of an array: all of block b, of n elements -/
  | pa (b n : Nat)

abbrev V1 := Bool × List AV0
inductive AV where
  | v (a : V1)
  | tup (vs : List V1)

def AV.one (x : AV0) : AV := .v (false, [x])
def AV.un : AV := .v (false, [.un])

/-- How a block is held: only read; its window may be written; all of it is the call's own. -/
inductive Md where
  | fz | win | full

inductive Blk where
  | arr (t : Ty) (xs : List t.den) (m : Md)
  | loc (cells : List AV0)
  /-- where a walk through a string stands -/
  | iter (s : ByteArray) (pos : Nat)

def Md.rw : Md → Bool
  | .fz => false
  | _ => true

structure St where
  tm : List AV
  hp : List (Nat × Blk)
  nx : Nat

def get {α : Type} (b : Nat) : List (Nat × α) → Option α
  | [] => none
  | (c, x) :: r => if b = c then some x else get b r
/-- All that stands under a number. -/
def gets {α : Type} (b : Nat) : List (Nat × α) → List α
  | [] => []
  | (c, x) :: r => if b = c then x :: gets b r else gets b r
def del {α : Type} (b : Nat) : List (Nat × α) → List (Nat × α)
  | [] => []
  | (c, x) :: r => if b = c then del b r else (c, x) :: del b r
def upd1 {α : Type} (b : Nat) (x : Option α) (l : List (Nat × α)) : List (Nat × α) :=
  match x with
  | some y => (b, y) :: del b l
  | none => del b l
def upds {α : Type} : List (Nat × Option α) → List (Nat × α) → List (Nat × α)
  | [], l => l
  | (b, x) :: r, l => upds r (upd1 b x l)

abbrev Look := Nat → Option Blk

/-! ### Cells of a value that is only read -/
def cells : (t : Ty) → t.den → List AV0
  | .int k, x => [.int k x]
  | .bool, x => [.bool x]
  | .str, x => [.str x]
  | .unit, _ => []
  | .pair a b, x => cells a x.1 ++ cells b x.2
  | .sl t, xs => [.ro t xs]
  | .flt k, x => [.flt k x]

abbrev window {α : Type} (xs : List α) (o : Nat) : Option Nat → List α
  | none => xs.drop o
  | some m => (xs.drop o).take m

/-- A slice's elements: of the kind t; and the block that is only read from now on. -/
def elems (look : Look) (t : Ty) : AV0 → Option (List t.den × List (Nat × Option Blk))
  | .ro u xs => match Ty.same u t with
    | some h => some (castL h.down xs, [])
    | none => none
  | .nils => some ([], [])
  | .sl b o n => match look b with
    | some (.arr u xs _) => match Ty.same u t with
      | some h => some (window (castL h.down xs) o n, [(b, some (.arr u xs .fz))])
      | none => none
    | _ => none
  | _ => none

/-- The value of kind t that these cells are; what stays; the blocks that are only read from now on. -/
def uncells (look : Look) : (t : Ty) → List AV0 → Option (t.den × List AV0 × List (Nat × Option Blk))
  | .int k, l => match l with
    | .int j x :: r => if j = k then some (x, r, []) else none
    | _ => none
  | .bool, l => match l with
    | .bool x :: r => some (x, r, [])
    | _ => none
  | .str, l => match l with
    | .str x :: r => some (x, r, [])
    | _ => none
  | .unit, l => some ((), l, [])
  | .flt k, l => match l with
    | .flt j x :: r => if j = k then some (x, r, []) else none
    | _ => none
  | .pair a b, l => match uncells look a l with
    | some (x, r, u) => match uncells look b r with
      | some (y, r', u') => some ((x, y), r', u ++ u')
      | none => none
    | none => none
  | .sl t, l => match l with
    | x :: r => match elems look t x with
      | some (xs, u) => some (xs, r, u)
      | none => none
    | [] => none

/-! ### The types of a program, as far as they matter -/
inductive TD where
  | int (k : IntKind) | bool | str | flt (k : FloatKind) | slice (e : TypeId)
  /-- fields: offset, cells, is it a struct or an array -/
  | struct (fs : List (Nat × Nat × Bool))
  | array (n : Nat) (e : TypeId)
  | other

structure TI where
  d : TD
  agg : Bool
  size : Nat
  bytes : Nat
  zero : List AV0
  ty : Ty

/-! ### Contracts of functions -/
inductive AK where
  | int (k : IntKind) | bool | str | flt (k : FloatKind) | ro (t : Ty)
  /-- a slice that the call writes into -/
  | mu (t : Ty)
  /-- a slice that is given away -/
  | own (t : Ty)
  /-- the address of an element of a block that the call may write; it is told as a list of that one -/
  | pt (t : Ty)
  /-- a slice that is only read, with its spare room: the cells that are told, and how many of them it has -/
  | rm (t : Ty)
  | fn (f : Nat)

@[reducible] def AK.den : AK → Type
  | .int _ => Int
  | .flt _ => Int
  | .bool => Bool
  | .str => ByteArray
  | .ro t | .mu t | .own t | .pt t => List t.den
  | .rm t => List t.den × Nat
  | .fn _ => Unit

inductive RK where
  | int (k : IntKind) | bool | str | flt (k : FloatKind) | ro (t : Ty)
  /-- a slice in new memory -/
  | fr (t : Ty)
  /-- the same, with its spare room -/
  | fm (t : Ty)

@[reducible] def RK.den : RK → Type
  | .int _ => Int
  | .flt _ => Int
  | .bool => Bool
  | .str => ByteArray
  | .ro t | .fr t => List t.den
  | .fm t => List t.den × Nat

@[reducible] def Outs : List Type → Type
  | [] => Unit
  | [t] => t
  | t :: u :: r => t × Outs (u :: r)

@[reducible] def ArgsTo : List AK → Type → Type
  | [], R => R
  | .fn _ :: ks, R => ArgsTo ks R
  | k :: ks, R => k.den → ArgsTo ks R

structure Sig where
  ps : List (Bool × List AK)
  rs : List (Bool × List RK)

def flat {α : Type} : List (Bool × List α) → List α
  | [] => []
  | (_, l) :: r => l ++ flat r

def Sig.ks (s : Sig) : List AK := flat s.ps

/-- The kinds of what is written. -/
def muts : List AK → List Type
  | [] => []
  | .mu t :: r => List t.den :: muts r
  | .pt t :: r => List t.den :: muts r
  | _ :: r => muts r

@[reducible] def Sig.os (s : Sig) : List Type := muts (flat s.ps) ++ (flat s.rs).map RK.den
@[reducible] def Sig.Out (s : Sig) : Type := Outs s.os

structure Spec where
  sig : Sig
  F : Nat → ArgsTo sig.ks (Option sig.Out)

structure Ctx where
  T : List (Nat × TI)
  F : List (Nat × Spec)
  gl : List (Nat × AV0)

end Go.Rex
/- Rex, part B: the evaluator itself (definitions alone); no conditions. -/
namespace Go.Rex

/-- A case that is known: the kernel looks at the condition at once. -/
abbrev cif {α : Type} (c : Prop) [Decidable c] (a b : α) : α := match decide c with
  | true => a
  | false => b
theorem cif_eq {α : Type} (c : Prop) [Decidable c] (a b : α) : cif c a b = if c then a else b := by
  unfold cif
  by_cases h : c <;> simp [h]

/-! What stands for itself: the kernel unfolds a definition the sooner the more it rests on; these let it unfold the evaluator before a case that it can't tell. -/
def dmy1 : Nat := 0
def dmy2 : Nat := dmy1
def dmy3 : Nat := dmy2
def dmy4 : Nat := dmy3
def dmy5 : Nat := dmy4

/-- No list takes more bytes (b: those of an element). -/
def capOk (b n : Nat) : Bool := decide (n * b ≤ 140738562097152)
theorem capOk_le {b n : Nat} (h : capOk b n = true) : n * b ≤ 140738562097152 := of_decide_eq_true h
theorem capOk_of {b n : Nat} (h : n * b ≤ 140738562097152) : capOk b n = true := decide_eq_true h

/-! ### Arithmetic -/
def andK (k : IntKind) (x y : Int) : Int := k.wrap ((BitVec.ofInt k.bits x &&& BitVec.ofInt k.bits y).toNat)
def orK (k : IntKind) (x y : Int) : Int := k.wrap ((BitVec.ofInt k.bits x ||| BitVec.ofInt k.bits y).toNat)
def xorK (k : IntKind) (x y : Int) : Int := k.wrap ((BitVec.ofInt k.bits x ^^^ BitVec.ofInt k.bits y).toNat)
def andNotK (k : IntKind) (x y : Int) : Int := k.wrap ((BitVec.ofInt k.bits x &&& ~~~ BitVec.ofInt k.bits y).toNat)
def shlK (k : IntKind) (x y : Int) : Int := k.wrap (x * 2 ^ min y.toNat k.bits)
def shrK (k : IntKind) (x y : Int) : Int := x.fdiv (2 ^ min y.toNat k.bits)
def mxI (x y : Int) : Int := if y > x then y else x
def mnI (x y : Int) : Int := if y < x then y else x
def bt (s : ByteArray) (i : Int) : Int := ((s.data.toList.getD i.toNat 0).toNat : Int)
def bytesOf (l : List Int) : ByteArray := ⟨(l.map fun n => UInt8.ofNat n.toNat).toArray⟩

/-! ### Operands -/
def const0 : Value → AV0
  | .int k n => .int k n
  | .bool b => .bool b
  | .string s => .str s
  | .float k b => .flt k (b : Int)
  | .slice none 0 0 => .nils
  | _ => .un
def ofConst : Value → AV
  | .agg cs => .v (true, cs.toList.map const0)
  | v => .one (const0 v)
def nth : List AV → Nat → AV
  | [], _ => .un
  | x :: _, 0 => x
  | _ :: r, n + 1 => nth r n
def setNth : List AV → Nat → AV → List AV
  | [], _, _ => []
  | _ :: r, 0, v => v :: r
  | x :: r, n + 1, v => x :: setNth r n v
def put (tm : List AV) (d : Option Nat) (v : AV) : List AV :=
  match d with
  | some t => setNth tm t v
  | none => tm
def ev (C : Ctx) (tm : List AV) : Operand → AV
  | .tmp t => nth tm t
  | .const v => ofConst v
  | .func f => .one (.fn f)
  | .global g => match get g C.gl with
    | some x => .one x
    | none => .un
def isConst : Operand → Bool
  | .const (.int _ n) => decide (0 < n)
  | _ => false
def sameTmp : Operand → Operand → Bool
  | .tmp s, .tmp t => s == t
  | .const (.int _ n), .const (.int _ m) => n == m
  | _, _ => false

def noUn : List AV0 → Bool
  | [] => true
  | .un :: _ => false
  | _ :: r => noUn r

structure Eff where
  v : AV
  u : List (Nat × Option Blk)

section
variable {ρ : Type}

def k1 (K : Eff → Option ρ) (x : AV0) : Option ρ := let _ : Nat := dmy5; K ⟨.one x, []⟩

def binOp (op : BinOp) (tb yc : Bool) (x y : AV0) (K : AV0 → Option ρ) : Option ρ :=
  match x, y with
  | .int k a, .int j b =>
    match op with
    | .shl => match yc with
      | true => K (.int k (shlK k a b))
      | false => if 0 ≤ b then K (.int k (shlK k a b)) else none
    | .shr => match yc with
      | true => K (.int k (shrK k a b))
      | false => if 0 ≤ b then K (.int k (shrK k a b)) else none
    | op => cif (k = j) (
      match op with
      | .add => K (.int k (k.wrap (a + b)))
      | .sub => K (.int k (k.wrap (a - b)))
      | .mul => K (.int k (k.wrap (a * b)))
      | .quo => match yc with
        | true => K (.int k (k.wrap (a.tdiv b)))
        | false => if b = 0 then none else K (.int k (k.wrap (a.tdiv b)))
      | .rem => match yc with
        | true => K (.int k (a.tmod b))
        | false => if b = 0 then none else K (.int k (a.tmod b))
      | .and => K (.int k (andK k a b))
      | .or => K (.int k (orK k a b))
      | .xor => K (.int k (xorK k a b))
      | .andNot => K (.int k (andNotK k a b))
      | .eql => K (.bool (a == b))
      | .neq => K (.bool (a != b))
      | .lss => K (.bool (decide (a < b)))
      | .leq => K (.bool (decide (a ≤ b)))
      | .gtr => K (.bool (decide (a > b)))
      | .geq => K (.bool (decide (a ≥ b)))
      | _ => none) (none)
  | .bool a, .bool b =>
    match tb, op with
    | true, .eql => K (.bool (a == b))
    | true, .neq => K (.bool (!(a == b)))
    | _, _ => none
  | .str a, .str b =>
    match op with
    | .eql => K (.bool (a.toList == b.toList))
    | .neq => K (.bool (!(a.toList == b.toList)))
    | .add => if ((a.size + b.size : Nat) : Int) ≤ 9223372036854775807 then K (.str (a ++ b)) else none
    | _ => none
  | .flt k a, .flt j b => cif (k = j) (
    match op with
    | .add => K (.flt k (fArith .add k a b))
    | .sub => K (.flt k (fArith .sub k a b))
    | .mul => K (.flt k (fArith .mul k a b))
    | .quo => K (.flt k (fArith .quo k a b))
    | .eql => K (.bool (fCmp .eql k a b))
    | .neq => K (.bool (fCmp .neq k a b))
    | .lss => K (.bool (fCmp .lss k a b))
    | .leq => K (.bool (fCmp .leq k a b))
    | .gtr => K (.bool (fCmp .gtr k a b))
    | .geq => K (.bool (fCmp .geq k a b))
    | _ => none) (none)
  | _, _ => none

def unOp (op : UnOp) (x : AV0) (K : AV0 → Option ρ) : Option ρ :=
  match op, x with
  | .neg, .int k n => K (.int k (k.wrap (0 - n)))
  | .xor, .int k n => K (.int k (xorK k (if k.signed then -1 else k.max) n))
  | .not, .bool b => K (.bool (!b))
  | .neg, .flt k n => K (.flt k (fNeg k n))
  | _, _ => none

/-- How many, or all. -/
abbrev slLen (n : Option Nat) (l : Nat) : Nat :=
  match n with
  | some m => m
  | none => l

def lenOf (look : Look) : AV0 → Option Nat
  | .str s => some s.size
  | .ro _ xs => some xs.length
  | .nils => some 0
  | .sl b o n => match n with
    | some m => some m
    | none => match look b with
      | some (.arr _ xs _) => some (xs.length - o)
      | _ => none
  | _ => none

/-- Put cells in. -/
def over {α : Type} : List α → Nat → List α → Option (List α)
  | l, 0, [] => some l
  | _ :: l, 0, y :: ys => (over l 0 ys).map (y :: ·)
  | x :: l, o + 1, ys => (over l o ys).map (x :: ·)
  | [], _ + 1, _ => none
  | [], 0, _ :: _ => none

def nth? {α : Type} : List α → Nat → Option α
  | [], _ => none
  | x :: _, 0 => some x
  | _ :: r, n + 1 => nth? r n

def fillF (fs : List (Nat × Nat × Bool)) (ev : Operand → AV) : List (Nat × Operand) → List AV0 → Option (List AV0)
  | [], cs => some cs
  | (i, x) :: r, cs => match nth? fs i, ev x with
    | some (off, size, _), .v (g, l) => if l.length = size ∧ (g || noUn l) then
        match over cs off l with
        | some cs' => fillF fs ev r cs'
        | none => none
      else none
    | _, _ => none

def fillS (look : Look) (ev : Operand → AV) (t : Ty) : List (Nat × Operand) → List t.den → List (Nat × Option Blk) → Option (List t.den × List (Nat × Option Blk))
  | [], xs, u => some (xs, u)
  | (i, x) :: r, xs, u => match ev x with
    | .v (_, l) => match uncells look t l with
      | some (y, [], u') => if i < xs.length ∧ noUn l then fillS look ev t r (xs.set i y) (u ++ u') else none
      | _ => none
    | _ => none

def one? : AV → Option AV0
  | .v (false, [x]) => some x
  | _ => none

/-- What lies at a field of a value. -/
def proj : (t : Ty) → t.den → (off size : Nat) → Option (Sigma Ty.den)
  | .pair a b, x, off, sz => if off = 0 ∧ a.size + b.size = sz then some ⟨.pair a b, x⟩ else if off < a.size then proj a x.1 off sz else proj b x.2 (off - a.size) sz
  | t, x, off, sz => if off = 0 ∧ t.size = sz then some ⟨t, x⟩ else none

def asV (agg : Bool) (size : Nat) (l : List AV0) : Option AV :=
  match agg with
  | true => if l.length = size then some (.v (true, l)) else none
  | false => match l with
    | [x] => some (.v (false, [x]))
    | _ => none

def loadAt (C : Ctx) (look : Look) (t : TypeId) (a : AV0) : Option AV :=
  match get t C.T with
  | none => none
  | some ti => match a with
    | .ref b o => match look b with
      | some (.loc cs) => asV ti.agg ti.size ((cs.drop o).take ti.size)
      | _ => none
    | .rel b i f => match look b with
      | some (.arr u xs _) => asV ti.agg ti.size (((cells u (xs.getD i u.zero)).drop f).take ti.size)
      | _ => none
    | .rp u x => asV ti.agg ti.size (cells u x)
    | _ => none

def storeAt (C : Ctx) (look : Look) (t : TypeId) (a : AV0) (v : AV) : Option (List (Nat × Option Blk)) :=
  match get t C.T, v with
  | some ti, .v (_, l) => if l.length = ti.size ∧ noUn l then
    match a with
    | .ref b o => match look b with
      | some (.loc cs) => match over cs o l with
        | some cs' => some [(b, some (.loc cs'))]
        | none => none
      | _ => none
    | .rel b i f => match look b with
      | some (.arr u xs m) => if m.rw then
        if l.length = u.size then match f, uncells look u l with
        | 0, some (y, [], us) => if us.all (fun p => p.1 != b) then some ((b, some (.arr u (xs.set i y) m)) :: us) else none
        | _, _ => none
        else match over (cells u (xs.getD i u.zero)) f l with
        | some cs => match uncells (fun _ => none) u cs with
          | some (y, [], []) => some [(b, some (.arr u (xs.set i y) m))]
          | _ => none
        | none => none
        else none
      | _ => none
    | _ => none
    else none
  | _, _ => none

/-- The cells of an element, where the type is one of slices. -/
def elemSize (C : Ctx) (t : TypeId) : Option Nat :=
  match get t C.T with
  | some ⟨.slice e, _, _, _, _, _⟩ => match get e C.T with
    | some te => some te.size
    | none => none
  | _ => none
def isStrT (C : Ctx) (t : TypeId) : Bool := match get t C.T with
  | some ⟨.str, _, _, _, _, _⟩ => true
  | _ => false

/-- A slice of something that has n elements: from, how many. -/
def bounds (len cap : Nat) (lo hi : Option Int) (K : Nat → Option Nat → Option ρ) : Option ρ :=
  match lo, hi with
  | none, none => K 0 none
  | none, some h => if 0 ≤ h ∧ h ≤ (cap : Int) then K 0 (some h.toNat) else none
  | some l, none => if 0 ≤ l ∧ l ≤ (len : Int) then K l.toNat none else none
  | some l, some h => if 0 ≤ l ∧ l ≤ h ∧ h ≤ (cap : Int) then K l.toNat (some (h.toNat - l.toNat)) else none

def intOp (ev : Operand → AV) : Option Operand → Option (Option Int)
  | none => some none
  | some x => match ev x with
    | .v (false, [.int _ n]) => some (some n)
    | _ => none

/-- How many there are behind, if n are told, or else all. -/
def lenFrom (m : Option Nat) (l : Nat) : Option Nat → Option Nat
  | some n => some n
  | none => match m with
    | some m => some (m - l)
    | none => none

abbrev slEnd (l : Nat) (n : Option Nat) (e : Nat) : Nat :=
  match n with
  | some n => l + n
  | none => e

def sliceOp (C : Ctx) (look : Look) (t : TypeId) (x : AV0) (lo hi : Option Int) (K : AV0 → Option ρ) : Option ρ :=
  match x with
  | .str s => cif (isStrT C t) ( bounds s.size s.size lo hi fun l n => K (.str (s.extract l (slEnd l n s.size)))) (none)
  | .ro u xs => cif (elemSize C t = some u.size) ( bounds xs.length xs.length lo hi fun l n => K (.ro u (window xs l n))) (none)
  | .nils => cif (elemSize C t = none) ( none) (bounds 0 0 lo hi fun _ _ => K .nils)
  | .sl b o m => match look b with
    | some (.arr u xs _) => cif (elemSize C t = some u.size) ( bounds (slLen m (xs.length - o)) (xs.length - o) lo hi fun l n => K (.sl b (l + o) (lenFrom m l n))) (none)
    | _ => none
  | .pa b m => match look b, get t C.T with
    | some (.arr u _ _), some ⟨.array n e, _, _, _, _, _⟩ => match get e C.T with
      | some te => cif (n = m ∧ te.size = u.size) ( bounds n n lo hi fun l q => K (.sl b l q)) (none)
      | none => none
    | _, _ => none
  | _ => none

def indexAddr (C : Ctx) (look : Look) (t : TypeId) (x : AV0) (i : Int) (K : AV0 → Option ρ) : Option ρ :=
  match x with
  | .ro u xs => cif (elemSize C t = some u.size) ( if 0 ≤ i ∧ i < (xs.length : Int) then K (.rp u (xs.getD i.toNat u.zero)) else none) (none)
  | .sl b o n => match look b with
    | some (.arr u xs _) => cif (elemSize C t = some u.size) ( if 0 ≤ i ∧ i < (slLen n (xs.length - o) : Int) then K (.rel b (i.toNat + o) 0) else none) (none)
    | _ => none
  | .pa b m => match look b, get t C.T with
    | some (.arr u _ _), some ⟨.array n e, _, _, _, _, _⟩ => match get e C.T with
      | some te => cif (n = m ∧ te.size = u.size ∧ 1 < n) ( if 0 ≤ i ∧ i < (n : Int) then K (.rel b i.toNat 0) else none) (none)
      | none => none
    | _, _ => none
  | .rarr u xs => match get t C.T with
    | some ⟨.array n e, _, _, _, _, _⟩ => match get e C.T with
      | some te => cif (n = xs.length ∧ te.size = u.size ∧ 1 < n) ( if 0 ≤ i ∧ i < (n : Int) then K (.rp u (xs.getD i.toNat u.zero)) else none) (none)
      | none => none
    | _ => none
  | _ => none

/-! ### Calls -/
abbrev headO {t : Type} {r : List Type} (o : Outs (t :: r)) : t :=
  match r, o with
  | [], o => o
  | _ :: _, o => o.1
abbrev tailO {t : Type} {r : List Type} (o : Outs (t :: r)) : Outs r :=
  match r, o with
  | [], _ => ()
  | _ :: _, o => o.2
abbrev consO {t : Type} {r : List Type} (x : t) (o : Outs r) : Outs (t :: r) :=
  match r, o with
  | [], _ => x
  | _ :: _, o => (x, o)

structure Used where
  /-- only read from now on -/
  dem : List (Nat × Option Blk)
  /-- written or given away -/
  both : List Nat
  owns : List Nat

def applyArgs (look : Look) {O : Type} : (ks : List AK) → ArgsTo ks (Option O) → List AV0 → Used → Option (Option O × Used)
  | [], F, [], a => some (F, a)
  | .int k :: ks, F, .int j x :: r, a => if j = k then applyArgs look ks (F x) r a else none
  | .flt k :: ks, F, .flt j x :: r, a => if j = k then applyArgs look ks (F x) r a else none
  | .bool :: ks, F, .bool x :: r, a => applyArgs look ks (F x) r a
  | .str :: ks, F, .str x :: r, a => applyArgs look ks (F x) r a
  | .ro t :: ks, F, x :: r, a => match elems look t x with
    | some (xs, u) => applyArgs look ks (F xs) r { a with dem := a.dem ++ u }
    | none => none
  | .mu t :: ks, F, .sl b o n :: r, a => match look b with
    | some (.arr u xs m) => match m.rw, Ty.same u t with
      | true, some h => applyArgs look ks (F (window (castL h.down xs) o n)) r { a with both := a.both ++ [b] }
      | _, _ => none
    | _ => none
  | .pt t :: ks, F, .rel b o 0 :: r, a => match look b with
    | some (.arr u xs m) => match m.rw, Ty.same u t with
      | true, some h => applyArgs look ks (F (window (castL h.down xs) o (some 1))) r { a with both := a.both ++ [b] }
      | _, _ => none
    | _ => none
  | .own t :: ks, F, .sl b o n :: r, a => match look b with
    | some (.arr u xs .full) => match Ty.same u t with
      | some h => applyArgs look ks (F (window (castL h.down xs) o n)) r { a with both := a.both ++ [b], owns := a.owns ++ [b] }
      | none => none
    | _ => none
  | .own _ :: ks, F, .nils :: r, a => applyArgs look ks (F []) r a
  | .rm t :: ks, F, .sl b o n :: r, a => match o, look b with
    | 0, some (.arr u xs _) => match Ty.same u t with
      | some h => applyArgs look ks (F (castL h.down xs, slLen n xs.length)) r { a with dem := a.dem ++ [(b, some (.arr u xs .fz))] }
      | none => none
    | _, _ => none
  | .fn f :: ks, F, .fn g :: r, a => if f = g then applyArgs look ks F r a else none
  | _, _, _, _ => none

abbrev splice {α : Type} (xs : List α) (o : Nat) (n : Option Nat) (ys : List α) : List α :=
  match n with
  | none => xs.take o ++ ys
  | some m => xs.take o ++ (ys ++ xs.drop (o + m))

def putMuts (look : Look) : (ks : List AK) → List AV0 → (rest : List Type) → Outs (muts ks ++ rest) → Option (List (Nat × Option Blk) × Outs rest)
  | [], _, _, o => some ([], o)
  | .mu t :: ks, .sl b o n :: r, rest, out => match look b with
    | some (.arr u xs m) => match Ty.same u t with
      | some h => match putMuts look ks r rest (tailO out) with
        | some (us, out') => some ((b, some (.arr t (splice (castL h.down xs) o n (headO out)) m)) :: us, out')
        | none => none
      | none => none
    | _ => none
  | .mu _ :: _, _, _, _ => none
  | .pt t :: ks, .rel b o 0 :: r, rest, out => match look b with
    | some (.arr u xs m) => match Ty.same u t with
      | some h => match putMuts look ks r rest (tailO out) with
        | some (us, out') => some ((b, some (.arr t (splice (castL h.down xs) o (some 1) (headO out)) m)) :: us, out')
        | none => none
      | none => none
    | _ => none
  | .pt _ :: _, _, _, _ => none
  | .int _ :: ks, _ :: r, rest, out => putMuts look ks r rest out
  | .flt _ :: ks, _ :: r, rest, out => putMuts look ks r rest out
  | .bool :: ks, _ :: r, rest, out => putMuts look ks r rest out
  | .str :: ks, _ :: r, rest, out => putMuts look ks r rest out
  | .ro _ :: ks, _ :: r, rest, out => putMuts look ks r rest out
  | .rm _ :: ks, _ :: r, rest, out => putMuts look ks r rest out
  | .own _ :: ks, _ :: r, rest, out => putMuts look ks r rest out
  | .fn _ :: ks, _ :: r, rest, out => putMuts look ks r rest out
  | _, _, _, _ => none

def putRes : (rs : List RK) → Outs (rs.map RK.den) → Nat → List AV0 × List (Nat × Option Blk)
  | [], _, _ => ([], [])
  | .int k :: rs, o, nb => let p := putRes rs (tailO o) nb; (.int k (headO o) :: p.1, p.2)
  | .flt k :: rs, o, nb => let p := putRes rs (tailO o) nb; (.flt k (headO o) :: p.1, p.2)
  | .bool :: rs, o, nb => let p := putRes rs (tailO o) nb; (.bool (headO o) :: p.1, p.2)
  | .str :: rs, o, nb => let p := putRes rs (tailO o) nb; (.str (headO o) :: p.1, p.2)
  | .ro t :: rs, o, nb => let p := putRes rs (tailO o) nb; (.ro t (headO o) :: p.1, p.2)
  | .fr t :: rs, o, nb => let p := putRes rs (tailO o) (nb + 1); (.sl nb 0 none :: p.1, (nb, some (.arr t (headO o) .full)) :: p.2)
  | .fm t :: rs, o, nb => let p := putRes rs (tailO o) (nb + 1); (.sl nb 0 (some (headO o).2) :: p.1, (nb, some (.arr t (headO o).1 .full)) :: p.2)

def group {α : Type} : List (Bool × List α) → List AV0 → List V1
  | [], _ => []
  | (a, l) :: r, cs => (a, cs.take l.length) :: group r (cs.drop l.length)

def asRes : List V1 → AV
  | [x] => .v x
  | l => .tup l

/-- No slices in it. -/
def Ty.flat : Ty → Bool
  | .sl _ => false
  | .pair a b => a.flat && b.flat
  | _ => true
def RK.aliases : RK → Bool
  | .ro _ => true
  | .fr t | .fm t => !t.flat
  | _ => false
def AK.aliases : AK → Bool
  | .mu t => !t.flat
  | .pt t => !t.flat
  | _ => false
/-- May what is answered lead into what was handed in? -/
def Sig.aliases (s : Sig) : Bool := (flat s.rs).any RK.aliases || s.ks.any AK.aliases

def distinct : List Nat → Bool
  | [] => true
  | x :: r => r.all (fun y => x != y) && distinct r

def usedOk (a : Used) : Bool := distinct a.both && a.dem.all fun p => a.both.all fun b => p.1 != b

def shapeOk : List (Bool × List AK) → List AV → Bool
  | [], [] => true
  | (a, l) :: r, .v (b, cs) :: s => a == b && l.length == cs.length && shapeOk r s
  | _, _ => false

def leaves : List AV → List AV0
  | [] => []
  | .v (_, cs) :: r => cs ++ leaves r
  | .tup _ :: r => leaves r

/-- The effect of a call, as its contract tells it. -/
def callEff (s : Sig) (nb : Nat) (a : Used) (us : List (Nat × Option Blk)) (o' : Outs ((flat s.rs).map RK.den)) : Eff :=
  ⟨asRes (group s.rs (putRes (flat s.rs) o' nb).1), (if s.aliases then a.dem else []) ++ (us ++ (a.owns.map (fun b => (b, none)) ++ (putRes (flat s.rs) o' nb).2))⟩

def callSpec (s : Spec) (k : Nat) (look : Look) (nb : Nat) (args : List AV) (K : Eff → Option ρ) : Option ρ :=
  cif (shapeOk s.sig.ps args) (
    match applyArgs look s.sig.ks (s.F k) (leaves args) ⟨[], [], []⟩ with
    | some (out, a) => cif (usedOk a) (
        out.bind fun o => match putMuts look s.sig.ks (leaves args) ((flat s.sig.rs).map RK.den) o with
          | some (us, o') => K (callEff s.sig nb a us o')
          | none => none) (none)
    | none => none) (none)

/-- Does a contract take these arguments? -/
def fitsB (s : Spec) (k : Nat) (look : Look) (args : List AV) : Bool :=
  shapeOk s.sig.ps args && match applyArgs look s.sig.ks (s.F k) (leaves args) ⟨[], [], []⟩ with
    | some (_, a) => usedOk a
    | none => false
/-- A function may have several contracts: the first that takes the arguments. -/
def callAny (fuel : Nat) (look : Look) (nb : Nat) (args : List AV) (K : Eff → Option ρ) : List Spec → Option ρ
  | [] => none
  | [s] => callSpec s fuel look nb args K
  | s :: t :: r => cif (fitsB s fuel look args = true) (callSpec s fuel look nb args K) (callAny fuel look nb args K (t :: r))

def foldInts (f : Int → Int → Int) (k : IntKind) (x : Int) : List AV → Option Int
  | [] => some x
  | .v (false, [.int j y]) :: r => if j = k then foldInts f k (f x y) r else none
  | _ => none

/-- What append puts behind: a slice's elements, or a string's bytes. -/
def elemsX (look : Look) (t : Ty) : AV0 → Option (List t.den × List (Nat × Option Blk))
  | .str z => match Ty.same (.int .u8) t with
    | some h => some (castL h.down (z.data.toList.map fun c => (c.toNat : Int)), [])
    | none => none
  | y => elems look t y

def isOwn (look : Look) : AV0 → Bool
  | .sl b _ _ => match look b with
    | some (.arr _ _ .full) => true
    | _ => false
  | .nils => true
  | _ => false

/-- A type that stands twice in the table: its variables are held as rows of one element, so that their addresses can be handed on; of a slice's type: both lists are read on behind an append. -/
def twice {α : Type} : List α → Bool
  | _ :: _ :: _ => true
  | _ => false

/-- A slice to the block's end. -/
def isAll : AV0 → Bool
  | .sl _ _ none => true
  | _ => false

def lenTy (C : Ctx) (t : TypeId) (x : AV0) : Bool :=
  match x with
  | .str _ => isStrT C t
  | _ => (elemSize C t).isSome
def isOne (n : Option Nat) : Bool :=
  match n with
  | some 1 => true
  | _ => false

def builtinOp (C : Ctx) (look : Look) (nb : Nat) (b : Builtin) (ts : List TypeId) (args : List AV) (K : Eff → Option ρ) : Option ρ :=
  match b, args with
  | .len, [.v (false, [x])] => match ts with
    | t :: _ => match lenOf look x with
      | some n => cif (lenTy C t x) ( k1 K (.int .i64 (n : Int))) (none)
      | none => none
    | [] => none
  | .append, [.v (false, [s]), .v (false, [x])] =>
    match ts with
    | [t, t2] => match get t C.T with
      | some ⟨.slice e, _, _, _, _, _⟩ => match get e C.T with
        | some te => match elems look te.ty s, elemsX look te.ty x with
          | some (xs, us), some (ys, vs) =>
            cif (us.all (fun p => vs.all fun q => p.1 != q.1) && isOwn look s && decide (0 < te.bytes ∧ te.bytes ≤ 100) && (te.size == te.ty.size) && (isStrT C t2 || (elemSize C t2).isSome)) (
              if capOk te.bytes (xs.length + ys.length) then
                match twice (gets t C.T) && isAll s with
                | false => K ⟨.one (.sl nb 0 none), us.map (fun p => (p.1, none)) ++ [(nb, some (.arr te.ty (xs ++ ys) .full))]⟩
                | true => K ⟨.one (.sl nb 0 none), us ++ [(nb, some (.arr te.ty (xs ++ ys) .fz))]⟩
              else none) (none)
          | _, _ => none
        | none => none
      | _ => none
    | _ => none
  | .copy, [.v (false, [.sl b o n]), .v (false, [x])] =>
    match look b, ts with
    | some (.arr u xs m), t :: _ => match elems look u x with
      | some (ys, us) => cif (us.all (fun p => p.1 != b) && u.size == 1 && m.rw && isOne (elemSize C t)) (
          K ⟨.one (.int .i64 ((min ys.length (window xs o n).length : Nat) : Int)), [(b, some (.arr u (splice xs o n (ys.take (min ys.length (window xs o n).length) ++ (window xs o n).drop (min ys.length (window xs o n).length))) m))]⟩) (none)
      | none => none
    | _, _ => none
  | .max, .v (false, [.int k x]) :: r => match foldInts mxI k x r with
    | some y => k1 K (.int k y)
    | none => none
  | .min, .v (false, [.int k x]) :: r => match foldInts mnI k x r with
    | some y => k1 K (.int k y)
    | none => none
  | _, _ => none

/-- n integers, all 0. -/
def zerosB : Ty → Nat → List AV0 → Bool
  | .int k, n, l => l.length == n && l.all fun x => match x with
    | .int j y => decide (j = k ∧ y = 0)
    | _ => false
  | _, _, _ => false

def isBoolT (C : Ctx) (t : TypeId) : Bool := match get t C.T with
  | some ⟨.bool, _, _, _, _, _⟩ => true
  | _ => false

/-- One operation: its value and what becomes of memory; nb: the first number for what it makes. -/
def step (C : Ctx) (fuel : Nat) (look : Look) (ev : Operand → AV) (nb : Nat) (op : Op) (K : Eff → Option ρ) : Option ρ :=
  match op with
  | .move x | .assign x => K ⟨ev x, []⟩
  | .pick c a b => match ev c with
    | .v (false, [.bool c]) => if c then K ⟨ev a, []⟩ else K ⟨ev b, []⟩
    | _ => none
  | .alloc e => match get e C.T with
    | some ti => match twice (gets e C.T) with
      | false => cif (noUn ti.zero) ( K ⟨.one (.ref nb 0), [(nb, some (.loc ti.zero))]⟩) (none)
      | true => match ti.d with
        | .array n e' => match get e' C.T with
          | some te => cif (zerosB te.ty n ti.zero = true ∧ te.size = te.ty.size ∧ ti.size = n * te.size) ( K ⟨.one (.pa nb n), [(nb, some (.arr te.ty (List.replicate n te.ty.zero) .full))]⟩) (none)
          | none => none
        | _ => cif (ti.size = ti.ty.size) ( K ⟨.one (.rel nb 0 0), [(nb, some (.arr ti.ty [ti.ty.zero] .full))]⟩) (none)
    | none => none
  | .box _ x => match ev x with
    | .v (_, cs) => cif (noUn cs) ( K ⟨.one (.ref nb 0), [(nb, some (.loc cs))]⟩) (none)
    | _ => none
  | .build t parts => match get t C.T with
    | some ⟨.struct fs, _, _, _, zero, _⟩ => match fillF fs ev parts.toList zero with
      | some cs => K ⟨.v (true, cs), []⟩
      | none => none
    | _ => none
  | .buildSlice t n parts => match get t C.T with
    | some ⟨.slice e, _, _, _, _, _⟩ => match get e C.T with
      | some te => cif (n * te.size ≤ 16777216 ∧ te.size = te.ty.size) (
        match fillS look ev te.ty parts.toList (List.replicate n te.ty.zero) [] with
        | some (xs, us) => K ⟨.one (.sl nb 0 none), us ++ [(nb, some (.arr te.ty xs .full))]⟩
        | none => none) (none)
      | none => none
    | _ => none
  | .load t a => match one? (ev a) with
    | some x => match loadAt C look t x with
      | some v => K ⟨v, []⟩
      | none => none
    | none => none
  | .store t a x => match one? (ev a) with
    | some y => match storeAt C look t y (ev x) with
      | some us => K ⟨.un, us⟩
      | none => none
    | none => none
  | .nilCheck x => match ev x with
    | .v (false, [.ref b o]) => K ⟨.v (false, [.ref b o]), []⟩
    | .v (false, [.rel b i f]) => K ⟨.v (false, [.rel b i f]), []⟩
    | .v (false, [.rp t y]) => K ⟨.v (false, [.rp t y]), []⟩
    | .v (false, [.pa b n]) => K ⟨.v (false, [.pa b n]), []⟩
    | _ => none
  | .binOp op t x y _ => match one? (ev x), one? (ev y) with
    | some a, some b => binOp op (isBoolT C t) (isConst y) a b (k1 K)
    | _, _ => none
  | .unOp op _ x => match one? (ev x) with
    | some a => unOp op a (k1 K)
    | none => none
  | .convert s t x => match get s C.T, get t C.T, one? (ev x) with
    | some _, some ⟨.int k, _, _, _, _, _⟩, some (.int _ n) => k1 K (.int k (k.wrap n))
    | some _, some ⟨.flt k, _, _, _, _, _⟩, some (.int _ n) => k1 K (.flt k (fOfInt k n))
    | some _, some ⟨.flt k, _, _, _, _, _⟩, some (.flt j x) => cif (j = k) (k1 K (.flt j x)) (if fFits j k x then k1 K (.flt k (fConv j k x)) else none)
    | some _, some ⟨.int k, _, _, _, _, _⟩, some (.flt j x) => if fIn j k x then k1 K (.int k (fInt j k x)) else none
    | some _, some ⟨.str, _, _, _, _, _⟩, some (.str z) => k1 K (.str z)
    | some ⟨.slice e, _, _, _, _, _⟩, some ⟨.str, _, _, _, _, _⟩, some y => match get e C.T with
      | some ⟨.int .u8, _, _, _, _, _⟩ => match elems look (.int .u8) y with
        | some (xs, _) => k1 K (.str (bytesOf xs))
        | none => none
      | _ => none
    | _, _, _ => none
  | .makeSlice t l c => match get t C.T, one? (ev l), one? (ev c) with
    | some ⟨.slice e, _, _, _, _, _⟩, some (.int _ n), some (.int _ m) => match get e C.T with
      | some te => cif (te.size = te.ty.size ∧ 0 < te.bytes) (
        match sameTmp l c with
        | true => if 0 ≤ n ∧ (te.bytes : Int) * n ≤ 281474976710656 then K ⟨.one (.sl nb 0 none), [(nb, some (.arr te.ty (List.replicate n.toNat te.ty.zero) .full))]⟩ else none
        | false => if 0 ≤ n ∧ n ≤ m ∧ (te.bytes : Int) * m ≤ 281474976710656 then K ⟨.one (.sl nb 0 (some n.toNat)), [(nb, some (.arr te.ty (List.replicate m.toNat te.ty.zero) .full))]⟩ else none) (none)
      | none => none
    | _, _, _ => none
  | .slice t x lo hi none => match one? (ev x), intOp ev lo, intOp ev hi with
    | some y, some l, some h => sliceOp C look t y l h (k1 K)
    | _, _, _ => none
  | .fieldAddr s x f => match get s C.T, one? (ev x) with
    | some ⟨.struct fs, _, _, _, _, _⟩, some y => match nth? fs f with
      | some (off, size, _) => cif (0 < size) (
        match y with
        | .ref b o => k1 K (.ref b (o + off))
        | .rel b i g => k1 K (.rel b i (g + off))
        | .rp t z => match proj t z off size with
          | some ⟨u, z'⟩ => k1 K (.rp u z')
          | none => none
        | _ => none) (none)
      | none => none
    | _, _ => none
  | .field s x f => match get s C.T, ev x with
    | some ⟨.struct fs, _, _, _, _, _⟩, .v (true, cs) => match nth? fs f with
      | some (off, size, g) => match asV g size ((cs.drop off).take size) with
        | some v => K ⟨v, []⟩
        | none => none
      | none => none
    | _, _ => none
  | .indexAddr t x i => match one? (ev x), one? (ev i) with
    | some y, some (.int _ n) => indexAddr C look t y n (k1 K)
    | _, _ => none
  | .index t x i => match one? (ev x), one? (ev i) with
    | some (.str s), some (.int _ n) => cif (isStrT C t) ( if 0 ≤ n ∧ n < (s.size : Int) then k1 K (.int .u8 (bt s n)) else none) (none)
    | _, _ => none
  | .range t x => match one? (ev x) with
    | some (.str s) => cif (isStrT C t) ( K ⟨.one (.ref nb 0), [(nb, some (.iter s 0))]⟩) (none)
    | _ => none
  | .next it true => match one? (ev it) with
    | some (.ref b 0) => match look b with
      | some (.iter s p) => if p < s.size then K ⟨.tup [(false, [.bool true]), (false, [.int .i64 (p : Int)]), (false, [.int .i32 (u8c s p)])], [(b, some (.iter s (p + u8w s p)))]⟩ else K ⟨.tup [(false, [.bool false])], []⟩
      | _ => none
    | _ => none
  | .extract x i => match ev x with
    | .tup vs => match nth? vs i with
      | some v => K ⟨.v v, []⟩
      | none => none
    | _ => none
  | .call c => match c.callee with
    | .value f => match ev f with
      | .v (false, [.fn g]) => callAny fuel look nb (c.args.toList.map ev) K (gets g C.F)
      | _ => none
    | .builtin b => builtinOp C look nb b c.argTypes.toList (c.args.toList.map ev) K
    | _ => none
  | _ => none

/-! ### Regions -/
def dstOf : List Oper → Nat → Option Nat
  | [], _ => none
  | o :: _, 0 => o.dst
  | _ :: r, n + 1 => dstOf r n

/-- Is the operation carried out? -/
def wantedA (all : List Oper) (tm : List AV) (o : Oper) : Option Bool :=
  match o.guard with
  | none => some true
  | some (j, want) => match dstOf all j with
    | some t => match nth tm t with
      | .v (false, [.bool b]) => some (b == want)
      | .tup [] => some false
      | _ => none
    | none => none

def isGuard (all : List Oper) (i : Nat) : Bool := all.any fun o => match o.guard with
  | some (j, _) => j == i
  | none => false

/-- The blocks that a value leads into. -/
def ids0 : AV0 → List Nat
  | .sl b _ _ | .ref b _ | .rel b _ _ | .pa b _ => [b]
  | _ => []
def idsL : List AV0 → List Nat
  | [] => []
  | x :: r => ids0 x ++ idsL r
def ids : AV → List Nat
  | .v (_, l) => idsL l
  | .tup _ => []

def tmpsOf (all : List Oper) (o : Oper) : List Nat :=
  (o.op.operands.toList.filterMap fun | .tmp t => some (2 * t) | _ => none) ++ (match o.guard with
    | some (j, _) => (match dstOf all j with | some t => [2 * t] | none => [])
    | none => [])

structure Entry where
  i : Nat
  rd : List Nat
  wr : List Nat

def meets (a b : List Nat) : Bool := a.any fun x => b.any fun y => x == y

/-- Does each elder operation that this one doesn't go well with come first in every order? -/
def ordered (bef : Nat) (rd wr : List Nat) : List Entry → Bool
  | [] => true
  | e :: r => (!(meets e.wr rd || meets e.wr wr || meets e.rd wr) || bef.testBit e.i) && ordered bef rd wr r

def befores : List Oper → List Nat → List Nat
  | [], acc => acc
  | o :: r, acc => befores r (acc ++ [o.after.toList.foldl (fun s e => if Region.binds .any e then s ||| 2 ^ e.on ||| acc.getD e.on 0 else s) 0])

/-- Where others hang on a value, it is told as a literal. -/
def withLit (g : Bool) (e : AV) (go : AV → Option ρ) : Option ρ :=
  match g, e with
  | true, .v (false, [.bool b]) => if b then go (.v (false, [.bool true])) else go (.v (false, [.bool false]))
  | true, _ => none
  | false, v => let _ : Nat := dmy5; go v

/-- What an operation looks into: one that only hands a value on looks into none. -/
def looked (o : Oper) : List Operand := match o.op with
  | .move _ | .assign _ => []
  | _ => o.op.operands.toList
/-- What an operation looks at, and what it writes: 2t for a temporary, 2b+1 for a block. -/
def rdOf (C : Ctx) (all : List Oper) (tm : List AV) (o : Oper) : List Nat :=
  tmpsOf all o ++ ((looked o).flatMap fun x => (ids (ev C tm x)).map fun b => 2 * b + 1)
def wrOf (o : Oper) (u : List (Nat × Option Blk)) : List Nat :=
  (match o.dst with | some d => [2 * d] | none => []) ++ u.map (fun p => 2 * p.1 + 1)

/-- Does each wait for earlier ones alone? -/
def edgesOk : List Oper → Nat → Bool
  | [], _ => true
  | o :: r, i => (o.after.toList.all fun e => !Region.binds .any e || decide (e.on < i)) && edgesOk r (i + 1)

def vops (C : Ctx) (fuel : Nat) (draw : Bool) (all : List Oper) (bef : List Nat) (nx : Nat) : List Oper → Nat → List AV → List (Nat × Blk) → List Entry → (St → Option ρ) → Option ρ
  | [], i, tm, hp, _, K => K ⟨tm, hp, nx + 8 * i⟩
  | o :: r, i, tm, hp, log, K =>
    match wantedA all tm o with
    | some true => step C fuel (fun b => get b hp) (ev C tm) (nx + 8 * i) o.op fun e =>
      withLit (isGuard all i) e.v fun v =>
        match draw with
        | false => vops C fuel draw all bef nx r (i + 1) (put tm o.dst v) (upds e.u hp) log K
        | true =>
          cif (ordered (bef.getD i 0) (rdOf C all tm o) (wrOf o e.u) log) ( vops C fuel draw all bef nx r (i + 1) (put tm o.dst v) (upds e.u hp) (⟨i, rdOf C all tm o, wrOf o e.u⟩ :: log) K) (none)
    | some false => match draw with
      | false => vops C fuel draw all bef nx r (i + 1) (put tm o.dst (.tup [])) hp log K
      | true =>
        cif (ordered (bef.getD i 0) (tmpsOf all o) (wrOf o []) log) ( vops C fuel draw all bef nx r (i + 1) (put tm o.dst (.tup [])) hp (⟨i, tmpsOf all o, wrOf o []⟩ :: log) K) (none)
    | none => none

/-! ### Code -/
inductive Coe where
  | any
  | ro (t : Ty)
  | rw (t : Ty)
  /-- the same, with its spare room -/
  | fm (t : Ty)
  | cells (l : List Coe)
  /-- an array; a walk through a string -/
  | pa (t : Ty)
  | it

inductive H where
  | leaf
  | node (keep : Option (List (Nat × Coe))) (l r : H)

def H.l : H → H
  | .leaf => .leaf
  | .node _ l _ => l
def H.r : H → H
  | .leaf => .leaf
  | .node _ _ r => r
def H.keep : H → Option (List (Nat × Coe))
  | .leaf => none
  | .node k _ _ => k

/-- Renaming under way: elder number, new number; the new heap; how many new numbers. -/
structure Ren where
  map : List (Nat × Nat)
  hp : List (Nat × Blk)
  n : Nat

def canon0 (look : Look) (m : Ren) (x : AV0) (c : Coe) : AV0 × Ren :=
  match x, c with
  | .nils, .ro t => (.ro t [], m)
  | .nils, .rw t => (.sl (1000 + m.n) 0 none, ⟨m.map, m.hp ++ [(1000 + m.n, .arr t [] .full)], m.n + 1⟩)
  | .sl b o n, .rw t => match look b with
    | some (.arr u xs .full) => match Ty.same u t, get b m.map with
      | some h, none => (.sl (1000 + m.n) 0 none, ⟨(b, 1000 + m.n) :: m.map, m.hp ++ [(1000 + m.n, .arr t (window (castL h.down xs) o n) .full)], m.n + 1⟩)
      | _, _ => (.un, m)
    | _ => (.un, m)
  | .sl b o (some n), .fm t => match look b with
    | some (.arr u xs .full) => match Ty.same u t, get b m.map with
      | some h, none => (.sl (1000 + m.n) o (some n), ⟨(b, 1000 + m.n) :: m.map, m.hp ++ [(1000 + m.n, .arr t (castL h.down xs) .full)], m.n + 1⟩)
      | _, _ => (.un, m)
    | _ => (.un, m)
  | .pa b n, .pa t => match look b with
    | some (.arr u xs .full) => match Ty.same u t, get b m.map with
      | some h, none => (.pa (1000 + m.n) n, ⟨(b, 1000 + m.n) :: m.map, m.hp ++ [(1000 + m.n, .arr t (castL h.down xs) .full)], m.n + 1⟩)
      | _, _ => (.un, m)
    | _ => (.un, m)
  | .ref b o, .it => match look b with
    | some (.iter s p) => match get b m.map with
      | none => (.ref (1000 + m.n) o, ⟨(b, 1000 + m.n) :: m.map, m.hp ++ [(1000 + m.n, .iter s p)], m.n + 1⟩)
      | some _ => (.un, m)
    | _ => (.un, m)
  | .sl b o n, .ro t => match look b with
    | some (.arr u xs .fz) => match Ty.same u t with
      | some h => (.ro t (window (castL h.down xs) o n), m)
      | _ => (.un, m)
    | some (.arr u xs .full) => match Ty.same u t, get b m.map with
      | some h, none => (.ro t (window (castL h.down xs) o n), ⟨(b, 0) :: m.map, m.hp, m.n⟩)
      | some h, some 0 => (.ro t (window (castL h.down xs) o n), m)
      | _, _ => (.un, m)
    | _ => (.un, m)
  | .sl b o n, .any => match look b with
    | some (.arr _ _ .win) => if b < 1000 then (.sl b o n, m) else (.un, m)
    | _ => (.un, m)
  | .int k a, .any => (.int k a, m)
  | .flt k a, .any => (.flt k a, m)
  | .bool a, .any => (.bool a, m)
  | .str a, .any => (.str a, m)
  | .ro t xs, .ro u => match Ty.same t u with
    | some h => (.ro u (castL h.down xs), m)
    | none => (.un, m)
  | .ro t xs, .any => (.ro t xs, m)
  | .rp t y, .any => (.rp t y, m)
  | .rarr t xs, .any => (.rarr t xs, m)
  | .fn f, .any => (.fn f, m)
  | .nils, .any => (.nils, m)
  | _, _ => (.un, m)

def canonL (look : Look) : Ren → List AV0 → List Coe → List AV0 × Ren
  | m, [], _ => ([], m)
  | m, x :: r, [] => let p := canon0 look m x .any; let q := canonL look p.2 r []; (p.1 :: q.1, q.2)
  | m, x :: r, c :: cs => let p := canon0 look m x c; let q := canonL look p.2 r cs; (p.1 :: q.1, q.2)

def canonV (look : Look) (m : Ren) (x : AV) (c : Coe) : AV × Ren :=
  match x, c with
  | .v (false, [.ref b o]), .cells l => match look b, get b m.map with
    | some (.loc cs), none =>
      let p := canonL look ⟨(b, 1000 + m.n) :: m.map, m.hp, m.n + 1⟩ cs l
      if noUn p.1 then (.v (false, [.ref (1000 + m.n) o]), { p.2 with hp := p.2.hp ++ [(1000 + m.n, .loc p.1)] }) else (.un, m)
    | _, _ => (.un, m)
  | .v (true, cs), .cells l => let p := canonL look m cs l; (.v (true, p.1), p.2)
  | .v (false, [x]), c => let p := canon0 look m x c; (.v (false, [p.1]), p.2)
  | _, _ => (.un, m)

def canonT (look : Look) (old : List AV) : Ren → List (Nat × Coe) → List AV → List AV × Ren
  | m, [], tm => (tm, m)
  | m, (t, c) :: r, tm => let p := canonV look m (nth old t) c; canonT look old p.2 r (setNth tm t p.1)

/-- The blocks whose window alone is the call's own. -/
def wins : List (Nat × Blk) → List (Nat × Blk)
  | [] => []
  | (b, .arr t xs .win) :: r => if b < 1000 then (b, .arr t xs .win) :: del b (wins r) else del b (wins r)
  | (b, _) :: r => del b (wins r)

def canon (keep : List (Nat × Coe)) (S : St) : St :=
  let p := canonT (fun b => get b S.hp) S.tm ⟨[], wins S.hp, 0⟩ keep (S.tm.map fun _ => .un)
  ⟨p.1, p.2.hp, 1000 + p.2.n⟩

def H.st (h : H) (S : St) : St :=
  match h.keep with
  | none => S
  | some ks => canon ks S

inductive EX where
  | normal | exit (id : Nat) | ret

def kseq (y : St → Option ρ) (K : EX → St → Option ρ) : EX → St → Option ρ
  | .normal, S => let _ : Nat := dmy5; y S
  | e, S => K e S
/-- The rounds of a loop. -/
def iter (body : St → (EX → St → Option ρ) → Option ρ) (cn : St → St) (K : EX → St → Option ρ) : Nat → St → Option ρ
  | 0, _ => none
  | n + 1, S => let _ : Nat := dmy2; body S (kseq (fun S' => iter body cn K n (cn S')) K)
def kblock (id : Nat) (K : EX → St → Option ρ) : EX → St → Option ρ
  | .exit j, S => let _ : Nat := dmy5; cif (j = id) ( K .normal S) (K (.exit j) S)
  | e, S => K e S

/-- From here on: named, so that two such are compared part by part. -/
def jn (f : St → (EX → St → Option ρ) → Option ρ) (S : St) (K : EX → St → Option ρ) : Option ρ := f S K
/-- Where something is forgotten there is a cut. -/
abbrev jnH (h : H) (f : St → (EX → St → Option ρ) → Option ρ) (S : St) (K : EX → St → Option ρ) : Option ρ :=
  match h.keep with
  | none => f S K
  | some ks => jn f (canon ks S) K
theorem jnH_eq (h : H) (f : St → (EX → St → Option ρ) → Option ρ) (S : St) (K : EX → St → Option ρ) : jnH h f S K = f (h.st S) K := by
  unfold jnH H.st
  cases h.keep <;> rfl

def vx (C : Ctx) (fuel : Nat) : Code → H → St → (EX → St → Option ρ) → Option ρ
  | .skip, _, S, K => K .normal S
  | .label _, _, S, K => K .normal S
  | .region _ ops draw, _, S, K => match draw with
    | false => vops C fuel false ops.toList [] S.nx ops.toList 0 S.tm S.hp [] (K .normal)
    | true => cif (edgesOk ops.toList 0) ( vops C fuel true ops.toList (befores ops.toList []) S.nx ops.toList 0 S.tm S.hp [] (K .normal)) (none)
  | .seq a b, h, S, K => vx C fuel a h.l S (kseq (fun S' => jnH h.r (vx C fuel b h.r) S' K) K)
  | .cond c x y, h, S, K => match ev C S.tm c with
    | .v (false, [.bool b]) => if b then vx C fuel x h.l S K else vx C fuel y h.r S K
    | _ => none
  | .block id b, h, S, K => vx C fuel b h.l S (kblock id K)
  | .loop b, h, S, K => iter (vx C fuel b h.l) h.st K fuel (h.st S)
  | .exit id, _, S, K => K (.exit id) S
  | .ret, _, S, K => K .ret S
  | _, _, _, _ => none

/-- Where in a code; in a loop: how many rounds may still come. -/
inductive Dir where
  | a | b | thn | els | blk | loop (n : Nat)

/-- From a place in the code on. -/
def vxAt (C : Ctx) (fuel : Nat) : List Dir → Code → H → St → (EX → St → Option ρ) → Option ρ
  | [], c, h, S, K => jn (vx C fuel c h) S K
  | .a :: p, .seq x y, h, S, K => vxAt C fuel p x h.l S (kseq (fun S' => jnH h.r (vx C fuel y h.r) S' K) K)
  | .b :: p, .seq _ y, h, S, K => vxAt C fuel p y h.r S K
  | .thn :: p, .cond _ x _, h, S, K => vxAt C fuel p x h.l S K
  | .els :: p, .cond _ _ y, h, S, K => vxAt C fuel p y h.r S K
  | .blk :: p, .block id b, h, S, K => vxAt C fuel p b h.l S (kblock id K)
  | [.loop n], .loop b, h, S, K => iter (vx C fuel b h.l) h.st K n S
  | .loop n :: p, .loop b, h, S, K => vxAt C fuel p b h.l S (kseq (fun S' => iter (vx C fuel b h.l) h.st K n (h.st S')) K)
  | _, _, _, _, _ => none

/-! ### Functions -/
def mkArgs {O : Type} : (ks : List AK) → Nat → (List AV0 → List (Nat × Blk) → Option O) → ArgsTo ks (Option O)
  | [], _, f => let _ : Nat := dmy5; f [] []
  | .int k :: ks, i, f => fun x => mkArgs ks (i + 1) fun l hp => f (.int k x :: l) hp
  | .flt k :: ks, i, f => fun x => mkArgs ks (i + 1) fun l hp => f (.flt k x :: l) hp
  | .bool :: ks, i, f => fun x => mkArgs ks (i + 1) fun l hp => f (.bool x :: l) hp
  | .str :: ks, i, f => fun x => mkArgs ks (i + 1) fun l hp => f (.str x :: l) hp
  | .ro t :: ks, i, f => fun x => mkArgs ks (i + 1) fun l hp => f (.ro t x :: l) hp
  | .rm t :: ks, i, f => fun x => mkArgs ks (i + 1) fun l hp => f (.sl i 0 (some x.2) :: l) ((i, .arr t x.1 .fz) :: hp)
  | .mu t :: ks, i, f => fun x => mkArgs ks (i + 1) fun l hp => f (.sl i 0 none :: l) ((i, .arr t x .win) :: hp)
  | .own t :: ks, i, f => fun x => mkArgs ks (i + 1) fun l hp => f (.sl i 0 none :: l) ((i, .arr t x .full) :: hp)
  | .pt t :: ks, i, f => fun x => mkArgs ks (i + 1) fun l hp => f (.rel i 0 0 :: l) ((i, .arr t x .win) :: hp)
  | .fn g :: ks, i, f => mkArgs ks (i + 1) fun l hp => f (.fn g :: l) hp

def mutIds : List AK → Nat → List Nat
  | [], _ => []
  | .mu _ :: ks, i => i :: mutIds ks (i + 1)
  | .pt _ :: ks, i => i :: mutIds ks (i + 1)
  | _ :: ks, i => mutIds ks (i + 1)

/-- What is answered: the values. no: what may not be answered; ros: what is answered to be read alone. -/
def getRes (look : Look) (no ros : List Nat) : (rs : List RK) → List AV0 → Option (Outs (rs.map RK.den))
  | [], [] => some ()
  | .int k :: rs, .int j x :: r => if j = k then (getRes look no ros rs r).bind fun o => some (consO x o) else none
  | .flt k :: rs, .flt j x :: r => if j = k then (getRes look no ros rs r).bind fun o => some (consO x o) else none
  | .bool :: rs, .bool x :: r => (getRes look no ros rs r).bind fun o => some (consO x o)
  | .str :: rs, .str x :: r => (getRes look no ros rs r).bind fun o => some (consO x o)
  | .ro t :: rs, x :: r => match elems look t x with
    | some (xs, u) => if u.all (fun p => no.all fun b => p.1 != b) then (getRes look no (u.map (·.1) ++ ros) rs r).bind fun o => some (consO xs o) else none
    | none => none
  | .fr t :: rs, .nils :: r => (getRes look no ros rs r).bind fun o => some (consO (t := List t.den) [] o)
  | .fr t :: rs, .sl b o n :: r => match look b with
    | some (.arr u xs .full) => match Ty.same u t with
      | some h => if no.all (fun c => b != c) && ros.all (fun c => b != c) then (getRes look (b :: no) ros rs r).bind fun out => some (consO (window (castL h.down xs) o n) out) else none
      | none => none
    | _ => none
  | .fm t :: rs, .sl b o n :: r => match o, look b with
    | 0, some (.arr u xs .full) => match Ty.same u t with
      | some h => if no.all (fun c => b != c) && ros.all (fun c => b != c) then (getRes look (b :: no) ros rs r).bind fun out => some (consO (t := List t.den × Nat) (castL h.down xs, slLen n xs.length) out) else none
      | none => none
    | _, _ => none
  | _, _ => none

def getMuts (look : Look) : (ks : List AK) → Nat → (rest : List Type) → Outs rest → Option (Outs (muts ks ++ rest))
  | [], _, _, o => some o
  | .mu t :: ks, i, rest, o => match look i with
    | some (.arr u xs .win) => match Ty.same u t with
      | some h => (getMuts look ks (i + 1) rest o).bind fun o' => some (consO (castL h.down xs) o')
      | none => none
    | _ => none
  | .pt t :: ks, i, rest, o => match look i with
    | some (.arr u xs .win) => match Ty.same u t with
      | some h => (getMuts look ks (i + 1) rest o).bind fun o' => some (consO (castL h.down xs) o')
      | none => none
    | _ => none
  | .int _ :: ks, i, rest, o => getMuts look ks (i + 1) rest o
  | .flt _ :: ks, i, rest, o => getMuts look ks (i + 1) rest o
  | .bool :: ks, i, rest, o => getMuts look ks (i + 1) rest o
  | .str :: ks, i, rest, o => getMuts look ks (i + 1) rest o
  | .ro _ :: ks, i, rest, o => getMuts look ks (i + 1) rest o
  | .rm _ :: ks, i, rest, o => getMuts look ks (i + 1) rest o
  | .own _ :: ks, i, rest, o => getMuts look ks (i + 1) rest o
  | .fn _ :: ks, i, rest, o => getMuts look ks (i + 1) rest o

def resVals (C : Ctx) (look : Look) (tm : List AV) : List ResultVar → Option (List V1)
  | [] => some []
  | .tmp t :: r => match nth tm t with
    | .v x => (resVals C look tm r).map (x :: ·)
    | _ => none
  | .cell a t :: r => match one? (nth tm a) with
    | some x => match loadAt C look t x with
      | some (.v y) => (resVals C look tm r).map (y :: ·)
      | _ => none
    | none => none

def resShape : List (Bool × List RK) → List V1 → Bool
  | [], [] => true
  | (a, l) :: r, (b, cs) :: s => a == b && l.length == cs.length && resShape r s
  | _, _ => false

def getOut (C : Ctx) (fn : Func) (s : Sig) (S : St) : Option s.Out :=
  match resVals C (fun b => get b S.hp) S.tm fn.results.toList with
  | some vs => cif (resShape s.rs vs) (
      (getRes (fun b => get b S.hp) (mutIds s.ks 0) [] (flat s.rs) (flat vs)).bind fun o => getMuts (fun b => get b S.hp) s.ks 0 _ o) (none)
  | none => none

def kret (C : Ctx) (fn : Func) (s : Sig) : EX → St → Option s.Out
  | .normal, S => getOut C fn s S
  | .ret, S => getOut C fn s S
  | .exit _, _ => none

def start (fn : Func) (s : Sig) (l : List AV0) (hp : List (Nat × Blk)) : St :=
  ⟨(group s.ps l).map AV.v ++ List.replicate (fn.ntmps - s.ps.length) .un, hp, l.length⟩

def bodyOf (fn : Func) : Code := match fn.body with
  | some c => c
  | none => .refuse ""

def vxFun (C : Ctx) (fn : Func) (h : H) (s : Sig) (fuel : Nat) : ArgsTo s.ks (Option s.Out) :=
  mkArgs s.ks 0 fun l hp => vx C fuel (bodyOf fn) h (start fn s l hp) (kret C fn s)

end
end Go.Rex
/- Rex, part C: how the evaluator's values and memory stand to the model's, and that this stays as memory grows; no conditions beyond those that each states. -/
namespace Go.Rex

/-! ### Where a block lies -/
structure Loc where
  /-- the model's block; none: there is none, for there is nothing in it -/
  c : Option Nat
  off : Nat
  len : Nat
  sz : Nat
  ext : Nat

abbrev Map := Nat → Option Loc

/-- Are these the bits of a NaN? -/
def nanP (k : FloatKind) (b : Nat) : Prop := ∃ s f, k.format.read b = .nan s f
/-- What is told of a float, and its bits. -/
def FRel (k : FloatKind) (x : Int) (b : Nat) : Prop := (0 ≤ x → x = (b : Int)) ∧ (x < 0 → nanP k b)

/-- Cells of kind t that hold x, where slices lead into the blocks R. -/
def Enc (R : Nat → Prop) (w : World) : (t : Ty) → t.den → List Value → Prop
  | .int k, x, l => l = [.int k x]
  | .bool, x, l => l = [.bool x]
  | .str, x, l => l = [.string x]
  | .unit, _, l => l = []
  | .flt k, x, l => ∃ b, l = [.float k b] ∧ FRel k x b
  | .pair a b, x, l => ∃ l1 l2, l = l1 ++ l2 ∧ Enc R w a x.1 l1 ∧ Enc R w b x.2 l2
  | .sl t, xs, l => ∃ a c, l = [.slice a xs.length c] ∧ xs.length ≤ c ∧ (xs ≠ [] → ∃ ad, a = some ad ∧ ad.spot = none ∧ R ad.block ∧
      ∀ (i : Nat) x, xs[i]? = some x → ∃ l, Enc R w t x l ∧ ∀ (j : Nat) u, l[j]? = some u → w.cell? ⟨ad.block, ad.off + (i * t.size + j), none⟩ = some u)

theorem Enc.length {R : Nat → Prop} {w : World} : ∀ {t : Ty} {x : t.den} {l : List Value}, Enc R w t x l → l.length = t.size
  | .int _, _, _, h => by cases h; rfl
  | .bool, _, _, h => by cases h; rfl
  | .str, _, _, h => by cases h; rfl
  | .unit, _, _, h => by cases h; rfl
  | .flt _, _, _, ⟨_, e, _⟩ => by subst e; rfl
  | .pair a b, _, _, ⟨l1, l2, e, h1, h2⟩ => by subst e; simp [Ty.size, Enc.length h1, Enc.length h2]
  | .sl _, _, _, ⟨_, _, e, _⟩ => by subst e; rfl

/-- The blocks of R are in w' as they are in w. -/
def Same (R : Nat → Prop) (w w' : World) : Prop := ∀ k, R k → w'.heap[k]? = w.heap[k]?

theorem Same.cell {R : Nat → Prop} {w w' : World} (h : Same R w w') {a : Addr} (ha : R a.block) : w'.cell? a = w.cell? a := by
  unfold World.cell?; rw [h _ ha]

theorem Enc.mono {R R' : Nat → Prop} {w w' : World} (hR : ∀ k, R k → R' k) (hw : Same R w w') : ∀ {t : Ty} {x : t.den} {l : List Value}, Enc R w t x l → Enc R' w' t x l
  | .int _, _, _, h => h
  | .bool, _, _, h => h
  | .str, _, _, h => h
  | .unit, _, _, h => h
  | .flt _, _, _, h => h
  | .pair _ _, _, _, ⟨l1, l2, e, h1, h2⟩ => ⟨l1, l2, e, Enc.mono hR hw h1, Enc.mono hR hw h2⟩
  | .sl t, _, _, ⟨a, c, e, hc, h⟩ => ⟨a, c, e, hc, fun hn => by
      obtain ⟨ad, ha, hs, hr, hh⟩ := h hn
      refine ⟨ad, ha, hs, hR _ hr, fun i x hx => ?_⟩
      obtain ⟨l, hl, hc⟩ := hh i x hx
      exact ⟨l, Enc.mono hR hw hl, fun j u hu => by rw [hw.cell (a := ⟨ad.block, _, none⟩) hr]; exact hc j u hu⟩⟩

def slRel (L : Loc) (o : Nat) (n : Option Nat) (v : Value) : Prop :=
  ∃ a ln cp, v = .slice a ln cp ∧ ln ≤ cp ∧ o ≤ L.len ∧ (n = none → ln = L.len - o) ∧ (∀ m, n = some m → ln = m ∧ o + m ≤ L.len) ∧
    (L.c = none → a = none ∧ cp = 0) ∧
    ∀ c, L.c = some c → L.len ≤ o + cp ∧ (∃ ad, a = some ad ∧ (cp ≠ 0 → ad = ⟨c, L.off + o * L.sz, none⟩ ∧ L.off + (o + cp) * L.sz ≤ L.ext))

def VRel (R : Nat → Prop) (m : Map) (w : World) : AV0 → Value → Prop
  | .un, _ => True
  | .int k x, v => v = .int k x
  | .bool b, v => v = .bool b
  | .str s, v => v = .string s
  | .flt k x, v => ∃ b, v = .float k b ∧ FRel k x b
  | .ro t xs, v => Enc R w (.sl t) xs [v]
  | .nils, v => v = .slice none 0 0
  | .sl b o n, v => ∃ L, m b = some L ∧ slRel L o n v
  | .ref b o, v => ∃ L c, m b = some L ∧ L.c = some c ∧ v = .pointer (some ⟨c, L.off + o, none⟩)
  | .rel b i f, v => ∃ L c, m b = some L ∧ L.c = some c ∧ i < L.len ∧ v = .pointer (some ⟨c, L.off + (i * L.sz + f), none⟩)
  | .rp t x, v => ∃ ad l, v = .pointer (some ad) ∧ ad.spot = none ∧ R ad.block ∧ Enc R w t x l ∧ ∀ (j : Nat) u, l[j]? = some u → w.cell? ⟨ad.block, ad.off + j, none⟩ = some u
  | .rarr t xs, v => ∃ ad, v = .pointer (some ad) ∧ ad.spot = none ∧ R ad.block ∧ ∀ (i : Nat) x, xs[i]? = some x → ∃ l, Enc R w t x l ∧ ∀ (j : Nat) u, l[j]? = some u → w.cell? ⟨ad.block, ad.off + (i * t.size + j), none⟩ = some u
  | .fn f, v => v = .func (.func f) #[] #[]
  | .pa b n, v => ∃ L c, m b = some L ∧ L.c = some c ∧ L.len = n ∧ v = .pointer (some ⟨c, L.off, none⟩)

/-- One map says no less than another. -/
def Ext (m m' : Map) : Prop := ∀ b L, m b = some L → m' b = some L

theorem VRel.mono {R R' : Nat → Prop} {m m' : Map} {w w' : World} (hR : ∀ k, R k → R' k) (hw : Same R w w') (hm : Ext m m') : ∀ {x : AV0} {v : Value}, VRel R m w x v → VRel R' m' w' x v
  | .un, _, _ => trivial
  | .int _ _, _, h => h
  | .bool _, _, h => h
  | .str _, _, h => h
  | .flt _ _, _, h => h
  | .ro _ _, _, h => Enc.mono hR hw h
  | .nils, _, h => h
  | .sl _ _ _, _, ⟨L, h, r⟩ => ⟨L, hm _ _ h, r⟩
  | .ref _ _, _, ⟨L, c, h, r⟩ => ⟨L, c, hm _ _ h, r⟩
  | .rel _ _ _, _, ⟨L, c, h, r⟩ => ⟨L, c, hm _ _ h, r⟩
  | .rp _ _, _, ⟨ad, l, h1, h2, h3, h4, h5⟩ => ⟨ad, l, h1, h2, hR _ h3, Enc.mono hR hw h4, fun j u hu => by rw [hw.cell (a := ⟨ad.block, _, none⟩) h3]; exact h5 j u hu⟩
  | .rarr _ _, _, ⟨ad, h1, h2, h3, h4⟩ => ⟨ad, h1, h2, hR _ h3, fun i x hx => by
      obtain ⟨l, hl, hc⟩ := h4 i x hx
      exact ⟨l, Enc.mono hR hw hl, fun j u hu => by rw [hw.cell (a := ⟨ad.block, _, none⟩) h3]; exact hc j u hu⟩⟩
  | .fn _, _, h => h
  | .pa _ _, _, ⟨L, c, h, r⟩ => ⟨L, c, hm _ _ h, r⟩

/-- Cell by cell. -/
def CRel (R : Nat → Prop) (m : Map) (w : World) : List AV0 → List Value → Prop
  | [], [] => True
  | x :: r, v :: s => VRel R m w x v ∧ CRel R m w r s
  | _, _ => False

theorem CRel.mono {R R' : Nat → Prop} {m m' : Map} {w w' : World} (hR : ∀ k, R k → R' k) (hw : Same R w w') (hm : Ext m m') : ∀ {l : List AV0} {s : List Value}, CRel R m w l s → CRel R' m' w' l s
  | [], [], _ => trivial
  | _ :: _, _ :: _, h => ⟨h.1.mono hR hw hm, h.2.mono hR hw hm⟩
  | [], _ :: _, h => h.elim
  | _ :: _, [], h => h.elim

theorem CRel.length {R : Nat → Prop} {m : Map} {w : World} : ∀ {l : List AV0} {s : List Value}, CRel R m w l s → l.length = s.length
  | [], [], _ => rfl
  | _ :: _, _ :: _, h => by simp [h.2.length]
  | [], _ :: _, h => h.elim
  | _ :: _, [], h => h.elim

theorem CRel.append {R : Nat → Prop} {m : Map} {w : World} : ∀ {l : List AV0} {s : List Value} {l' : List AV0} {s' : List Value}, CRel R m w l s → CRel R m w l' s' → CRel R m w (l ++ l') (s ++ s')
  | [], [], _, _, _, h' => h'
  | _ :: _, _ :: _, _, _, h, h' => ⟨h.1, h.2.append h'⟩
  | [], _ :: _, _, _, h, _ => h.elim
  | _ :: _, [], _, _, h, _ => h.elim

theorem CRel.drop {R : Nat → Prop} {m : Map} {w : World} : ∀ (n : Nat) {l : List AV0} {s : List Value}, CRel R m w l s → CRel R m w (l.drop n) (s.drop n)
  | 0, _, _, h => h
  | _ + 1, [], [], _ => trivial
  | n + 1, _ :: _, _ :: _, h => CRel.drop n h.2
  | _ + 1, [], _ :: _, h => h.elim
  | _ + 1, _ :: _, [], h => h.elim

theorem CRel.take {R : Nat → Prop} {m : Map} {w : World} : ∀ (n : Nat) {l : List AV0} {s : List Value}, CRel R m w l s → CRel R m w (l.take n) (s.take n)
  | 0, _, _, _ => by simp [CRel]
  | _ + 1, [], [], _ => trivial
  | n + 1, _ :: _, _ :: _, h => ⟨h.1, CRel.take n h.2⟩
  | _ + 1, [], _ :: _, h => h.elim
  | _ + 1, _ :: _, [], h => h.elim

theorem CRel.get {R : Nat → Prop} {m : Map} {w : World} : ∀ {l : List AV0} {s : List Value}, CRel R m w l s → ∀ (j : Nat) x, l[j]? = some x → ∃ u, s[j]? = some u ∧ VRel R m w x u
  | [], [], _, _, _, h => by simp at h
  | _ :: _, v :: _, h, 0, _, hx => by simp at hx; subst hx; exact ⟨v, rfl, h.1⟩
  | _ :: _, _ :: _, h, j + 1, x, hx => by
    obtain ⟨u, hu, hv⟩ := h.2.get j x (by simpa using hx)
    exact ⟨u, by simpa using hu, hv⟩
  | [], _ :: _, h, _, _, _ => h.elim
  | _ :: _, [], h, _, _, _ => h.elim

theorem CRel.mk {R : Nat → Prop} {m : Map} {w : World} : ∀ {l : List AV0} {s : List Value}, l.length = s.length → (∀ (j : Nat) x u, l[j]? = some x → s[j]? = some u → VRel R m w x u) → CRel R m w l s
  | [], [], _, _ => trivial
  | x :: _, v :: _, hl, h => ⟨h 0 x v rfl rfl, CRel.mk (by simpa using hl) fun j y u hy hu => h (j + 1) y u (by simpa using hy) (by simpa using hu)⟩
  | [], _ :: _, h, _ => by simp at h
  | _ :: _, [], h, _ => by simp at h

def V1Rel (R : Nat → Prop) (m : Map) (w : World) : V1 → Value → Prop
  | (false, [x]), v => VRel R m w x v
  | (false, _), _ => False
  | (true, l), v => ∃ vs : Array Value, v = .agg vs ∧ CRel R m w l vs.toList

def V1sRel (R : Nat → Prop) (m : Map) (w : World) : List V1 → List Value → Prop
  | [], [] => True
  | x :: r, v :: s => V1Rel R m w x v ∧ V1sRel R m w r s
  | _, _ => False

def AVRel (R : Nat → Prop) (m : Map) (w : World) : AV → Value → Prop
  | .v x, v => V1Rel R m w x v
  | .tup l, v => ∃ vs : Array Value, v = .tuple vs ∧ V1sRel R m w l vs.toList

theorem V1Rel.mono {R R' : Nat → Prop} {m m' : Map} {w w' : World} (hR : ∀ k, R k → R' k) (hw : Same R w w') (hm : Ext m m') : ∀ {x : V1} {v : Value}, V1Rel R m w x v → V1Rel R' m' w' x v
  | (false, [_]), _, h => VRel.mono hR hw hm h
  | (false, []), _, h => h.elim
  | (false, _ :: _ :: _), _, h => h.elim
  | (true, _), _, ⟨vs, e, h⟩ => ⟨vs, e, h.mono hR hw hm⟩

theorem V1sRel.mono {R R' : Nat → Prop} {m m' : Map} {w w' : World} (hR : ∀ k, R k → R' k) (hw : Same R w w') (hm : Ext m m') : ∀ {x : List V1} {v : List Value}, V1sRel R m w x v → V1sRel R' m' w' x v
  | [], [], _ => trivial
  | _ :: _, _ :: _, h => ⟨h.1.mono hR hw hm, h.2.mono hR hw hm⟩
  | [], _ :: _, h => h.elim
  | _ :: _, [], h => h.elim

theorem AVRel.mono {R R' : Nat → Prop} {m m' : Map} {w w' : World} (hR : ∀ k, R k → R' k) (hw : Same R w w') (hm : Ext m m') : ∀ {x : AV} {v : Value}, AVRel R m w x v → AVRel R' m' w' x v
  | .v _, _, h => V1Rel.mono hR hw hm h
  | .tup _, _, ⟨vs, e, h⟩ => ⟨vs, e, h.mono hR hw hm⟩

theorem AVRel.un {R : Nat → Prop} {m : Map} {w : World} (v : Value) : AVRel R m w .un v := trivial

/-! ### Blocks -/
def BRel (R : Nat → Prop) (m : Map) (w : World) (L : Loc) : Blk → Prop
  | .arr t xs md => xs.length = L.len ∧ L.sz = t.size ∧ (L.c = none → xs = []) ∧ ∀ c, L.c = some c → ∃ cs e fr, w.heap[c]? = some (.cells cs e fr) ∧ cs.size = L.ext ∧ L.off + L.len * L.sz ≤ L.ext ∧ (md ≠ .fz → fr = (0, 0)) ∧
      ∀ (i : Nat) x, xs[i]? = some x → ∃ l, Enc R w t x l ∧ ∀ (j : Nat) u, l[j]? = some u → cs[L.off + (i * t.size + j)]? = some u
  | .loc cells => ∃ c cs e, L.c = some c ∧ L.off = 0 ∧ noUn cells = true ∧ w.heap[c]? = some (.cells cs e (0, 0)) ∧ CRel R m w cells cs.toList
  | .iter s p => ∃ c, L.c = some c ∧ L.off = 0 ∧ w.heap[c]? = some (.stringIter s p)

def Blk.md : Blk → Md
  | .arr _ _ m => m
  | .loc _ => .full
  | .iter _ _ => .full

/-- What may be written of a block. -/
def Owns (L : Loc) : Md → Nat → Prop
  | .fz, _ => False
  | .win, j => L.off ≤ j ∧ j < L.off + L.len * L.sz
  | .full, _ => True

theorem BRel.mono {R R' : Nat → Prop} {m m' : Map} {w w' : World} {L : Loc} (hR : ∀ k, R k → R' k) (hw : Same R w w') (hm : Ext m m') (hc : ∀ c, L.c = some c → w'.heap[c]? = w.heap[c]?) : ∀ {B : Blk}, BRel R m w L B → BRel R' m' w' L B
  | .arr _ _ _, ⟨h1, h2, h3, h4⟩ => ⟨h1, h2, h3, fun c e => by
      obtain ⟨cs, el, fr, g1, g2, g3, g4, g5⟩ := h4 c e
      exact ⟨cs, el, fr, (hc c e).trans g1, g2, g3, g4, fun i x hx => (g5 i x hx).imp fun _ ⟨a, b⟩ => ⟨a.mono hR hw, b⟩⟩⟩
  | .loc _, ⟨c, cs, e, h1, h2, h0, h3, h4⟩ => ⟨c, cs, e, h1, h2, h0, (hc c h1).trans h3, h4.mono hR hw hm⟩
  | .iter _ _, ⟨c, h1, h2, h3⟩ => ⟨c, h1, h2, (hc c h1).trans h3⟩

theorem BRel.lt {R : Nat → Prop} {m : Map} {w : World} {L : Loc} {c : Nat} (hc : L.c = some c) : ∀ {B : Blk}, BRel R m w L B → c < w.heap.size
  | .arr _ _ _, ⟨_, _, _, h4⟩ => by
      obtain ⟨cs, el, fr, g1, _⟩ := h4 c hc
      exact (Array.getElem?_eq_some_iff.1 g1).1
  | .loc _, ⟨c', cs, e, h1, _, _, h3, _⟩ => by
      rw [hc] at h1; cases h1
      exact (Array.getElem?_eq_some_iff.1 h3).1
  | .iter _ _, ⟨c', h1, _, h3⟩ => by
      rw [hc] at h1; cases h1
      exact (Array.getElem?_eq_some_iff.1 h3).1

/-! ### How a world may change -/
structure Keeps (X : Nat → Nat → Prop) (w w' : World) : Prop where
  os : w'.os = w.os
  tape : w'.tape = w.tape
  output : w'.output = w.output
  size : w.heap.size ≤ w'.heap.size
  cells : ∀ (k : Nat) cs e fr, w.heap[k]? = some (.cells cs e fr) → ∃ cs', w'.heap[k]? = some (.cells cs' e fr) ∧ cs'.size = cs.size ∧ ∀ (j : Nat), ¬ X k j → cs'[j]? = cs[j]?
  other : ∀ (k : Nat) o, w.heap[k]? = some o → (∀ j, ¬ X k j) → w'.heap[k]? = some o

theorem Keeps.refl (X : Nat → Nat → Prop) (w : World) : Keeps X w w :=
  ⟨rfl, rfl, rfl, Nat.le_refl _, fun _ cs _ _ h => ⟨cs, h, rfl, fun _ _ => rfl⟩, fun _ _ h _ => h⟩

theorem Keeps.mono {X Y : Nat → Nat → Prop} {w w' : World} (h : Keeps X w w') (hX : ∀ k, k < w.heap.size → ∀ j, X k j → Y k j) : Keeps Y w w' :=
  ⟨h.os, h.tape, h.output, h.size, fun k cs e fr hk => by
      obtain ⟨cs', a, b, c⟩ := h.cells k cs e fr hk
      exact ⟨cs', a, b, fun j hj => c j fun hx => hj (hX k (Array.getElem?_eq_some_iff.1 hk).1 j hx)⟩,
    fun k o hk hj => h.other k o hk fun j hx => hj j (hX k (Array.getElem?_eq_some_iff.1 hk).1 j hx)⟩

theorem Keeps.trans {X Y : Nat → Nat → Prop} {a b c : World} (h : Keeps X a b) (k : Keeps Y b c) : Keeps (fun i j => X i j ∨ Y i j) a c :=
  ⟨k.os.trans h.os, k.tape.trans h.tape, k.output.trans h.output, Nat.le_trans h.size k.size, fun i cs e fr hi => by
      obtain ⟨cs', a1, a2, a3⟩ := h.cells i cs e fr hi
      obtain ⟨cs'', b1, b2, b3⟩ := k.cells i cs' e fr a1
      exact ⟨cs'', b1, b2.trans a2, fun j hj => (b3 j fun hx => hj (.inr hx)).trans (a3 j fun hx => hj (.inl hx))⟩,
    fun i o hi hj => k.other i o (h.other i o hi fun j hx => hj j (.inl hx)) fun j hx => hj j (.inr hx)⟩

theorem Keeps.same {X : Nat → Nat → Prop} {w w' : World} (h : Keeps X w w') {k : Nat} (hk : k < w.heap.size) (hX : ∀ j, ¬ X k j) : w'.heap[k]? = w.heap[k]? := by
  rw [Array.getElem?_eq_getElem hk]
  exact h.other k _ (Array.getElem?_eq_getElem hk) hX

/-- A new block. -/
theorem Keeps.alloc (X : Nat → Nat → Prop) (w : World) (o : Obj) : Keeps X w { w with heap := w.heap.push o } := by
  have key : ∀ (k : Nat) o', w.heap[k]? = some o' → (w.heap.push o)[k]? = some o' := fun k o' hk => by
    have := (Array.getElem?_eq_some_iff.1 hk).1
    rw [Array.getElem?_push, if_neg (by omega)]; exact hk
  exact ⟨rfl, rfl, rfl, by simp, fun k cs e fr h => ⟨cs, key k _ h, rfl, fun _ _ => rfl⟩, fun k o' h _ => key k _ h⟩

theorem Keeps.drew (X : Nat → Nat → Prop) (w : World) (n : Nat) : Keeps X w { w with drawn := n } :=
  ⟨rfl, rfl, rfl, Nat.le_refl _, fun _ cs _ _ h => ⟨cs, h, rfl, fun _ _ => rfl⟩, fun _ _ h _ => h⟩

/-- A cell is written. -/
theorem Keeps.setCell {X : Nat → Nat → Prop} (w : World) (a : Addr) (v : Value) (h : X a.block a.off) : Keeps X w (w.setCell a v) := by
  refine ⟨rfl, rfl, rfl, by simp [World.setCell], fun k cs e fr hk => ?_, fun k o hk hj => ?_⟩
  · by_cases hka : a.block = k
    · subst hka
      simp only [World.setCell, Array.getElem?_modify, hk, if_true]
      by_cases hs : a.spot.isSome
      · exact ⟨cs, by simp [hs], rfl, fun _ _ => rfl⟩
      · refine ⟨cs.setIfInBounds a.off v, by simp [hs], by simp, fun j hj => ?_⟩
        rw [Array.getElem?_setIfInBounds_ne]
        intro e; exact hj (e ▸ h)
    · refine ⟨cs, ?_, rfl, fun _ _ => rfl⟩
      simp only [World.setCell, Array.getElem?_modify]
      rw [if_neg hka]; exact hk
  · have hka : a.block ≠ k := fun e => hj _ (e ▸ h)
    simp only [World.setCell, Array.getElem?_modify]
    rw [if_neg hka]; exact hk

theorem Keeps.below {w w' : World} (h : Keeps (fun _ _ => False) w w') : RowKit.Below w.heap.size w w' :=
  ⟨h.os, h.tape, h.output, h.size, fun _ hk => h.same hk fun _ hx => hx⟩

end Go.Rex
/- Rex: what the operations on floats do, as the evaluator tells them. -/
namespace Go.Rex

theorem sum_nan_l (d : Ieee.Datum) (s : Bool) (f : Nat) : (Ieee.Datum.nan s f).sum d = none := by cases d <;> rfl
theorem sum_nan_r (d : Ieee.Datum) (s : Bool) (f : Nat) : d.sum (Ieee.Datum.nan s f) = none := by cases d <;> rfl
theorem product_nan_l (d : Ieee.Datum) (s : Bool) (f : Nat) : (Ieee.Datum.nan s f).product d = none := by cases d <;> rfl
theorem product_nan_r (d : Ieee.Datum) (s : Bool) (f : Nat) : d.product (Ieee.Datum.nan s f) = none := by cases d <;> rfl
theorem quotient_nan_l (n : Nat) (d : Ieee.Datum) (s : Bool) (f : Nat) : (Ieee.Datum.nan s f).quotient n d = none := by cases d <;> rfl
theorem quotient_nan_r (n : Nat) (d : Ieee.Datum) (s : Bool) (f : Nat) : d.quotient n (Ieee.Datum.nan s f) = none := by cases d <;> rfl
theorem order_nan_l (d : Ieee.Datum) (s : Bool) (f : Nat) : (Ieee.Datum.nan s f).order d = none := by cases d <;> rfl
theorem order_nan_r (d : Ieee.Datum) (s : Bool) (f : Nat) : d.order (Ieee.Datum.nan s f) = none := by cases d <;> rfl

theorem nan_floatBits {op : BinOp} {k : FloatKind} {a b : Nat} (h : nanP k a ∨ nanP k b) : floatBits op k a b = none := by
  unfold floatBits
  rcases h with ⟨s, f, h⟩ | ⟨s, f, h⟩ <;> split <;>
    simp [Ieee.Format.add, Ieee.Format.sub, Ieee.Format.mul, Ieee.Format.div, h, Ieee.Datum.opposite, sum_nan_l, sum_nan_r, product_nan_l, product_nan_r, quotient_nan_l, quotient_nan_r]

theorem nan_order {k : FloatKind} {a b : Nat} (h : nanP k a ∨ nanP k b) : k.format.order a b = none := by
  unfold Ieee.Format.order
  rcases h with ⟨s, f, h⟩ | ⟨s, f, h⟩
  · rw [h]; exact order_nan_l ..
  · rw [h]; exact order_nan_r ..

/-- What lies above infinity's rung. -/
theorem nanP_of {k : FloatKind} {b : Nat} (h : k.format.infRung < b % k.format.signWeight) : nanP k b := by
  have h1 : k.format.binade ≤ k.format.infRung := by cases k <;> decide
  unfold nanP Ieee.Format.read
  simp only
  rw [if_neg (by omega), if_neg (by omega), if_neg (by omega)]
  exact ⟨_, _, rfl⟩

theorem of_nanP {k : FloatKind} {b : Nat} (h : nanP k b) : k.format.infRung < b % k.format.signWeight := by
  obtain ⟨s, f, h⟩ := h
  unfold Ieee.Format.read at h
  simp only at h
  split at h
  · cases h
  · split at h
    · cases h
    · split at h
      · cases h
      · omega

theorem sw32 : (FloatKind.f32).format.signWeight = 2147483648 := by decide
theorem sw64 : (FloatKind.f64).format.signWeight = 9223372036854775808 := by decide
theorem ir32 : (FloatKind.f32).format.infRung = 2139095040 := by decide
theorem ir64 : (FloatKind.f64).format.infRung = 9218868437227405312 := by decide

theorem nanP_cut32 (t : Nat) : nanP .f32 ((t % 2) * 2147483648 + 2139095040 + 1 + (t / 2) % 8388607) := by
  refine nanP_of ?_
  rw [sw32, ir32]
  rcases Nat.mod_two_eq_zero_or_one t with e | e <;> rw [e] <;> have := Nat.mod_lt (t / 2) (show 8388607 > 0 by decide) <;> omega
theorem nanP_cut64 (t : Nat) : nanP .f64 ((t % 2) * 9223372036854775808 + 9218868437227405312 + 1 + (t / 2) % 4503599627370495) := by
  refine nanP_of ?_
  rw [sw64, ir64]
  rcases Nat.mod_two_eq_zero_or_one t with e | e <;> rw [e] <;> have := Nat.mod_lt (t / 2) (show 4503599627370495 > 0 by decide) <;> omega

theorem nanP_bits (k : FloatKind) (x y t : Nat) : nanP k ((Question.nanBits k x y).cut t) := by
  cases k
  · exact nanP_cut32 t
  · exact nanP_cut64 t
theorem nanP_conv (k : FloatKind) (x t : Nat) : nanP k ((Question.nanConv k x).cut t) := by
  cases k
  · exact nanP_cut32 t
  · exact nanP_cut64 t

theorem nanP_neg {k : FloatKind} {b : Nat} (h : nanP k b) : nanP k (Op.negFloat k b) := by
  refine nanP_of ?_
  have := of_nanP h
  unfold Op.negFloat
  rw [show k.format.signWeight = 2 ^ (k.format.exponentBits + k.format.fractionBits) from rfl] at this ⊢
  rw [Nat.xor_mod_two_pow, Nat.mod_self, Nat.xor_zero]
  exact this

theorem fOrd_eq {k : FloatKind} {x y : Int} {a b : Nat} (hx : FRel k x a) (hy : FRel k y b) : k.format.order a b = fOrd k x y := by
  unfold fOrd
  split
  · rename_i h
    have h1 := hx.1 h.1
    have h2 := hy.1 h.2
    subst h1; subst h2
    simp
  · rename_i h
    refine nan_order ?_
    by_cases h1 : 0 ≤ x
    · exact .inr (hy.2 (by omega))
    · exact .inl (hx.2 (by omega))

theorem FRel.bits (k : FloatKind) (b : Nat) : FRel k (b : Int) b := ⟨fun _ => rfl, fun h => by omega⟩

theorem FRel.nan {k : FloatKind} {b : Nat} (h : nanP k b) : FRel k (-1) b := ⟨fun h => by omega, fun _ => h⟩

/-- What an operation's exact answer, or none, is told as. -/
theorem fArith_eq {op : BinOp} {k : FloatKind} {x y : Int} {a b : Nat} (hx : FRel k x a) (hy : FRel k y b) : fArith op k x y = optF (floatBits op k a b) := by
  unfold fArith
  split
  · rename_i h
    have h1 := hx.1 h.1
    have h2 := hy.1 h.2
    subst h1; subst h2
    simp
  · rename_i h
    rw [nan_floatBits]
    · rfl
    · by_cases h1 : 0 ≤ x
      · exact .inr (hy.2 (by omega))
      · exact .inl (hx.2 (by omega))

section
variable {P : Program} {w : World}

def arithOp : BinOp → Bool
  | .add | .sub | .mul | .quo => true
  | _ => false

theorem run_fArith {op : BinOp} (hop : arithOp op = true) {t : TypeId} {k : FloatKind} {x y : Int} {a b : Nat} (hx : FRel k x a) (hy : FRel k y b) :
    ∃ r n, (Go.binOp op t (.float k a) (.float k b)).run P w = .ok (.float k r) { w with drawn := n } ∧ FRel k (fArith op k x y) r := by
  rw [fArith_eq hx hy]
  cases hf : floatBits op k a b with
  | some r => exact ⟨r, w.drawn, run_float_arith w op t k a b r hf, FRel.bits k r⟩
  | none =>
    refine ⟨(Question.nanBits k a b).cut (w.tape w.drawn (.nanBits k a b)), w.drawn + 1, ?_, FRel.nan (nanP_bits k a b _)⟩
    unfold floatBits at hf
    cases op <;> simp only [arithOp, Bool.false_eq_true] at hop <;> simp only at hf <;>
      simp [Go.binOp, Op.floatArith, hf, run_choose, Question.forced]

theorem run_fCmp {op : BinOp} {t : TypeId} {k : FloatKind} {x y : Int} {a b : Nat} (hx : FRel k x a) (hy : FRel k y b) (hop : op = .eql ∨ op = .neq ∨ op = .lss ∨ op = .leq ∨ op = .gtr ∨ op = .geq) :
    (Go.binOp op t (.float k a) (.float k b)).run P w = .ok (.bool (fCmp op k x y)) w := by
  rcases hop with rfl | rfl | rfl | rfl | rfl | rfl <;> simp [Go.binOp, Op.floatCmp, fCmp, fOrd_eq hx hy]

theorem run_eqGuard_flt {op : BinOp} {t : TypeId} {x y : Operand} {k j : FloatKind} {a b : Nat} : (eqGuard op t x y (.float k a) (.float j b)).run P w = .ok () w := by
  unfold eqGuard; split <;> simp

theorem fNeg_rel {k : FloatKind} {x : Int} {b : Nat} (h : FRel k x b) : FRel k (fNeg k x) (Op.negFloat k b) := by
  unfold fNeg
  split
  · rename_i h0
    have := h.1 h0
    subst this
    exact FRel.bits ..
  · exact FRel.nan (nanP_neg (h.2 (by omega)))

theorem run_conv_if {s t : TypeId} {k' : IntKind} {k : FloatKind} {n : Int} (hs : (P.underlying s).isSome = true) (ht : P.underlying t = some (.float k)) :
    (convert s t (.int k' n)).run P w = .ok (.float k (k.nearest n)) w := by
  obtain ⟨u, hs⟩ := Option.isSome_iff_exists.1 hs
  have h1 : (underlying s).run P w = .ok u w := by simp [underlying, hs]
  have h2 : (underlying t).run P w = .ok (.float k) w := by simp [underlying, ht]
  cases u <;> simp [convert, h1, h2, Conv.intToFloat]

theorem run_conv_ff {s t : TypeId} {j k : FloatKind} {x : Int} {b : Nat} (hs : (P.underlying s).isSome = true) (ht : P.underlying t = some (.float k)) (hx : FRel j x b) (hf : fFits j k x = true) :
    ∃ r n, (convert s t (.float j b)).run P w = .ok (.float k r) { w with drawn := n } ∧ FRel k (fConv j k x) r := by
  unfold fConv
  by_cases e : j = k
  · subst e
    rw [if_pos rfl]
    exact ⟨b, w.drawn, run_convert_float_float w s t j j b b hs ht (by simp [floatToFloatBits]), hx⟩
  · rw [if_neg e]
    have nan : nanP j b → ∃ r n, (convert s t (.float j b)).run P w = .ok (.float k r) { w with drawn := n } ∧ FRel k (-1) r := by
      rintro ⟨sg, f, h⟩
      refine ⟨(Question.nanConv k b).cut (w.tape w.drawn (.nanConv k b)), w.drawn + 1, ?_, FRel.nan (nanP_conv k b _)⟩
      obtain ⟨u, hs⟩ := Option.isSome_iff_exists.1 hs
      have h1 : (underlying s).run P w = .ok u w := by simp [underlying, hs]
      have h2 : (underlying t).run P w = .ok (.float k) w := by simp [underlying, ht]
      have h3 : j.decode b = .nan sg f := h
      cases u <;> simp [convert, h1, h2, Conv.floatToFloat, e, h3, run_choose, Question.forced]
    by_cases h0 : 0 ≤ x
    · rw [if_pos h0]
      have h1 := hx.1 h0
      subst h1
      rw [Int.toNat_natCast]
      cases hr : floatToFloatBits j b k with
      | some r => exact ⟨r, w.drawn, run_convert_float_float w s t j k b r hs ht hr, FRel.bits k r⟩
      | none =>
        refine nan ?_
        unfold floatToFloatBits at hr
        rw [if_neg e] at hr
        unfold fFits at hf
        rw [if_neg e, if_pos h0, Int.toNat_natCast] at hf
        split at hr
        · rename_i s f h; exact ⟨s, f, h⟩
        · cases hr
        · rename_i s m ex h
          rw [h] at hf
          split at hr
          · rename_i h2
            simp [h2] at hf
          · cases hr
    · rw [if_neg h0]
      exact nan (hx.2 (by omega))

theorem run_conv_fi {s t : TypeId} {j : FloatKind} {k : IntKind} {x : Int} {b : Nat} (hs : (P.underlying s).isSome = true) (ht : P.underlying t = some (.int k)) (hx : FRel j x b) (hf : fIn j k x = true) :
    (convert s t (.float j b)).run P w = .ok (.int k (fInt j k x)) w := by
  unfold fIn at hf
  simp only [Bool.and_eq_true, decide_eq_true_eq] at hf
  have h1 := hx.1 hf.1
  subst h1
  unfold fInt
  rw [Int.toNat_natCast] at hf ⊢
  obtain ⟨n, hn⟩ := Option.isSome_iff_exists.1 hf.2
  rw [hn, Option.getD_some]
  exact run_convert_float_int w s t j k b n hs ht hn

end
end Go.Rex
/- Rex, part D: what one operation does, as the evaluator tells it and as the model does it: the operations that do not call. -/
namespace Go.Rex

/-- What an operation needs of the world. -/
structure Pre (gl : List (Nat × AV0)) (look : Look) (nb : Nat) (m : Map) (R : Nat → Prop) (w : World) : Prop where
  blk : ∀ b B, look b = some B → ∃ L, m b = some L ∧ BRel R m w L B
  free : ∀ b, nb ≤ b → b < nb + 8 → m b = none
  inj : ∀ b b' B B' L L' c, look b = some B → look b' = some B' → b ≠ b' → m b = some L → m b' = some L' → L.c = some c → L'.c = some c → B.md = .fz ∧ B'.md = .fz
  rw : ∀ b B L c, look b = some B → B.md ≠ .fz → m b = some L → L.c = some c → ¬ R c
  fz : ∀ b B L c, look b = some B → B.md = .fz → m b = some L → L.c = some c → R c
  rsize : ∀ k, R k → k < w.heap.size
  gl : ∀ g x, get g gl = some x → VRel R m w x (.pointer (some ⟨g, 0, none⟩))

def Touch (look : Look) (m : Map) (u : List (Nat × Option Blk)) (k j : Nat) : Prop :=
  ∃ b B L, look b = some B ∧ (∃ x, (b, x) ∈ u) ∧ m b = some L ∧ L.c = some k ∧ Owns L B.md j

/-- What is so behind an operation. -/
structure Post (look : Look) (nb : Nat) (m : Map) (R : Nat → Prop) (w : World) (e : Eff) (m' : Map) (R' : Nat → Prop) (w' : World) (v : Value) : Prop where
  ext : Ext m m'
  dom : ∀ b L, m' b = some L → m b = none → nb ≤ b ∧ b < nb + 8
  keeps : Keeps (Touch look m e.u) w w'
  rmono : ∀ k, R k → R' k
  rnew : ∀ k, R' k → R k ∨ (w.heap.size ≤ k ∧ k < w'.heap.size) ∨ (∃ b B B' L, (b, some B') ∈ e.u ∧ B'.md = .fz ∧ look b = some B ∧ m b = some L ∧ L.c = some k) ∨
    ∃ b B L, (b, none) ∈ e.u ∧ (∀ X, (b, some X) ∉ e.u) ∧ look b = some B ∧ B.md = .full ∧ m b = some L ∧ L.c = some k
  upd : ∀ b B, (b, some B) ∈ e.u → ∃ L, m' b = some L ∧ BRel R' m' w' L B
  old : ∀ b B, (b, some B) ∈ e.u → m b ≠ none → ∃ B0, look b = some B0 ∧ (B.md = B0.md ∨ B.md = .fz)
  fresh : ∀ b B L k, (b, some B) ∈ e.u → m b = none → m' b = some L → L.c = some k →
    w.heap.size ≤ k ∨ (∃ b0 B0 L0, (b0, none) ∈ e.u ∧ (∀ X, (b0, some X) ∉ e.u) ∧ look b0 = some B0 ∧ B0.md = .full ∧ m b0 = some L0 ∧ L0.c = some k) ∨
      (B.md = .fz ∧ ∃ b0 B0 L0, (∃ x, (b0, x) ∈ e.u) ∧ (∀ x, (b0, x) ∈ e.u → ∃ X, x = some X ∧ X.md = .fz) ∧ look b0 = some B0 ∧ B0.md = .full ∧ m b0 = some L0 ∧ L0.c = some k)
  dist : ∀ b b' B B' L L' k, (b, some B) ∈ e.u → (b', some B') ∈ e.u → m b = none → m b' = none → m' b = some L → m' b' = some L' → L.c = some k → L'.c = some k → b = b'
  fz : ∀ b B L k, (b, some B) ∈ e.u → B.md = .fz → m' b = some L → L.c = some k → R' k
  nofz : ∀ b B L k, (b, some B) ∈ e.u → B.md ≠ .fz → m' b = some L → L.c = some k → ¬ R' k
  rel : AVRel R' m' w' e.v v

theorem Same.refl (R : Nat → Prop) (w : World) : Same R w w := fun _ _ => rfl

/-- Nothing but a value. -/
theorem Post.value {look : Look} {nb : Nat} {m : Map} {R : Nat → Prop} {w : World} {x : AV} {v : Value} (h : AVRel R m w x v) : Post look nb m R w ⟨x, []⟩ m R w v :=
  ⟨fun _ _ h => h, fun _ _ h g => (by rw [h] at g; cases g), Keeps.refl _ _, fun _ h => h, fun _ h => .inl h, fun _ _ h => (by cases h), fun _ _ h => (by cases h), fun _ _ _ _ h => (by cases h), fun _ _ _ _ _ _ _ h => (by cases h), fun _ _ _ _ h => (by cases h), fun _ _ _ _ h => (by cases h), h⟩

/-- A value; and a draw. -/
theorem Post.drew {look : Look} {nb : Nat} {m : Map} {R : Nat → Prop} {w : World} {x : AV} {v : Value} (n : Nat) (h : AVRel R m w x v) : Post look nb m R w ⟨x, []⟩ m R { w with drawn := n } v :=
  ⟨fun _ _ h => h, fun _ _ h g => (by rw [h] at g; cases g), Keeps.drew _ _ _, fun _ h => h, fun _ h => .inl h, fun _ _ h => (by cases h), fun _ _ h => (by cases h), fun _ _ _ _ h => (by cases h), fun _ _ _ _ _ _ _ h => (by cases h), fun _ _ _ _ h => (by cases h), fun _ _ _ _ h => (by cases h), AVRel.mono (R := R) (m := m) (w := w) (w' := { w with drawn := n }) (fun _ h => h) (fun _ _ => rfl) (fun _ _ h => h) h⟩

theorem Touch.r {gl : List (Nat × AV0)} {look : Look} {nb : Nat} {m : Map} {R : Nat → Prop} {w : World} (hp : Pre gl look nb m R w) {u : List (Nat × Option Blk)} {k : Nat} (hk : R k) (j : Nat) : ¬ Touch look m u k j := by
  rintro ⟨b, B, L, h1, _, h3, h4, h5⟩
  by_cases hz : B.md = .fz
  · rw [hz] at h5; exact h5
  · exact hp.rw b B L k h1 hz h3 h4 hk

/-- What is only read stays. -/
theorem Pre.same {gl : List (Nat × AV0)} {look : Look} {nb : Nat} {m : Map} {R : Nat → Prop} {w w' : World} (hp : Pre gl look nb m R w) {u : List (Nat × Option Blk)} (h : Keeps (Touch look m u) w w') : Same R w w' :=
  fun k hk => h.same (hp.rsize k hk) (Touch.r hp hk)

/-- The result of an operation in the model. -/
def Outcome (P : Program) (o : Oper) (ρ : Operand → Value) (w : World) (N : Value → World → Prop) : Prop :=
  match (execOp ρ o).run P w with
  | .ok (.value v) w' => N v w'
  | .ok .skip w' => N undef w'
  | .ok (.enter f args) w' => Calls P f args w' fun
    | .returned v, w'' => N v w''
    | _, _ => False
  | _ => False

theorem Outcome.value {P : Program} {o : Oper} {ρ : Operand → Value} {w w' : World} {N : Value → World → Prop} {v : Value} (h : (execOp ρ o).run P w = .ok (.value v) w') (hn : N v w') : Outcome P o ρ w N := by
  unfold Outcome; rw [h]; exact hn

theorem Outcome.skip {P : Program} {o : Oper} {ρ : Operand → Value} {w w' : World} {N : Value → World → Prop} (h : (execOp ρ o).run P w = .ok .skip w') (hn : N undef w') : Outcome P o ρ w N := by
  unfold Outcome; rw [h]; exact hn

theorem Outcome.wp {P : Program} {o : Oper} {a : Act} {w : World} {N : Value → World → Prop} {next : Act → World → Prop} {Q : Exit → Act → World → Prop} (h : Outcome P o a.eval w N)
    (hn : ∀ v w', N v w' → next (a.put o.dst v) w') : o.wp P a w next Q := by
  unfold Outcome at h
  unfold Oper.wp
  generalize (execOp a.eval o).run P w = r at *
  cases r with
  | ok x w' => cases x <;> simp only [Oper.upon] at h ⊢ <;> first
    | exact hn _ _ h
    | exact Calls.mono h fun e w'' he => by cases e <;> first | exact hn _ _ he | exact he.elim
    | exact h.elim
  | halt x w' => exact h.elim

/-- The evaluator's effect e is the model's. -/
def Sound (P : Program) (gl : List (Nat × AV0)) (look : Look) (evv : Operand → AV) (nb : Nat) (o : Oper) (e : Eff) : Prop :=
  ∀ (m : Map) (R : Nat → Prop) (w : World) (ρ : Operand → Value), Pre gl look nb m R w → (∀ x ∈ o.op.operands, AVRel R m w (evv x) (ρ x)) →
    Outcome P o ρ w fun v w' => ∃ m' R', Post look nb m R w e m' R' w' v

theorem one_rel {R : Nat → Prop} {m : Map} {w : World} {x : AV} {a : AV0} {v : Value} (h : one? x = some a) (hr : AVRel R m w x v) : VRel R m w a v := by
  unfold one? at h
  split at h
  · cases h; exact hr
  · cases h

section ops
variable {P : Program} {gl : List (Nat × AV0)} {look : Look} {evv : Operand → AV} {nb : Nat} {o : Oper} {ρ : Type}

theorem sound_value {x : AV} (h : ∀ (m : Map) (R : Nat → Prop) (w : World) (r : Operand → Value), Pre gl look nb m R w → (∀ y ∈ o.op.operands, AVRel R m w (evv y) (r y)) → ∃ v, (execOp r o).run P w = .ok (.value v) w ∧ AVRel R m w x v) : Sound P gl look evv nb o ⟨x, []⟩ := by
  intro m R w r hp hr
  obtain ⟨v, h1, h2⟩ := h m R w r hp hr
  exact Outcome.value h1 ⟨m, R, Post.value h2⟩

theorem sound_drew {x : AV} (h : ∀ (m : Map) (R : Nat → Prop) (w : World) (r : Operand → Value), Pre gl look nb m R w → (∀ y ∈ o.op.operands, AVRel R m w (evv y) (r y)) → ∃ v n, (execOp r o).run P w = .ok (.value v) { w with drawn := n } ∧ AVRel R m w x v) : Sound P gl look evv nb o ⟨x, []⟩ := by
  intro m R w r hp hr
  obtain ⟨v, n, h1, h2⟩ := h m R w r hp hr
  exact Outcome.value h1 ⟨m, R, Post.drew n h2⟩

theorem run_eqGuard_int {op : BinOp} {t : TypeId} {x y : Operand} {k j : IntKind} {a b : Int} {w : World} : (eqGuard op t x y (.int k a) (.int j b)).run P w = .ok () w := by
  unfold eqGuard; split <;> simp

theorem run_eqGuard_bool {op : BinOp} {t : TypeId} {x y : Operand} {a b : Bool} {w : World} : (eqGuard op t x y (.bool a) (.bool b)).run P w = .ok () w := by
  unfold eqGuard; split <;> simp

theorem run_eqGuard_str {op : BinOp} {t : TypeId} {x y : Operand} {a b : ByteArray} {w : World} : (eqGuard op t x y (.string a) (.string b)).run P w = .ok () w := by
  unfold eqGuard; split <;> simp

/-- A kind of values at a type. -/
def isBoolAt (P : Program) (t : TypeId) : Prop := P.underlying t = some .bool

theorem binOp_sound {op : BinOp} {t : TypeId} {tb yc : Bool} {x y : Operand} {a b : AV0} {K : AV0 → Option ρ} {res : ρ}
    (hyc : yc = true → ∃ k n, b = .int k n ∧ 0 < n) (ht : tb = true → P.underlying t = some .bool) (h : binOp op tb yc a b K = some res) :
    ∃ c, K c = some res ∧ ∀ (R : Nat → Prop) (m : Map) (w : World) (vx vy : Value), VRel R m w a vx → VRel R m w b vy →
      ∃ v n, (do eqGuard op t x y vx vy; Go.binOp op t vx vy : Sem Value).run P w = .ok v { w with drawn := n } ∧ VRel R m w c v := by
  unfold binOp at h
  try simp only [cif_eq] at h
  split at h
  · rename_i k a j b
    have fin : ∀ {op : BinOp} (c : AV0) (v : Value), K c = some res → (∀ w, (Go.binOp op t (.int k a) (.int j b)).run P w = .ok v w) → (∀ R m w, VRel R m w c v) →
        ∃ c, K c = some res ∧ ∀ (R : Nat → Prop) (m : Map) (w : World) (vx vy : Value), VRel R m w (.int k a) vx → VRel R m w (.int j b) vy →
          ∃ v n, (do eqGuard op t x y vx vy; Go.binOp op t vx vy : Sem Value).run P w = .ok v { w with drawn := n } ∧ VRel R m w c v := by
      intro op c v h1 h2 h3
      refine ⟨c, h1, fun R m w vx vy hx hy => ⟨v, w.drawn, ?_, h3 R m w⟩⟩
      cases hx; cases hy
      simp only [Sem.run_bind, run_eqGuard_int, Result.andThen_ok, h2]
    have hb : yc = true → 0 < b := fun e => by obtain ⟨_, _, e1, e2⟩ := hyc e; cases e1; exact e2
    split at h
    · split at h
      · have := hb rfl
        exact fin _ _ h (fun w => by simp only [Go.binOp, Op.shift]; rw [if_neg (show ¬ b < 0 by omega)]; rfl) fun _ _ _ => rfl
      · split at h
        · exact fin _ _ h (fun w => by simp only [Go.binOp, Op.shift]; rw [if_neg (show ¬ b < 0 by omega)]; rfl) fun _ _ _ => rfl
        · cases h
    · split at h
      · have := hb rfl
        exact fin _ _ h (fun w => by simp only [Go.binOp, Op.shift]; rw [if_neg (show ¬ b < 0 by omega)]; rfl) fun _ _ _ => rfl
      · split at h
        · exact fin _ _ h (fun w => by simp only [Go.binOp, Op.shift]; rw [if_neg (show ¬ b < 0 by omega)]; rfl) fun _ _ _ => rfl
        · cases h
    · split at h
      · rename_i hkj
        subst hkj
        split at h
        · exact fin _ _ h (fun w => by simp only [Go.binOp]; rw [if_neg (by simp)]; rfl) fun _ _ _ => rfl
        · exact fin _ _ h (fun w => by simp only [Go.binOp]; rw [if_neg (by simp)]; rfl) fun _ _ _ => rfl
        · exact fin _ _ h (fun w => by simp only [Go.binOp]; rw [if_neg (by simp)]; rfl) fun _ _ _ => rfl
        · split at h
          · have := hb rfl
            exact fin _ _ h (fun w => by simp only [Go.binOp]; rw [if_neg (by simp)]; simp only [Op.intDiv]; rw [if_neg (show ¬ b = 0 by omega)]; rfl) fun _ _ _ => rfl
          · split at h
            · cases h
            · rename_i hb0
              exact fin _ _ h (fun w => by simp only [Go.binOp]; rw [if_neg (by simp)]; simp only [Op.intDiv]; rw [if_neg hb0]; rfl) fun _ _ _ => rfl
        · split at h
          · have := hb rfl
            exact fin _ _ h (fun w => by simp only [Go.binOp]; rw [if_neg (by simp)]; simp only [Op.intDiv]; rw [if_neg (show ¬ b = 0 by omega)]; rfl) fun _ _ _ => rfl
          · split at h
            · cases h
            · rename_i hb0
              exact fin _ _ h (fun w => by simp only [Go.binOp]; rw [if_neg (by simp)]; simp only [Op.intDiv]; rw [if_neg hb0]; rfl) fun _ _ _ => rfl
        · exact fin _ _ h (fun w => by simp only [Go.binOp]; rw [if_neg (by simp)]; rfl) fun _ _ _ => rfl
        · exact fin _ _ h (fun w => by simp only [Go.binOp]; rw [if_neg (by simp)]; rfl) fun _ _ _ => rfl
        · exact fin _ _ h (fun w => by simp only [Go.binOp]; rw [if_neg (by simp)]; rfl) fun _ _ _ => rfl
        · exact fin _ _ h (fun w => by simp only [Go.binOp]; rw [if_neg (by simp)]; rfl) fun _ _ _ => rfl
        · exact fin _ _ h (fun w => by simp only [Go.binOp]; rw [if_neg (by simp)]; rfl) fun _ _ _ => rfl
        · exact fin _ _ h (fun w => by simp only [Go.binOp]; rw [if_neg (by simp)]; rfl) fun _ _ _ => rfl
        · exact fin _ _ h (fun w => by simp only [Go.binOp]; rw [if_neg (by simp)]; rfl) fun _ _ _ => rfl
        · exact fin _ _ h (fun w => by simp only [Go.binOp]; rw [if_neg (by simp)]; rfl) fun _ _ _ => rfl
        · exact fin _ _ h (fun w => by simp only [Go.binOp]; rw [if_neg (by simp)]; rfl) fun _ _ _ => rfl
        · exact fin _ _ h (fun w => by simp only [Go.binOp]; rw [if_neg (by simp)]; rfl) fun _ _ _ => rfl
        · cases h
      · cases h
  · rename_i a b
    have fin : ∀ {op : BinOp} (c : AV0) (v : Value), K c = some res → (∀ w, (Go.binOp op t (.bool a) (.bool b)).run P w = .ok v w) → (∀ R m w, VRel R m w c v) →
        ∃ c, K c = some res ∧ ∀ (R : Nat → Prop) (m : Map) (w : World) (vx vy : Value), VRel R m w (.bool a) vx → VRel R m w (.bool b) vy →
          ∃ v n, (do eqGuard op t x y vx vy; Go.binOp op t vx vy : Sem Value).run P w = .ok v { w with drawn := n } ∧ VRel R m w c v := by
      intro op c v h1 h2 h3
      refine ⟨c, h1, fun R m w vx vy hx hy => ⟨v, w.drawn, ?_, h3 R m w⟩⟩
      cases hx; cases hy
      simp only [Sem.run_bind, run_eqGuard_bool, Result.andThen_ok, h2]
    split at h
    · exact fin _ (.bool (a == b)) h (fun w => by simp [Go.binOp, run_equal_bool _ _ _ _ (ht rfl)]) fun _ _ _ => rfl
    · exact fin _ (.bool (!(a == b))) h (fun w => by simp [Go.binOp, run_equal_bool _ _ _ _ (ht rfl)]) fun _ _ _ => rfl
    · cases h
  · rename_i a b
    have fin : ∀ {op : BinOp} (c : AV0) (v : Value), K c = some res → (∀ w, (Go.binOp op t (.string a) (.string b)).run P w = .ok v w) → (∀ R m w, VRel R m w c v) →
        ∃ c, K c = some res ∧ ∀ (R : Nat → Prop) (m : Map) (w : World) (vx vy : Value), VRel R m w (.str a) vx → VRel R m w (.str b) vy →
          ∃ v n, (do eqGuard op t x y vx vy; Go.binOp op t vx vy : Sem Value).run P w = .ok v { w with drawn := n } ∧ VRel R m w c v := by
      intro op c v h1 h2 h3
      refine ⟨c, h1, fun R m w vx vy hx hy => ⟨v, w.drawn, ?_, h3 R m w⟩⟩
      cases hx; cases hy
      simp only [Sem.run_bind, run_eqGuard_str, Result.andThen_ok, h2]
    split at h
    · exact fin _ _ h (fun w => by simp only [Go.binOp, Op.stringOp]; rfl) fun _ _ _ => rfl
    · exact fin _ _ h (fun w => by simp only [Go.binOp, Op.stringOp]; rfl) fun _ _ _ => rfl
    · split at h
      · rename_i hs
        exact fin _ _ h (fun w => by simp only [Go.binOp, Op.stringOp]; rw [if_neg (by simp only [IntKind.max, IntKind.signed, IntKind.bits, if_true]; omega)]; rfl) fun _ _ _ => rfl
      · cases h
    · cases h
  · rename_i k a j b
    split at h
    · rename_i hkj
      subst hkj
      have ar : ∀ {op : BinOp} (_ : arithOp op = true) (_ : K (.flt k (fArith op k a b)) = some res),
          ∃ c, K c = some res ∧ ∀ (R : Nat → Prop) (m : Map) (w : World) (vx vy : Value), VRel R m w (.flt k a) vx → VRel R m w (.flt k b) vy →
            ∃ v n, (do eqGuard op t x y vx vy; Go.binOp op t vx vy : Sem Value).run P w = .ok v { w with drawn := n } ∧ VRel R m w c v := by
        intro op hop h1
        refine ⟨_, h1, fun R m w vx vy hx hy => ?_⟩
        obtain ⟨a', rfl, hx⟩ := hx
        obtain ⟨b', rfl, hy⟩ := hy
        obtain ⟨r, n, h2, h3⟩ := run_fArith (P := P) (w := w) hop (t := t) hx hy
        exact ⟨_, n, by simp only [Sem.run_bind, run_eqGuard_flt, Result.andThen_ok, h2], r, rfl, h3⟩
      have cm : ∀ {op : BinOp} (_ : op = .eql ∨ op = .neq ∨ op = .lss ∨ op = .leq ∨ op = .gtr ∨ op = .geq) (_ : K (.bool (fCmp op k a b)) = some res),
          ∃ c, K c = some res ∧ ∀ (R : Nat → Prop) (m : Map) (w : World) (vx vy : Value), VRel R m w (.flt k a) vx → VRel R m w (.flt k b) vy →
            ∃ v n, (do eqGuard op t x y vx vy; Go.binOp op t vx vy : Sem Value).run P w = .ok v { w with drawn := n } ∧ VRel R m w c v := by
        intro op hop h1
        refine ⟨_, h1, fun R m w vx vy hx hy => ?_⟩
        obtain ⟨a', rfl, hx⟩ := hx
        obtain ⟨b', rfl, hy⟩ := hy
        exact ⟨_, w.drawn, by simp only [Sem.run_bind, run_eqGuard_flt, Result.andThen_ok, run_fCmp hx hy hop], rfl⟩
      split at h
      · exact ar rfl h
      · exact ar rfl h
      · exact ar rfl h
      · exact ar rfl h
      · exact cm (by simp) h
      · exact cm (by simp) h
      · exact cm (by simp) h
      · exact cm (by simp) h
      · exact cm (by simp) h
      · exact cm (by simp) h
      · cases h
    · cases h
  · cases h

theorem unOp_sound {op : UnOp} {a : AV0} {K : AV0 → Option ρ} {res : ρ} (h : unOp op a K = some res) :
    ∃ c, K c = some res ∧ ∀ (R : Nat → Prop) (m : Map) (w : World) (vx : Value), VRel R m w a vx → ∃ v, (Op.unary op vx).run P w = .ok v w ∧ VRel R m w c v := by
  unfold unOp at h
  split at h
  · exact ⟨_, h, fun R m w vx hx => by cases hx; exact ⟨_, rfl, rfl⟩⟩
  · exact ⟨_, h, fun R m w vx hx => by cases hx; exact ⟨_, rfl, rfl⟩⟩
  · exact ⟨_, h, fun R m w vx hx => by cases hx; exact ⟨_, rfl, rfl⟩⟩
  · exact ⟨_, h, fun R m w vx hx => by obtain ⟨b, rfl, hx⟩ := hx; exact ⟨_, rfl, _, rfl, fNeg_rel hx⟩⟩
  · cases h

end ops
end Go.Rex
/- Rex, part E: what one operation does, as the evaluator tells it and as the model does it: types, loads and stores. -/
namespace Go.Rex

def aggOf (P : Program) (t : TypeId) : Bool := match P.underlying t with
  | some (.struct _) => true
  | some (.array _ _) => true
  | _ => false

def tdOk (P : Program) (t : TypeId) : TD → Prop
  | .int k => P.underlying t = some (.int k)
  | .bool => P.underlying t = some .bool
  | .str => P.underlying t = some .string
  | .flt k => P.underlying t = some (.float k)
  | .slice e => P.underlying t = some (.slice e)
  | .struct fs => ∃ fields : Array Field, P.underlying t = some (.struct fields) ∧ fields.toList.map (fun f => (f.offset, P.cellsOf f.type, aggOf P f.type)) = fs ∧ ∀ (i : Nat) (f : Field), fields[i]? = some f → (P.info? f.type).isSome ∧ (P.underlying f.type).isSome
  | .array n e => P.underlying t = some (.array n e)
  | .other => True

/-- What the table says of a type is so. -/
def TOk (P : Program) (t : TypeId) (ti : TI) : Prop :=
  ∃ info, P.info? t = some info ∧ info.size = ti.size ∧ info.bytes = ti.bytes ∧ (P.underlying t).isSome ∧ tdOk P t ti.d ∧ aggOf P t = ti.agg ∧
    ∃ z, info.zero = some z ∧ (∀ R m w, CRel R m w ti.zero z.cells.toList) ∧ (∀ R w, ti.ty.size = ti.size → Enc R w ti.ty ti.ty.zero z.cells.toList)

def TabOk (P : Program) (C : Ctx) : Prop := ∀ t ti, get t C.T = some ti → TOk P t ti

section
variable {P : Program} {w : World}

theorem run_underlying {t : TypeId} {d : TypeDesc} (h : P.underlying t = some d) : (underlying t).run P w = .ok d w := by
  simp [underlying, h]

theorem run_sizeOf {t : TypeId} {ti : TI} (h : TOk P t ti) : (sizeOf t).run P w = .ok ti.size w := by
  obtain ⟨info, h1, h2, _⟩ := h
  simp [sizeOf, typeInfo, h1, h2]

theorem run_typeInfo {t : TypeId} {info : TypeInfo} (h : P.info? t = some info) : (typeInfo t).run P w = .ok info w := by
  simp [typeInfo, h]

theorem run_zeroValue {t : TypeId} {ti : TI} (h : TOk P t ti) : ∃ z, (zeroValue t).run P w = .ok z w ∧ (∀ R m w, CRel R m w ti.zero z.cells.toList) ∧ (∀ R w, ti.ty.size = ti.size → Enc R w ti.ty ti.ty.zero z.cells.toList) := by
  obtain ⟨info, h1, _, _, _, _, _, z, hz, hc⟩ := h
  exact ⟨z, by simp [zeroValue, typeInfo, h1, hz], hc⟩

theorem run_isAgg {t : TypeId} (h : (P.underlying t).isSome) : (isAgg t).run P w = .ok (aggOf P t) w := by
  obtain ⟨d, hd⟩ := Option.isSome_iff_exists.1 h
  simp only [isAgg, underlying, Sem.run_bind, run_program, Result.andThen_ok, hd, aggOf, Sem.run_pure]
  cases d <;> rfl

theorem addr_add {a : Addr} (h : a.spot = none) (n : Nat) : a.add n = ⟨a.block, a.off + n, none⟩ := by
  unfold Addr.add
  obtain ⟨b, o, s⟩ := a
  simp only at h
  subst h
  split
  · subst_vars; rfl
  · rfl

theorem run_loadCellsFrom {a : Addr} (hs : a.spot = none) : ∀ (l : List Value) (i : Nat) (acc : Array Value), (∀ (j : Nat) u, l[j]? = some u → w.cell? ⟨a.block, a.off + (i + j), none⟩ = some u) →
    (loadCellsFrom a i l.length acc).run P w = .ok (acc ++ l.toArray) w
  | [], _, acc, _ => by simp [loadCellsFrom]
  | v :: l, i, acc, h => by
    have h0 := h 0 v rfl
    simp only [List.length_cons, loadCellsFrom, Sem.run_bind, run_load, addr_add hs]
    rw [show a.off + (i + 0) = a.off + i by omega] at h0
    rw [h0]
    simp only [Result.andThen_ok]
    rw [run_loadCellsFrom hs l (i + 1) (acc.push v) fun j u hj => by
      have := h (j + 1) u (by simpa using hj)
      rw [show a.off + (i + 1 + j) = a.off + (i + (j + 1)) by omega]; exact this]
    simp

theorem run_loadCells {a : Addr} (hs : a.spot = none) {l : List Value} {n : Nat} (hn : l.length = n) (h : ∀ (j : Nat) u, l[j]? = some u → w.cell? ⟨a.block, a.off + j, none⟩ = some u) : (loadCells a n).run P w = .ok l.toArray w := by
  subst hn
  unfold loadCells
  rw [run_loadCellsFrom hs l 0 #[] fun j u hj => by rw [Nat.zero_add]; exact h j u hj]
  simp

theorem run_loadVar {t : TypeId} {ti : TI} (ht : TOk P t ti) {a : Addr} (hs : a.spot = none) {l : List Value} {cs : List AV0} {x : AV} {R : Nat → Prop} {m : Map}
    (h : ∀ (j : Nat) u, l[j]? = some u → w.cell? ⟨a.block, a.off + j, none⟩ = some u) (hc : CRel R m w cs l) (hx : asV ti.agg ti.size cs = some x) : ∃ v, (loadVar t a).run P w = .ok v w ∧ AVRel R m w x v := by
  obtain ⟨info, h1, h2, h3, h4, h5, h6, h7⟩ := id ht
  unfold asV at hx
  simp only [loadVar, Sem.run_bind, run_isAgg h4, Result.andThen_ok, h6]
  split at hx
  · split at hx
    · rename_i hagg hlen
      cases hx
      simp only [hagg, if_true, Sem.run_bind, run_sizeOf ht, Result.andThen_ok]
      rw [run_loadCells hs (by rw [← hlen]; exact hc.length.symm) h]
      exact ⟨_, rfl, ⟨_, rfl, hc⟩⟩
    · cases hx
  · rename_i hagg
    split at hx
    · rename_i y
      cases hx
      cases l with
      | nil => exact hc.elim
      | cons u r =>
        cases r with
        | cons _ _ => exact hc.2.elim
        | nil =>
          have h0 := h 0 u rfl
          simp only [Nat.add_zero] at h0
          simp only [hagg, Bool.false_eq_true, if_false, run_load]
          obtain ⟨b, o, s⟩ := a
          simp only at hs; subst hs
          rw [h0]
          exact ⟨u, rfl, hc.1⟩
    · cases hx

/-- The cells that Enc tells of, as the evaluator tells them. -/
theorem cells_rel {R : Nat → Prop} {m : Map} : ∀ {t : Ty} {x : t.den} {l : List Value}, Enc R w t x l → CRel R m w (cells t x) l
  | .int _, _, _, h => by cases h; exact ⟨rfl, trivial⟩
  | .bool, _, _, h => by cases h; exact ⟨rfl, trivial⟩
  | .str, _, _, h => by cases h; exact ⟨rfl, trivial⟩
  | .unit, _, _, h => by cases h; trivial
  | .flt _, _, _, ⟨_, e, h⟩ => by subst e; exact ⟨⟨_, rfl, h⟩, trivial⟩
  | .pair _ _, _, _, ⟨_, _, e, h1, h2⟩ => by subst e; exact (cells_rel h1).append (cells_rel h2)
  | .sl _, _, _, h => by
    obtain ⟨a, c, e, r⟩ := h
    subst e
    exact ⟨⟨a, c, rfl, r⟩, trivial⟩

theorem castL_same {t : Ty} (h : t = t) (x : List t.den) : castL h x = x := rfl

theorem Ty.same_eq {t u : Ty} {h : PLift (t = u)} (_ : Ty.same t u = some h) : t = u := h.down

end
end Go.Rex
/- Rex, part F: slices as lists, what is only read from now on, what becomes of memory behind an operation. -/
namespace Go.Rex

/-- Each is a block that stands, and is only read from now on. -/
def DemOk (look : Look) (u : List (Nat × Option Blk)) : Prop := ∀ p ∈ u, ∃ t xs md, p.2 = some (.arr t xs .fz) ∧ look p.1 = some (.arr t xs md)

/-- What is only read, those too. -/
def Dem (m : Map) (u : List (Nat × Option Blk)) (R : Nat → Prop) (k : Nat) : Prop := R k ∨ ∃ b x L, (b, some x) ∈ u ∧ m b = some L ∧ L.c = some k

theorem Dem.mono {m : Map} {u u' : List (Nat × Option Blk)} {R : Nat → Prop} (h : ∀ p, p ∈ u → p ∈ u') : ∀ k, Dem m u R k → Dem m u' R k :=
  fun _ hk => hk.imp id fun ⟨b, x, L, hb, r⟩ => ⟨b, x, L, h _ hb, r⟩

theorem window_get {α : Type} (xs : List α) (o : Nat) (n : Option Nat) (i : Nat) (x : α) (h : (window xs o n)[i]? = some x) : xs[o + i]? = some x := by
  cases n with
  | none => simpa [window, List.getElem?_drop] using h
  | some m =>
    simp only [window, List.getElem?_take, List.getElem?_drop] at h
    split at h
    · exact h
    · cases h

theorem window_length {α : Type} (xs : List α) (o : Nat) (n : Option Nat) {len ln : Nat} (h : xs.length = len) (h1 : o ≤ len) (h2 : n = none → ln = len - o) (h3 : ∀ m, n = some m → ln = m ∧ o + m ≤ len) : (window xs o n).length = ln := by
  cases n with
  | none => simp [window, h, h2 rfl]
  | some m =>
    have := h3 m rfl
    simp [window, h]; omega

section
variable {look : Look} {R : Nat → Prop} {m : Map} {w : World}

def Blks (look : Look) (R : Nat → Prop) (m : Map) (w : World) : Prop := ∀ b B, look b = some B → ∃ L, m b = some L ∧ BRel R m w L B

theorem arr_enc {L : Loc} {t : Ty} {xs : List t.den} {md : Md} {o : Nat} {n : Option Nat} {v : Value} {R' : Nat → Prop} (hB : BRel R m w L (.arr t xs md)) (hv : slRel L o n v) (hR : ∀ k, R k → R' k) (hc : ∀ c, L.c = some c → R' c) :
    Enc R' w (.sl t) (window xs o n) [v] := by
  obtain ⟨a, ln, cp, rfl, h1, h2, h3, h4, h5, h6⟩ := hv
  obtain ⟨g1, g2, g3, g4⟩ := hB
  have hl := window_length xs o n g1 h2 h3 h4
  refine ⟨a, cp, by rw [hl], by omega, fun hn => ?_⟩
  cases hLc : L.c with
  | none => rw [g3 hLc] at hn; exact absurd (by cases n <;> simp [window]) hn
  | some c =>
    obtain ⟨i1, ad, rfl, i2⟩ := h6 c hLc
    have hln : ln ≠ 0 := fun e => hn (List.length_eq_zero_iff.1 (by omega))
    obtain ⟨rfl, i3⟩ := i2 (by omega)
    obtain ⟨cs, e, fr, j1, j2, j3, j4, j5⟩ := g4 c hLc
    refine ⟨_, rfl, rfl, hc c hLc, fun i x hx => ?_⟩
    obtain ⟨l, k1, k2⟩ := j5 (o + i) x (window_get xs o n i x hx)
    refine ⟨l, k1.mono hR (Same.refl _ _), fun j u hu => ?_⟩
    have := k2 j u hu
    simp only [World.cell?, j1]
    rw [g2, ← this]
    simp only [Option.isSome_none, Bool.false_eq_true, if_false]
    rw [Nat.add_mul]
    congr 1
    omega

theorem elems_rel (hp : Blks look R m w) {t : Ty} {x : AV0} {xs : List t.den} {u : List (Nat × Option Blk)} {v : Value} (h : elems look t x = some (xs, u)) (hv : VRel R m w x v) :
    Enc (Dem m u R) w (.sl t) xs [v] := by
  unfold elems at h
  split at h
  · split at h
    · rename_i k _
      cases h
      obtain ⟨k⟩ := k
      subst k
      exact Enc.mono (fun _ h => .inl h) (Same.refl _ _) hv
    · cases h
  · cases h
    cases hv
    exact ⟨none, 0, rfl, Nat.le_refl _, fun h => absurd rfl h⟩
  · rename_i b o n
    split at h
    · rename_i u0 ys md hb
      split at h
      · rename_i k _
        cases h
        obtain ⟨k⟩ := k
        subst k
        obtain ⟨L, hL, hs⟩ := hv
        obtain ⟨L', hL', hB⟩ := hp b _ hb
        rw [hL] at hL'; cases hL'
        exact arr_enc hB hs (fun _ h => .inl h) fun c hc => .inr ⟨b, _, L, List.mem_singleton.2 rfl, hL, hc⟩
      · cases h
    · cases h
  · cases h

theorem elems_dem {t : Ty} {x : AV0} {xs : List t.den} {u : List (Nat × Option Blk)} (h : elems look t x = some (xs, u)) : DemOk look u := by
  unfold elems at h
  split at h
  · split at h
    · cases h; intro p hp; cases hp
    · cases h
  · cases h; intro p hp; cases hp
  · split at h
    · rename_i u0 ys md hb
      split at h
      · cases h
        intro p hp
        obtain rfl := List.mem_singleton.1 hp
        exact ⟨_, _, _, rfl, hb⟩
      · cases h
    · cases h
  · cases h

theorem DemOk.append {u u' : List (Nat × Option Blk)} (h : DemOk look u) (h' : DemOk look u') : DemOk look (u ++ u') :=
  fun p hp => (List.mem_append.1 hp).elim (h p) (h' p)

theorem uncells_rel (hp : Blks look R m w) : ∀ {t : Ty} {l : List AV0} {x : t.den} {r : List AV0} {u : List (Nat × Option Blk)} {vs : List Value}, uncells look t l = some (x, r, u) → CRel R m w l vs →
    DemOk look u ∧ ∃ l1 l2, vs = l1 ++ l2 ∧ Enc (Dem m u R) w t x l1 ∧ CRel R m w r l2
  | .int k, l, x, r, u, vs, h, hv => by
    unfold uncells at h
    split at h
    · split at h
      · rename_i hk
        cases h
        subst hk
        cases vs with
        | nil => exact hv.elim
        | cons v s => exact ⟨fun _ hp => (by cases hp), [v], s, rfl, (by cases hv.1; rfl), hv.2⟩
      · cases h
    · cases h
  | .bool, l, x, r, u, vs, h, hv => by
    unfold uncells at h
    split at h
    · cases h
      cases vs with
      | nil => exact hv.elim
      | cons v s => exact ⟨fun _ hp => (by cases hp), [v], s, rfl, (by cases hv.1; rfl), hv.2⟩
    · cases h
  | .str, l, x, r, u, vs, h, hv => by
    unfold uncells at h
    split at h
    · cases h
      cases vs with
      | nil => exact hv.elim
      | cons v s => exact ⟨fun _ hp => (by cases hp), [v], s, rfl, (by cases hv.1; rfl), hv.2⟩
    · cases h
  | .unit, l, x, r, u, vs, h, hv => by
    unfold uncells at h
    cases h
    exact ⟨fun _ hp => (by cases hp), [], vs, rfl, rfl, hv⟩
  | .flt k, l, x, r, u, vs, h, hv => by
    unfold uncells at h
    split at h
    · split at h
      · rename_i hk
        cases h
        subst hk
        cases vs with
        | nil => exact hv.elim
        | cons v s =>
          obtain ⟨b, rfl, hb⟩ := hv.1
          exact ⟨fun _ hp => (by cases hp), [_], s, rfl, ⟨b, rfl, hb⟩, hv.2⟩
      · cases h
    · cases h
  | .pair a b, l, x, r, u, vs, h, hv => by
    unfold uncells at h
    split at h
    · rename_i x1 r1 u1 h1
      split at h
      · rename_i x2 r2 u2 h2
        cases h
        obtain ⟨d1, l1, l2, rfl, e1, c1⟩ := uncells_rel hp h1 hv
        obtain ⟨d2, l3, l4, rfl, e2, c2⟩ := uncells_rel hp h2 c1
        exact ⟨d1.append d2, l1 ++ l3, l4, by simp, ⟨l1, l3, rfl, e1.mono (Dem.mono fun _ h => List.mem_append_left _ h) (Same.refl _ _), e2.mono (Dem.mono fun _ h => List.mem_append_right _ h) (Same.refl _ _)⟩, c2⟩
      · cases h
    · cases h
  | .sl t, l, x, r, u, vs, h, hv => by
    unfold uncells at h
    split at h
    · split at h
      · rename_i he
        cases h
        cases vs with
        | nil => exact hv.elim
        | cons v s => exact ⟨elems_dem he, [v], s, rfl, elems_rel hp he hv.1, hv.2⟩
      · cases h
    · cases h

end
end Go.Rex
/- Rex, part G: what is so behind an operation that makes, writes or gives away a block. -/
namespace Go.Rex

def setM (m : Map) (b : Nat) (L : Loc) : Map := fun i => if i = b then some L else m i

theorem setM_same (m : Map) (b : Nat) (L : Loc) : setM m b L b = some L := by simp [setM]
theorem setM_ne {m : Map} {b i : Nat} {L : Loc} (h : i ≠ b) : setM m b L i = m i := by simp [setM, h]

theorem setM_ext {m : Map} {b : Nat} {L : Loc} (h : m b = none) : Ext m (setM m b L) := fun i L' hi => by
  rw [setM_ne]
  · exact hi
  · rintro rfl; rw [h] at hi; cases hi

theorem BRel.demote {R : Nat → Prop} {m : Map} {w : World} {L : Loc} {t : Ty} {xs : List t.den} {md : Md} (h : BRel R m w L (.arr t xs md)) : BRel R m w L (.arr t xs .fz) := by
  obtain ⟨h1, h2, h3, h4⟩ := h
  exact ⟨h1, h2, h3, fun c e => by
    obtain ⟨cs, el, fr, g1, g2, g3, _, g5⟩ := h4 c e
    exact ⟨cs, el, fr, g1, g2, g3, fun h => absurd rfl h, g5⟩⟩

section
variable {gl : List (Nat × AV0)} {look : Look} {nb : Nat} {m : Map} {R : Nat → Prop} {w w' : World} {dems : List (Nat × Option Blk)} {B B0 B1 : Blk} {L : Loc} {v : Value} {x : AV}

theorem DemOk.in (hp : Pre gl look nb m R w) (hd : DemOk look dems) {b : Nat} {y : Option Blk} (h : (b, y) ∈ dems) :
    ∃ t xs md L, y = some (.arr t xs .fz) ∧ look b = some (.arr t xs md) ∧ m b = some L ∧ BRel R m w L (.arr t xs md) := by
  obtain ⟨t, xs, md, h1, h2⟩ := hd _ h
  obtain ⟨L, h3, h4⟩ := hp.blk _ _ h2
  exact ⟨t, xs, md, L, h1, h2, h3, h4⟩

theorem dem_new (hp : Pre gl look nb m R w) (hd : DemOk look dems) {k : Nat} (hk : Dem m dems R k) : R k ∨ (w.heap.size ≤ k ∧ k < w'.heap.size) ∨ ∃ b B B' L, (b, some B') ∈ dems ∧ B'.md = .fz ∧ look b = some B ∧ m b = some L ∧ L.c = some k := by
  rcases hk with hk | ⟨b, y, L, h1, h2, h3⟩
  · exact .inl hk
  · obtain ⟨t, xs, md, L', e, h4, h5, _⟩ := hd.in hp h1
    cases e
    exact .inr (.inr ⟨b, _, _, L, h1, rfl, h4, h2, h3⟩)

theorem dem_lt (hp : Pre gl look nb m R w) (hd : DemOk look dems) {k : Nat} (hk : Dem m dems R k) : k < w.heap.size := by
  rcases hk with hk | ⟨b, y, L, h1, h2, h3⟩
  · exact hp.rsize k hk
  · obtain ⟨t, xs, md, L', e, h4, h5, h6⟩ := hd.in hp h1
    rw [h2] at h5; cases h5
    exact h6.lt h3

theorem Post.new (hp : Pre gl look nb m R w) (hd : DemOk look dems) (hk : Keeps (fun _ _ => False) w w') (hL : ∀ c, L.c = some c → w.heap.size ≤ c ∧ c < w'.heap.size) (hmd : B.md ≠ .fz)
    (hB : BRel (Dem m dems R) (setM m nb L) w' L B) (hv : AVRel (Dem m dems R) (setM m nb L) w' x v) :
    Post look nb m R w ⟨x, dems ++ [(nb, some B)]⟩ (setM m nb L) (Dem m dems R) w' v := by
  have hfree := hp.free nb (Nat.le_refl _) (by omega)
  have hext : Ext m (setM m nb L) := setM_ext hfree
  have hsame : Same R w w' := fun k hR => hk.same (hp.rsize k hR) fun _ h => h
  have cut : ∀ {b : Nat} {y : Option Blk}, (b, y) ∈ dems ++ [(nb, some B)] → ((b, y) ∈ dems ∧ b ≠ nb) ∨ (b = nb ∧ y = some B) := by
    intro b y h
    rcases List.mem_append.1 h with h1 | h1
    · refine .inl ⟨h1, fun e => ?_⟩
      obtain ⟨_, _, _, _, _, _, h5, _⟩ := hd.in hp h1
      rw [e, hfree] at h5; cases h5
    · cases List.mem_singleton.1 h1; exact .inr ⟨rfl, rfl⟩
  refine ⟨hext, fun b L' h g => ?_, hk.mono fun _ _ _ h => h.elim, fun _ h => .inl h, fun k h => ?_, fun b B' h => ?_, fun b B' h g => ?_, fun b B' L' k h g i j => ?_, fun b b' X X' M M' k h h' g g' _ _ _ _ => ?_, fun b B' L' k h g i j => ?_, fun b B' L' k h g i j => ?_, hv⟩
  · by_cases e : b = nb
    · omega
    · rw [setM_ne e, g] at h; cases h
  · rcases dem_new hp hd h with h | h | ⟨b, X, X', M, h1, h2⟩
    · exact .inl h
    · exact .inr (.inl h)
    · exact .inr (.inr (.inl ⟨b, X, X', M, List.mem_append_left _ h1, h2⟩))
  · rcases cut h with ⟨h, hne⟩ | ⟨rfl, e⟩
    · obtain ⟨t, xs, md, L1, e, h4, h5, h6⟩ := hd.in hp h
      cases e
      exact ⟨L1, hext _ _ h5, (h6.mono (fun _ h => .inl h) hsame hext fun c hc => hk.same (h6.lt hc) fun _ h => h).demote⟩
    · cases e
      exact ⟨L, setM_same _ _ _, hB⟩
  · rcases cut h with ⟨h, hne⟩ | ⟨rfl, e⟩
    · obtain ⟨t, xs, md, L1, e, h4, h5, h6⟩ := hd.in hp h
      cases e
      exact ⟨_, h4, .inr rfl⟩
    · exact absurd hfree g
  · rcases cut h with ⟨h, hne⟩ | ⟨rfl, e⟩
    · obtain ⟨_, _, _, _, _, _, h5, _⟩ := hd.in hp h
      rw [g] at h5; cases h5
    · rw [setM_same] at i; cases i
      exact .inl (hL k j).1
  · rcases cut h with ⟨h, hne⟩ | ⟨rfl, e⟩
    · obtain ⟨_, _, _, _, _, _, h5, _⟩ := hd.in hp h
      rw [g] at h5; cases h5
    · rcases cut h' with ⟨h', hne⟩ | ⟨rfl, e⟩
      · obtain ⟨_, _, _, _, _, _, h5, _⟩ := hd.in hp h'
        rw [g'] at h5; cases h5
      · rfl
  · rcases cut h with ⟨h, hne⟩ | ⟨rfl, e⟩
    · rw [setM_ne hne] at i
      exact .inr ⟨b, _, L', h, i, j⟩
    · cases e; exact absurd g hmd
  · rcases cut h with ⟨h, hne⟩ | ⟨rfl, e⟩
    · obtain ⟨t, xs, md, L1, e, h4, h5, h6⟩ := hd.in hp h
      cases e; exact absurd rfl g
    · rw [setM_same] at i; cases i
      intro hd'
      have := dem_lt hp hd hd'
      have := (hL k j).1
      omega

theorem Post.write (hp : Pre gl look nb m R w) (hd : DemOk look dems) {b : Nat} (hb : look b = some B0) (hm : m b = some L) (hmd : B0.md ≠ .fz) (hB1 : B1.md = B0.md) (hne : ∀ p ∈ dems, p.1 ≠ b)
    (hk : Keeps (fun k j => L.c = some k ∧ Owns L B0.md j) w w') (hB : BRel (Dem m dems R) m w' L B1) (hv : AVRel (Dem m dems R) m w' x v) :
    Post look nb m R w ⟨x, (b, some B1) :: dems⟩ m (Dem m dems R) w' v := by
  have hsame : Same R w w' := fun k hR => hk.same (hp.rsize k hR) fun _ h => hp.rw b B0 L k hb hmd hm h.1 hR
  have cut : ∀ {i : Nat} {y : Option Blk}, (i, y) ∈ (b, some B1) :: dems → ((i, y) ∈ dems ∧ i ≠ b) ∨ (i = b ∧ y = some B1) := by
    intro i y h
    rcases List.mem_cons.1 h with h | h
    · cases h; exact .inr ⟨rfl, rfl⟩
    · exact .inl ⟨h, hne _ h⟩
  have has : ∀ {i : Nat} {y : Option Blk}, (i, y) ∈ (b, some B1) :: dems → m i ≠ none := by
    intro i y h
    rcases cut h with ⟨h, hne⟩ | ⟨rfl, e⟩
    · obtain ⟨_, _, _, _, _, _, h5, _⟩ := hd.in hp h
      rw [h5]; simp
    · rw [hm]; simp
  refine ⟨fun _ _ h => h, fun b L' h g => (by rw [h] at g; cases g), hk.mono fun k _ j hj => ⟨b, B0, L, hb, ⟨_, List.mem_cons_self⟩, hm, hj.1, hj.2⟩, fun _ h => .inl h, fun k h => ?_, fun i B' h => ?_, fun i B' h g => ?_, fun i B' L' k h g => absurd g (has h), fun i b' X X' M M' k h h' g => absurd g (has h), fun i B' L' k h g hi hj => ?_, fun i B' L' k h g hi hj => ?_, hv⟩
  · rcases dem_new hp hd h with h | h | ⟨i, X, X', M, h1, h2⟩
    · exact .inl h
    · exact .inr (.inl h)
    · exact .inr (.inr (.inl ⟨i, X, X', M, List.mem_cons_of_mem _ h1, h2⟩))
  · rcases cut h with ⟨h, hne⟩ | ⟨rfl, e⟩
    · obtain ⟨t, xs, md, L1, e, h4, h5, h6⟩ := hd.in hp h
      cases e
      refine ⟨L1, h5, (h6.mono (fun _ h => .inl h) hsame (fun _ _ h => h) fun c hc => hk.same (h6.lt hc) fun _ hx => ?_).demote⟩
      exact hmd (hp.inj i b _ _ L1 L c h4 hb hne h5 hm hc hx.1).2
    · cases e
      exact ⟨L, hm, hB⟩
  · rcases cut h with ⟨h, hne⟩ | ⟨rfl, e⟩
    · obtain ⟨t, xs, md, L1, e, h4, h5, h6⟩ := hd.in hp h
      cases e
      exact ⟨_, h4, .inr rfl⟩
    · cases e; exact ⟨_, hb, .inl hB1⟩
  · rcases cut h with ⟨h, hne⟩ | ⟨rfl, e⟩
    · exact .inr ⟨i, _, L', h, hi, hj⟩
    · cases e; rw [hB1] at g; exact absurd g hmd
  · rcases cut h with ⟨h, hne⟩ | ⟨rfl, e⟩
    · obtain ⟨t, xs, md, L1, e, h4, h5, h6⟩ := hd.in hp h
      cases e; exact absurd rfl g
    · rw [hm] at hi; cases hi
      rintro (h | ⟨i', y, M, h1, h2, h3⟩)
      · exact hp.rw i B0 L k hb hmd hm hj h
      · obtain ⟨t, xs, md, L1, e, h4, h5, h6⟩ := hd.in hp h1
        exact hmd (hp.inj i' i _ _ M L k h4 hb (hne _ h1) h2 hm h3 hj).2

/-- A block is given away for another, in the same place or elsewhere. -/
theorem Post.moved (hp : Pre gl look nb m R w) {b : Nat} {L0 : Loc} (hb : look b = some B0) (hm : m b = some L0) (hmd : B0.md = .full)
    (hk : Keeps (fun k _ => L0.c = some k) w w') (hL : ∀ c, L.c = some c → (w.heap.size ≤ c ∧ c < w'.heap.size) ∨ L0.c = some c) (hB1 : B1.md = .full) (hB : BRel R (setM m nb L) w' L B1) (hv : AVRel R (setM m nb L) w' x v) :
    Post look nb m R w ⟨x, [(b, none), (nb, some B1)]⟩ (setM m nb L) R w' v := by
  have hfree := hp.free nb (Nat.le_refl _) (by omega)
  have hne : b ≠ nb := by rintro rfl; rw [hfree] at hm; cases hm
  have hext : Ext m (setM m nb L) := setM_ext hfree
  have hz : B0.md ≠ .fz := by rw [hmd]; exact fun h => by cases h
  have cut : ∀ {i : Nat} {y : Blk}, (i, some y) ∈ [(b, none), (nb, some B1)] → i = nb ∧ y = B1 := by
    intro i y h
    rcases List.mem_cons.1 h with h | h
    · cases h
    · cases List.mem_singleton.1 h; exact ⟨rfl, rfl⟩
  refine ⟨hext, fun i L' h g => ?_, hk.mono fun k _ j hj => ⟨b, B0, L0, hb, ⟨_, List.mem_cons_self⟩, hm, hj, by rw [hmd]; trivial⟩, fun _ h => h, fun k h => .inl h, fun i B' h => ?_, fun i B' h g => ?_, fun i B' L' k h g hi hj => ?_, fun i b' X X' M M' k h h' g g' _ _ _ _ => ?_, fun i B' L' k h g hi hj => ?_, fun i B' L' k h g hi hj => ?_, hv⟩
  · by_cases e : i = nb
    · omega
    · rw [setM_ne e, g] at h; cases h
  · obtain ⟨rfl, rfl⟩ := cut h
    exact ⟨L, setM_same _ _ _, hB⟩
  · obtain ⟨rfl, rfl⟩ := cut h
    exact absurd hfree g
  · obtain ⟨rfl, rfl⟩ := cut h
    rw [setM_same] at hi; cases hi
    rcases hL k hj with h | h
    · exact .inl h.1
    · exact .inr (.inl ⟨b, B0, L0, List.mem_cons_self, fun X hX => (hne (cut hX).1), hb, hmd, hm, h⟩)
  · exact (cut h).1.trans (cut h').1.symm
  · obtain ⟨rfl, rfl⟩ := cut h
    rw [hB1] at g; cases g
  · obtain ⟨rfl, rfl⟩ := cut h
    rw [setM_same] at hi; cases hi
    intro hr
    rcases hL k hj with h | h
    · have := hp.rsize k hr; omega
    · exact hp.rw b B0 L0 k hb hz hm h hr

/-- A block and another, in the same place or elsewhere: both are only read from now on. -/
theorem Post.both (hp : Pre gl look nb m R w) {b : Nat} {L0 : Loc} {B0' : Blk} {R' : Nat → Prop} (hb : look b = some B0) (hm : m b = some L0) (hmd : B0.md = .full)
    (hk : Keeps (fun k _ => L0.c = some k) w w') (hL : ∀ c, L.c = some c → (w.heap.size ≤ c ∧ c < w'.heap.size) ∨ L0.c = some c) (h0 : B0'.md = .fz) (h1 : B1.md = .fz)
    (hR : ∀ k, R' k ↔ (R k ∨ L0.c = some k ∨ L.c = some k)) (hB0 : BRel R' (setM m nb L) w' L0 B0') (hB : BRel R' (setM m nb L) w' L B1) (hv : AVRel R' (setM m nb L) w' x v) :
    Post look nb m R w ⟨x, [(b, some B0'), (nb, some B1)]⟩ (setM m nb L) R' w' v := by
  have hfree := hp.free nb (Nat.le_refl _) (by omega)
  have hne : b ≠ nb := by rintro rfl; rw [hfree] at hm; cases hm
  have hext : Ext m (setM m nb L) := setM_ext hfree
  have cut : ∀ {i : Nat} {y : Option Blk}, (i, y) ∈ [(b, some B0'), (nb, some B1)] → (i = b ∧ y = some B0') ∨ (i = nb ∧ y = some B1) := by
    intro i y h
    rcases List.mem_cons.1 h with h | h
    · cases h; exact .inl ⟨rfl, rfl⟩
    · cases List.mem_singleton.1 h; exact .inr ⟨rfl, rfl⟩
  refine ⟨hext, fun i L' h g => ?_, hk.mono fun k _ j hj => ⟨b, B0, L0, hb, ⟨_, List.mem_cons_self⟩, hm, hj, by rw [hmd]; trivial⟩, fun k h => (hR k).2 (.inl h), fun k h => ?_, fun i B' h => ?_, fun i B' h g => ?_, fun i B' L' k h g hi hj => ?_, fun i b' X X' M M' k h h' g g' _ _ _ _ => ?_, fun i B' L' k h g hi hj => ?_, fun i B' L' k h g hi hj => ?_, hv⟩
  · by_cases e : i = nb
    · omega
    · rw [setM_ne e, g] at h; cases h
  · rcases (hR k).1 h with h | h | h
    · exact .inl h
    · exact .inr (.inr (.inl ⟨b, B0, B0', L0, List.mem_cons_self, h0, hb, hm, h⟩))
    · rcases hL k h with h | h
      · exact .inr (.inl h)
      · exact .inr (.inr (.inl ⟨b, B0, B0', L0, List.mem_cons_self, h0, hb, hm, h⟩))
  · rcases cut h with ⟨rfl, e⟩ | ⟨rfl, e⟩ <;> cases e
    · exact ⟨L0, hext _ _ hm, hB0⟩
    · exact ⟨L, setM_same _ _ _, hB⟩
  · rcases cut h with ⟨rfl, e⟩ | ⟨rfl, e⟩ <;> cases e
    · exact ⟨B0, hb, .inr h0⟩
    · exact absurd hfree g
  · rcases cut h with ⟨rfl, e⟩ | ⟨rfl, e⟩ <;> cases e
    · rw [hm] at g; cases g
    · rw [setM_same] at hi; cases hi
      rcases hL k hj with h | h
      · exact .inl h.1
      · refine .inr (.inr ⟨h1, b, B0, L0, ⟨_, List.mem_cons_self⟩, fun y hy => ?_, hb, hmd, hm, h⟩)
        rcases cut hy with ⟨_, e⟩ | ⟨e, _⟩
        · exact ⟨B0', e, h0⟩
        · exact absurd e hne
  · have mine : ∀ {i : Nat} {y : Blk}, (i, some y) ∈ [(b, some B0'), (nb, some B1)] → m i = none → i = nb := fun h g => by
      rcases cut h with ⟨rfl, _⟩ | ⟨e, _⟩
      · rw [hm] at g; cases g
      · exact e
    exact (mine h g).trans (mine h' g').symm
  · rcases cut h with ⟨rfl, e⟩ | ⟨rfl, e⟩ <;> cases e
    · rw [hext _ _ hm] at hi; cases hi
      exact (hR k).2 (.inr (.inl hj))
    · rw [setM_same] at hi; cases hi
      exact (hR k).2 (.inr (.inr hj))
  · rcases cut h with ⟨rfl, e⟩ | ⟨rfl, e⟩ <;> cases e
    · exact absurd h0 g
    · exact absurd h1 g

end
end Go.Rex
/- Rex, part H: writing cells; each operation that calls nothing. -/
namespace Go.Rex

theorem Keeps.trans' {X : Nat → Nat → Prop} {a b c : World} (h : Keeps X a b) (k : Keeps X b c) : Keeps X a c :=
  (h.trans k).mono fun _ _ _ hx => hx.elim id id

section
variable {P : Program} {w : World}

theorem run_storeCells {c o : Nat} {e : TypeId} : ∀ (vs : List Value) (i : Nat) (w : World) (cs : Array Value), w.heap[c]? = some (.cells cs e (0, 0)) → o + i + vs.length ≤ cs.size → (∀ v ∈ vs, v.oneCell' = true) →
    ∃ w' cs', (storeCells ⟨c, o, none⟩ vs i).run P w = .ok () w' ∧ Keeps (fun k j => k = c ∧ o + i ≤ j ∧ j < o + i + vs.length) w w' ∧ w'.heap[c]? = some (.cells cs' e (0, 0)) ∧ cs'.size = cs.size ∧
      (∀ j, j < vs.length → cs'[o + i + j]? = vs[j]?) ∧ ∀ j, (j < o + i ∨ o + i + vs.length ≤ j) → cs'[j]? = cs[j]?
  | [], i, w, cs, h, _, _ => ⟨w, cs, rfl, Keeps.refl _ _, h, rfl, fun j hj => by simp at hj, fun _ _ => rfl⟩
  | v :: vs, i, w, cs, h, hs, hv => by
    have hlt : o + i < cs.size := by simp at hs; omega
    have hcell : w.cell? ⟨c, o + i, none⟩ = some cs[o + i] := by simp [World.cell?, h, hlt]
    have hfr : w.frozen? ⟨c, o + i, none⟩ = false := by simp [World.frozen?, h]
    have hone := run_store P w ⟨c, o + i, none⟩ v .plain (hv v List.mem_cons_self)
    rw [hcell] at hone
    simp only [hfr, Bool.false_eq_true, if_false] at hone
    have hheap : (w.setCell ⟨c, o + i, none⟩ v).heap[c]? = some (.cells (cs.setIfInBounds (o + i) v) e (0, 0)) := by
      simp [World.setCell, Array.getElem?_modify, h]
    obtain ⟨w', cs', h1, h2, h3, h4, h5, h6⟩ := run_storeCells (c := c) (o := o) (e := e) vs (i + 1) (w.setCell ⟨c, o + i, none⟩ v) (cs.setIfInBounds (o + i) v) hheap (by simp at hs ⊢; omega) fun u hu => hv u (List.mem_cons_of_mem _ hu)
    refine ⟨w', cs', ?_, ?_, h3, h4.trans (by simp), fun j hj => ?_, fun j hj => ?_⟩
    · simp only [storeCells, Sem.run_bind, addr_add (a := ⟨c, o, none⟩) rfl, hone, Result.andThen_ok]
      exact h1
    · have hk1 : Keeps (fun k j => k = c ∧ o + i ≤ j ∧ j < o + i + (v :: vs).length) w (w.setCell ⟨c, o + i, none⟩ v) := Keeps.setCell w _ v ⟨rfl, Nat.le_refl _, by simp⟩
      have hk2 : Keeps (fun k j => k = c ∧ o + i ≤ j ∧ j < o + i + (v :: vs).length) (w.setCell ⟨c, o + i, none⟩ v) w' := h2.mono fun k _ j hx => ⟨hx.1, by omega, by have := hx.2.2; simp; omega⟩
      exact hk1.trans' hk2
    · cases j with
      | zero => rw [h6 (o + i + 0) (by omega)]; simp [hlt]
      | succ j =>
        have := h5 j (by simpa using hj)
        rw [show o + i + (j + 1) = o + (i + 1) + j by omega, this]; simp
    · simp only [List.length_cons] at hj
      rw [h6 j (by omega), Array.getElem?_setIfInBounds_ne (by omega)]

/-- A value's cells. -/
theorem VRel.one {R : Nat → Prop} {m : Map} {x : AV0} {v : Value} (h : VRel R m w x v) (hx : noUn [x] = true) : v.cells = #[v] ∧ v.oneCell' = true := by
  cases x with
  | un => cases hx
  | int k n => cases h; exact ⟨rfl, rfl⟩
  | bool b => cases h; exact ⟨rfl, rfl⟩
  | str s => cases h; exact ⟨rfl, rfl⟩
  | flt k n => obtain ⟨b, e, _⟩ := h; cases e; exact ⟨rfl, rfl⟩
  | ro t xs => obtain ⟨a, c, e, _⟩ := h; cases e; exact ⟨rfl, rfl⟩
  | nils => cases h; exact ⟨rfl, rfl⟩
  | sl b o n => obtain ⟨L, _, a, ln, cp, e, _⟩ := h; cases e; exact ⟨rfl, rfl⟩
  | ref b o => obtain ⟨L, c, _, _, e⟩ := h; cases e; exact ⟨rfl, rfl⟩
  | rel b i f => obtain ⟨L, c, _, _, _, e⟩ := h; cases e; exact ⟨rfl, rfl⟩
  | rp t y => obtain ⟨ad, l, e, _⟩ := h; cases e; exact ⟨rfl, rfl⟩
  | rarr t y => obtain ⟨ad, e, _⟩ := h; cases e; exact ⟨rfl, rfl⟩
  | fn f => cases h; exact ⟨rfl, rfl⟩
  | pa b n => obtain ⟨L, c, _, _, _, e⟩ := h; cases e; exact ⟨rfl, rfl⟩

theorem noUn_cons {x : AV0} {r : List AV0} (h : noUn (x :: r) = true) : noUn [x] = true ∧ noUn r = true := by
  cases x <;> first | (cases h; done) | exact ⟨rfl, h⟩

theorem CRel.one {R : Nat → Prop} {m : Map} : ∀ {l : List AV0} {s : List Value}, CRel R m w l s → noUn l = true → ∀ v ∈ s, v.oneCell' = true
  | [], [], _, _, v, hv => by cases hv
  | x :: r, u :: s, h, hn, v, hv => by
    obtain ⟨h1, h2⟩ := noUn_cons hn
    rcases List.mem_cons.1 hv with rfl | hv
    · exact (h.1.one h1).2
    · exact h.2.one h2 v hv
  | [], _ :: _, h, _, _, _ => h.elim
  | _ :: _, [], h, _, _, _ => h.elim

theorem V1Rel.cells {R : Nat → Prop} {m : Map} {g : Bool} {l : List AV0} {v : Value} (h : V1Rel R m w (g, l) v) (hn : noUn l = true) : CRel R m w l v.cells.toList := by
  cases g with
  | true => obtain ⟨vs, rfl, h⟩ := h; exact h
  | false =>
    match l, h with
    | [x], h =>
      have := (VRel.one h hn).1
      rw [this]
      exact ⟨h, trivial⟩

theorem V1Rel.cells' {R : Nat → Prop} {m : Map} {l : List AV0} {v : Value} (h : V1Rel R m w (true, l) v) : CRel R m w l v.cells.toList := by
  obtain ⟨vs, rfl, h⟩ := h; exact h

/-! ### The operations -/
variable {C : Ctx} {look : Look} {evv : Operand → AV} {nb : Nat} {ρ : Type} {K : Eff → Option ρ} {r : ρ} {fuel : Nat}

/-- What a step is to do. -/
def Good (P : Program) (C : Ctx) (look : Look) (evv : Operand → AV) (nb : Nat) (o : Oper) (K : Eff → Option ρ) (r : ρ) : Prop :=
  ∃ e, K e = some r ∧ Sound P C.gl look evv nb o e

/-- Of the constants that the evaluator looks at. -/
def EvOk (evv : Operand → AV) : Prop := ∀ k n, evv (.const (.int k n)) = .v (false, [.int k n])

theorem step_move {o : Oper} {x : Operand} (ho : o.op = .move x ∨ o.op = .assign x) (h : K ⟨evv x, []⟩ = some r) : Good P C look evv nb o K r := by
  refine ⟨_, h, sound_value fun m R w f hp hr => ⟨f x, ?_, ?_⟩⟩
  · unfold execOp; rcases ho with ho | ho <;> rw [ho] <;> rfl
  · rcases ho with ho | ho <;> exact hr x (by rw [ho]; simp [Op.operands])

theorem step_pick {o : Oper} {c x y : Operand} (ho : o.op = .pick c x y) (h : step C fuel look evv nb (.pick c x y) K = some r) : Good P C look evv nb o K r := by
  simp only [step] at h
  split at h
  · rename_i b hc
    by_cases hb : b = true
    · rw [if_pos hb] at h
      refine ⟨_, h, sound_value fun m R w f hp hr => ⟨f x, ?_, hr x (by rw [ho]; simp [Op.operands])⟩⟩
      have h1 := hr c (by rw [ho]; simp [Op.operands])
      rw [hc] at h1
      have h2 : f c = .bool b := h1
      unfold execOp; rw [ho]; simp [h2, asBool, hb]
    · rw [if_neg hb] at h
      refine ⟨_, h, sound_value fun m R w f hp hr => ⟨f y, ?_, hr y (by rw [ho]; simp [Op.operands])⟩⟩
      have h1 := hr c (by rw [ho]; simp [Op.operands])
      rw [hc] at h1
      have h2 : f c = .bool b := h1
      unfold execOp; rw [ho]; simp [h2, asBool, hb]
  · cases h

theorem loc_new {R : Nat → Prop} {m : Map} {l : List AV0} {vs : Array Value} {e : TypeId} (hn : noUn l = true) (h : CRel R m w l vs.toList) (hm : m nb = none) (hR : ∀ k, R k → k < w.heap.size) :
    BRel R (setM m nb ⟨some w.heap.size, 0, l.length, 1, l.length⟩) { w with heap := w.heap.push (.cells vs e (0, 0)) } ⟨some w.heap.size, 0, l.length, 1, l.length⟩ (.loc l) :=
  ⟨w.heap.size, vs, e, rfl, rfl, hn, by simp, h.mono (fun _ h => h) (fun k hk => by
    have := hR k hk
    show (w.heap.push _)[k]? = _
    rw [Array.getElem?_push, if_neg (by omega)]) (setM_ext hm)⟩

theorem sound_new {o : Oper} {l : List AV0} (h : ∀ (m : Map) (R : Nat → Prop) (w : World) (f : Operand → Value), Pre C.gl look nb m R w → (∀ y ∈ o.op.operands, AVRel R m w (evv y) (f y)) →
      ∃ (vs : Array Value) (e : TypeId), (execOp f o).run P w = .ok (.value (.pointer (some ⟨w.heap.size, 0, none⟩))) { w with heap := w.heap.push (.cells vs e (0, 0)) } ∧ CRel R m w l vs.toList) (hn : noUn l = true) :
    Sound P C.gl look evv nb o ⟨.one (.ref nb 0), [(nb, some (.loc l))]⟩ := by
  intro m R w f hp hr
  obtain ⟨vs, e, h1, h2⟩ := h m R w f hp hr
  have hfree := hp.free nb (Nat.le_refl _) (by omega)
  refine Outcome.value h1 ⟨setM m nb ⟨some w.heap.size, 0, l.length, 1, l.length⟩, Dem m [] R, ?_⟩
  have hR : ∀ k, Dem m [] R k → R k := fun k hk => hk.elim id fun ⟨_, _, _, h, _⟩ => by cases h
  refine Post.new (dems := []) hp (fun _ h => by cases h) (Keeps.alloc _ _ _) (fun c hc => ?_) (fun h => by cases h) ?_ ?_
  · cases hc; simp
  · exact loc_new hn (h2.mono (fun _ h => .inl h) (Same.refl _ _) fun _ _ h => h) hfree fun k hk => hp.rsize k (hR k hk)
  · exact ⟨_, w.heap.size, setM_same _ _ _, rfl, rfl⟩

theorem step_alloc {o : Oper} {t : TypeId} (hT : TabOk P C) (ho : o.op = .alloc t) (h : step C fuel look evv nb (.alloc t) K = some r) : Good P C look evv nb o K r := by
  simp only [step, cif_eq] at h
  split at h
  · rename_i ti hti
    split at h
    · split at h
      · rename_i hn
        refine ⟨_, h, sound_new (fun m R w f hp hr => ?_) hn⟩
        obtain ⟨z, h1, h2, _⟩ := run_zeroValue (w := w) (hT t ti hti)
        refine ⟨z.cells, t, ?_, h2 R m w⟩
        unfold execOp; rw [ho]
        simp [Instr.alloc, h1, newVar, newRow]
      · cases h
    · split at h
      · rename_i n e' hd
        split at h
        · rename_i te hte
          split at h
          · rename_i hc
            obtain ⟨hz0, hts, hsz⟩ := hc
            refine ⟨_, h, ?_⟩
            intro m R w f hp hr
            obtain ⟨z, h1, h2, h3⟩ := run_zeroValue (w := w) (hT t ti hti)
            -- what the cells are
            have hcells : ∃ k, te.ty = .int k ∧ z.cells.toList.length = n ∧ ∀ (i : Nat) u, z.cells.toList[i]? = some u → u = .int k 0 := by
              obtain ⟨k, heq⟩ : ∃ k, te.ty = .int k := by
                revert hz0; cases te.ty <;> simp [zerosB]
              rw [heq] at hz0
              simp only [zerosB, Bool.and_eq_true, beq_iff_eq] at hz0
              have hcr := h2 R m w
              refine ⟨k, heq, by rw [← hcr.length]; exact hz0.1, fun i u hu => ?_⟩
              have hlt : i < ti.zero.length := by rw [hcr.length]; exact (List.getElem?_eq_some_iff.1 hu).1
              obtain ⟨u', e1, e2⟩ := hcr.get i _ (List.getElem?_eq_getElem hlt)
              rw [hu] at e1; cases e1
              have := List.all_eq_true.1 hz0.2 _ (List.getElem_mem hlt)
              revert e2 this
              generalize ti.zero[i] = x
              intro e2 this
              cases x <;> simp at this
              obtain ⟨rfl, rfl⟩ := this
              exact e2
            obtain ⟨kk, hk1, hk2, hk3⟩ := hcells
            have hfree := hp.free nb (Nat.le_refl _) (by omega)
            have hex : (execOp f o).run P w = .ok (.value (.pointer (some ⟨w.heap.size, 0, none⟩))) { w with heap := w.heap.push (.cells z.cells t (0, 0)) } := by
              unfold execOp; rw [ho]
              simp [Instr.alloc, h1, newVar, newRow]
            have hzs : z.cells.size = n := by simpa using hk2
            refine Outcome.value hex ⟨setM m nb ⟨some w.heap.size, 0, n, te.ty.size, n * te.ty.size⟩, Dem m [] R, ?_⟩
            refine Post.new (dems := []) hp (fun _ h => by cases h) (Keeps.alloc _ _ _) (fun c hc => ?_) (fun h => by cases h) ?_ ?_
            · cases hc; simp
            · have hs1 : te.ty.size = 1 := by rw [hk1]; rfl
              refine ⟨by simp, rfl, fun h => (by cases h), fun c hc => ?_⟩
              cases hc
              refine ⟨z.cells, t, (0, 0), by simp, by rw [hs1, Nat.mul_one]; exact hzs, by simp, fun _ => rfl, fun i x hx => ?_⟩
              rw [List.getElem?_replicate] at hx
              split at hx
              · rename_i hi
                cases hx
                refine ⟨[.int kk 0], ?_, fun j u hu => ?_⟩
                · rw [hk1]; rfl
                · have hj : j = 0 := by have := (List.getElem?_eq_some_iff.1 hu).1; simpa using this
                  subst hj
                  cases hu
                  have hlt : i < z.cells.toList.length := by omega
                  have := hk3 i _ (List.getElem?_eq_getElem hlt)
                  rw [← Array.getElem?_toList]; simp only [hs1, Nat.mul_one, Nat.zero_add, Nat.add_zero]; rw [List.getElem?_eq_getElem hlt, this]
              · cases hx
            · exact ⟨_, w.heap.size, setM_same _ _ _, rfl, rfl, rfl⟩
          · cases h
        · cases h
      · split at h
        · rename_i hsz
          refine ⟨_, h, ?_⟩
          intro m R w f hp hr
          obtain ⟨z, h1, h2, h3⟩ := run_zeroValue (w := w) (hT t ti hti)
          have hz := fun R w => h3 R w hsz.symm
          have hzs : z.cells.size = ti.ty.size := by simpa using (hz R w).length
          have hfree := hp.free nb (Nat.le_refl _) (by omega)
          have hex : (execOp f o).run P w = .ok (.value (.pointer (some ⟨w.heap.size, 0, none⟩))) { w with heap := w.heap.push (.cells z.cells t (0, 0)) } := by
            unfold execOp; rw [ho]
            simp [Instr.alloc, h1, newVar, newRow]
          refine Outcome.value hex ⟨setM m nb ⟨some w.heap.size, 0, 1, ti.ty.size, ti.ty.size⟩, Dem m [] R, ?_⟩
          refine Post.new (dems := []) hp (fun _ h => by cases h) (Keeps.alloc _ _ _) (fun c hc => ?_) (fun h => by cases h) ?_ ?_
          · cases hc; simp
          · refine ⟨rfl, rfl, fun h => (by cases h), fun c hc => ?_⟩
            cases hc
            refine ⟨z.cells, t, (0, 0), by simp, hzs, by simp, fun _ => rfl, fun i x hx => ?_⟩
            cases i with
            | zero =>
              cases hx
              refine ⟨_, hz _ _, fun j u hu => ?_⟩
              simpa using hu
            | succ i => simp at hx
          · exact ⟨_, w.heap.size, setM_same _ _ _, rfl, Nat.one_pos, by simp⟩
        · cases h
  · cases h

theorem step_box {o : Oper} {t : TypeId} {x : Operand} (ho : o.op = .box t x) (h : step C fuel look evv nb (.box t x) K = some r) : Good P C look evv nb o K r := by
  simp only [step, cif_eq] at h
  split at h
  · rename_i g cs hx
    split at h
    · rename_i hn
      refine ⟨_, h, sound_new (fun m R w f hp hr => ?_) hn⟩
      have h1 := hr x (by rw [ho]; simp [Op.operands])
      rw [hx] at h1
      refine ⟨(f x).cells, t, ?_, V1Rel.cells h1 hn⟩
      unfold execOp; rw [ho]
      simp [Instr.box, newVar, newRow]
    · cases h
  · cases h

theorem step_binOp {o : Oper} {op : BinOp} {t u : TypeId} {x y : Operand} (hT : TabOk P C) (hev : EvOk evv) (ho : o.op = .binOp op t x y u) (h : step C fuel look evv nb (.binOp op t x y u) K = some r) : Good P C look evv nb o K r := by
  simp only [step] at h
  split at h
  · rename_i a b ha hb
    have hyc : isConst y = true → ∃ k n, b = .int k n ∧ 0 < n := by
      intro hc
      unfold isConst at hc
      split at hc
      · rename_i k n
        rw [hev] at hb
        cases hb
        exact ⟨k, n, rfl, by simpa using hc⟩
      · cases hc
    have htb : isBoolT C t = true → P.underlying t = some .bool := by
      intro hc
      unfold isBoolT at hc
      split at hc
      · rename_i ti hti
        obtain ⟨_, _, _, _, _, h5, _⟩ := hT t _ hti
        exact h5
      · cases hc
    obtain ⟨c, h1, h2⟩ := binOp_sound (P := P) (x := x) (y := y) hyc htb h
    refine ⟨_, h1, sound_drew fun m R w f hp hr => ?_⟩
    obtain ⟨v, n, h3, h4⟩ := h2 R m w (f x) (f y) (one_rel ha (hr x (by rw [ho]; simp [Op.operands]))) (one_rel hb (hr y (by rw [ho]; simp [Op.operands])))
    refine ⟨v, n, ?_, h4⟩
    unfold execOp; rw [ho]
    simp only [Sem.run_bind, Sem.run_pure] at h3 ⊢
    rw [h3]; rfl
  · cases h

end
end Go.Rex
/- Rex, part I: each operation that calls nothing, further: conversions, fields, elements, loads, stores. -/
namespace Go.Rex

section
variable {P : Program} {C : Ctx} {look : Look} {evv : Operand → AV} {nb : Nat} {ρ : Type} {K : Eff → Option ρ} {r : ρ} {fuel : Nat}

theorem step_unOp {o : Oper} {op : UnOp} {t : TypeId} {x : Operand} (ho : o.op = .unOp op t x) (h : step C fuel look evv nb (.unOp op t x) K = some r) : Good P C look evv nb o K r := by
  simp only [step] at h
  split at h
  · rename_i a ha
    obtain ⟨c, h1, h2⟩ := unOp_sound (P := P) h
    refine ⟨_, h1, sound_value fun m R w f hp hr => ?_⟩
    obtain ⟨v, h3, h4⟩ := h2 R m w (f x) (one_rel ha (hr x (by rw [ho]; simp [Op.operands])))
    refine ⟨v, ?_, h4⟩
    unfold execOp; rw [ho]
    simp only [Sem.run_bind, Sem.run_pure] at h3 ⊢
    rw [h3]; rfl
  · cases h

theorem step_nilCheck {o : Oper} {x : Operand} (ho : o.op = .nilCheck x) (h : step C fuel look evv nb (.nilCheck x) K = some r) : Good P C look evv nb o K r := by
  simp only [step] at h
  have key : ∀ a : AV0, evv x = .v (false, [a]) → (∀ R m w v, VRel R m w a v → ∃ ad, v = .pointer (some ad)) → K ⟨.v (false, [a]), []⟩ = some r → Good P C look evv nb o K r := by
    intro a ha hv hk
    refine ⟨_, hk, sound_value fun m R w f hp hr => ⟨f x, ?_, ?_⟩⟩
    · have h1 := hr x (by rw [ho]; simp [Op.operands])
      rw [ha] at h1
      obtain ⟨ad, h2⟩ := hv R m w _ h1
      unfold execOp; rw [ho]; simp [h2]
    · rw [← ha]; exact hr x (by rw [ho]; simp [Op.operands])
  split at h
  · rename_i b i hx
    exact key _ hx (fun R m w v ⟨L, c, _, _, e⟩ => ⟨_, e⟩) h
  · rename_i b i f hx
    exact key _ hx (fun R m w v ⟨L, c, _, _, _, e⟩ => ⟨_, e⟩) h
  · rename_i t y hx
    exact key _ hx (fun R m w v ⟨ad, l, e, _⟩ => ⟨_, e⟩) h
  · rename_i b n hx
    exact key _ hx (fun R m w v ⟨L, c, _, _, _, e⟩ => ⟨_, e⟩) h
  · cases h

theorem V1sRel.nth {R : Nat → Prop} {m : Map} {w : World} : ∀ {l : List V1} {s : List Value} {i : Nat} {x : V1}, V1sRel R m w l s → nth? l i = some x → ∃ v, s[i]? = some v ∧ V1Rel R m w x v
  | [], [], _, _, _, h => by cases h
  | _ :: _, v :: _, 0, _, h, e => by cases e; exact ⟨v, rfl, h.1⟩
  | _ :: _, _ :: _, i + 1, x, h, e => by
    obtain ⟨v, h1, h2⟩ := V1sRel.nth (i := i) h.2 e
    exact ⟨v, by simpa using h1, h2⟩
  | [], _ :: _, _, _, h, _ => h.elim
  | _ :: _, [], _, _, h, _ => h.elim

theorem step_extract {o : Oper} {x : Operand} {i : Nat} (ho : o.op = .extract x i) (h : step C fuel look evv nb (.extract x i) K = some r) : Good P C look evv nb o K r := by
  simp only [step] at h
  split at h
  · rename_i vs hx
    split at h
    · rename_i v hv
      refine ⟨_, h, sound_value fun m R w f hp hr => ?_⟩
      have h1 := hr x (by rw [ho]; simp [Op.operands])
      rw [hx] at h1
      obtain ⟨us, e, h2⟩ := h1
      obtain ⟨u, h3, h4⟩ := h2.nth hv
      refine ⟨u, ?_, h4⟩
      have h5 : us[i]? = some u := by rw [← h3]; simp
      unfold execOp; rw [ho]; simp [e, Instr.extract, h5]
    · cases h
  · cases h

theorem nth?_eq {α : Type} : ∀ (l : List α) (i : Nat), nth? l i = l[i]?
  | [], _ => by simp [nth?]
  | _ :: _, 0 => rfl
  | _ :: l, i + 1 => by simp [nth?, nth?_eq l i]

/-- A field's place and size. -/
theorem field_of {t : TypeId} {fs : List (Nat × Nat × Bool)} {i off size : Nat} {g : Bool} (h : tdOk P t (.struct fs)) (hf : nth? fs i = some (off, size, g)) :
    ∃ fields fd, P.underlying t = some (.struct fields) ∧ fields[i]? = some fd ∧ fd.offset = off ∧ P.cellsOf fd.type = size ∧ aggOf P fd.type = g ∧ (P.info? fd.type).isSome ∧ (P.underlying fd.type).isSome := by
  obtain ⟨fields, h1, h2, h3⟩ := h
  rw [nth?_eq, ← h2, List.getElem?_map] at hf
  cases hfd : fields.toList[i]? with
  | none => rw [hfd] at hf; cases hf
  | some fd =>
    rw [hfd] at hf
    have hf' : fields[i]? = some fd := by simpa using hfd
    simp only [Option.map_some, Option.some.injEq, Prod.mk.injEq] at hf
    exact ⟨fields, fd, h1, hf', hf.1, hf.2.1, hf.2.2, h3 i fd hf'⟩

theorem run_sizeOf' {t : TypeId} {w : World} (h : (P.info? t).isSome) : (sizeOf t).run P w = .ok (P.cellsOf t) w := by
  obtain ⟨i, hi⟩ := Option.isSome_iff_exists.1 h
  simp [sizeOf, typeInfo, hi, Program.cellsOf]

theorem run_fieldAt {s : TypeId} {ti : TI} {fs : List (Nat × Nat × Bool)} {w : World} (hs : TOk P s ti) (hd : ti.d = .struct fs) {i off size : Nat} {g : Bool} (hf : nth? fs i = some (off, size, g)) (h0 : 0 < size) (a : Addr) :
    (Instr.fieldAt s (.pointer (some a)) i).run P w = .ok (.pointer (some (a.add off))) w := by
  obtain ⟨info, h1, h2, h3, h4, h5, h6, h7⟩ := hs
  rw [hd] at h5
  obtain ⟨fields, fd, g1, g2, g3, g4, g5, g6, g7⟩ := field_of h5 hf
  simp only [Instr.fieldAt, Sem.run_bind, run_underlying g1, Result.andThen_ok, g2, Instr.sureAddr, Sem.run_pure, fieldPlace, run_sizeOf' g6]
  rw [g4, if_neg (by omega), g3]
  simp

theorem proj_rel {R : Nat → Prop} {w : World} : ∀ {t : Ty} {x : t.den} {l : List Value} {off size : Nat} {u : Ty} {y : u.den}, proj t x off size = some ⟨u, y⟩ → Enc R w t x l →
    ∃ l', Enc R w u y l' ∧ ∀ (j : Nat) z, l'[j]? = some z → l[off + j]? = some z
  | .int k, x, l, off, size, u, y, h, he => by
    simp only [proj] at h
    split at h
    · rename_i hc; cases h; exact ⟨l, he, fun j z hz => by rw [hc.1, Nat.zero_add]; exact hz⟩
    · cases h
  | .bool, x, l, off, size, u, y, h, he => by
    simp only [proj] at h
    split at h
    · rename_i hc; cases h; exact ⟨l, he, fun j z hz => by rw [hc.1, Nat.zero_add]; exact hz⟩
    · cases h
  | .str, x, l, off, size, u, y, h, he => by
    simp only [proj] at h
    split at h
    · rename_i hc; cases h; exact ⟨l, he, fun j z hz => by rw [hc.1, Nat.zero_add]; exact hz⟩
    · cases h
  | .unit, x, l, off, size, u, y, h, he => by
    simp only [proj] at h
    split at h
    · rename_i hc; cases h; exact ⟨l, he, fun j z hz => by rw [hc.1, Nat.zero_add]; exact hz⟩
    · cases h
  | .flt k, x, l, off, size, u, y, h, he => by
    simp only [proj] at h
    split at h
    · rename_i hc; cases h; exact ⟨l, he, fun j z hz => by rw [hc.1, Nat.zero_add]; exact hz⟩
    · cases h
  | .sl t, x, l, off, size, u, y, h, he => by
    simp only [proj] at h
    split at h
    · rename_i hc; cases h; exact ⟨l, he, fun j z hz => by rw [hc.1, Nat.zero_add]; exact hz⟩
    · cases h
  | .pair a b, x, l, off, size, u, y, h, he => by
    simp only [proj] at h
    split at h
    · rename_i hc; cases h; exact ⟨l, he, fun j z hz => by rw [hc.1, Nat.zero_add]; exact hz⟩
    · obtain ⟨l1, l2, rfl, e1, e2⟩ := he
      have hl := e1.length
      split at h
      · rename_i hlt
        obtain ⟨l', g1, g2⟩ := proj_rel h e1
        refine ⟨l', g1, fun j z hz => ?_⟩
        have := g2 j z hz
        rw [List.getElem?_append_left (List.getElem?_eq_some_iff.1 this).1]; exact this
      · rename_i hlt
        obtain ⟨l', g1, g2⟩ := proj_rel h e2
        refine ⟨l', g1, fun j z hz => ?_⟩
        have := g2 j z hz
        rw [List.getElem?_append_right (by omega), show off + j - l1.length = off - a.size + j by omega]; exact this

theorem step_fieldAddr {o : Oper} {s : TypeId} {x : Operand} {i : Nat} (hT : TabOk P C) (ho : o.op = .fieldAddr s x i) (h : step C fuel look evv nb (.fieldAddr s x i) K = some r) : Good P C look evv nb o K r := by
  simp only [step, cif_eq] at h
  split at h
  · rename_i fs g size bytes zero ty y hti hx
    split at h
    · rename_i off sz ag hf
      split at h
      · rename_i h0
        have key : ∀ c : AV0, k1 K c = some r → (∀ R m w v, VRel R m w y v → ∃ ad, v = .pointer (some ad) ∧ VRel R m w c (.pointer (some (ad.add off)))) → Good P C look evv nb o K r := by
          intro c hk hc
          refine ⟨_, hk, sound_value fun m R w f hp hr => ?_⟩
          obtain ⟨ad, e, hv⟩ := hc R m w _ (one_rel hx (hr x (by rw [ho]; simp [Op.operands])))
          refine ⟨_, ?_, hv⟩
          unfold execOp; rw [ho]
          simp [e, run_fieldAt (hT s _ hti) rfl hf h0 ad]
        split at h
        · rename_i b p
          exact key _ h fun R m w v ⟨L, c, h1, h2, e⟩ => ⟨_, e, L, c, h1, h2, by rw [addr_add rfl, Nat.add_assoc]⟩
        · rename_i b p q
          exact key _ h fun R m w v ⟨L, c, h1, h2, h3, e⟩ => ⟨_, e, L, c, h1, h2, h3, by rw [addr_add rfl]; simp only [Nat.add_assoc]⟩
        · rename_i t z
          split at h
          · rename_i u z' hz
            refine key _ h fun R m w v ⟨ad, l, e, h1, h2, h3, h4⟩ => ⟨ad, e, ?_⟩
            obtain ⟨l', g1, g2⟩ := proj_rel hz h3
            refine ⟨ad.add off, l', rfl, by rw [addr_add h1], by rw [addr_add h1]; exact h2, g1, fun j u hu => ?_⟩
            rw [addr_add h1]
            have := h4 _ _ (g2 j u hu)
            rw [← Nat.add_assoc] at this; exact this
          · cases h
        · cases h
      · cases h
    · cases h
  · cases h

theorem CRel.extract {R : Nat → Prop} {m : Map} {w : World} {cs : List AV0} {vs : Array Value} (h : CRel R m w cs vs.toList) (off n : Nat) : CRel R m w ((cs.drop off).take n) (vs.extract off (off + n)).toList := by
  have := (h.drop off).take n
  simpa using this

theorem step_field {o : Oper} {s : TypeId} {x : Operand} {i : Nat} (hT : TabOk P C) (ho : o.op = .field s x i) (h : step C fuel look evv nb (.field s x i) K = some r) : Good P C look evv nb o K r := by
  simp only [step] at h
  split at h
  · rename_i fs g size bytes zero ty cs hti hx
    split at h
    · rename_i off sz ag hf
      split at h
      · rename_i v hv
        refine ⟨_, h, sound_value fun m R w f hp hr => ?_⟩
        have h1 := hr x (by rw [ho]; simp [Op.operands])
        rw [hx] at h1
        obtain ⟨vs, e, h2⟩ := h1
        obtain ⟨info, i1, i2, i3, i4, i5, i6, i7⟩ := hT s _ hti
        obtain ⟨fields, fd, g1, g2, g3, g4, g5, g6, g7⟩ := field_of i5 hf
        have hrun : ∀ u, (part fd.type vs off).run P w = .ok u w → (execOp f o).run P w = .ok (.value u) w := by
          intro u hu
          unfold execOp; rw [ho]
          simp [Instr.field, run_underlying g1, g2, e, asAgg, g3, hu]
        have hc := h2.extract off sz
        unfold asV at hv
        split at hv
        · rename_i hag
          split at hv
          · cases hv
            refine ⟨_, hrun _ ?_, ⟨_, rfl, hc⟩⟩
            simp [part, run_isAgg g7, g5, run_sizeOf' g6, g4]
          · cases hv
        · rename_i hag
          split at hv
          · rename_i y hy
            cases hv
            rw [hy] at hc
            have hex : ∃ u, (vs.extract off (off + sz)).toList = [u] ∧ VRel R m w y u := by
              match hl : (vs.extract off (off + sz)).toList, hc with
              | [u], hc => exact ⟨u, rfl, hc.1⟩
            obtain ⟨u, hu, hvr⟩ := hex
            have hget : vs[off]? = some u := by
              have h0 : ((vs.extract off (off + sz)).toList)[0]? = some u := by rw [hu]; rfl
              rw [Array.getElem?_toList, Array.getElem?_extract] at h0
              split at h0
              · simpa using h0
              · cases h0
            refine ⟨u, hrun u ?_, hvr⟩
            simp [part, run_isAgg g7, g5, hget]
          · cases hv
      · cases h
    · cases h
  · cases h

end
end Go.Rex
/- Rex, part J: each operation that calls nothing, further: elements, loads, stores, slices. -/
namespace Go.Rex

theorem get_getD {α : Type} {xs : List α} {i : Nat} (h : i < xs.length) (d : α) : xs[i]? = some (xs.getD i d) := by
  simp [List.getD, List.getElem?_eq_getElem h]

section
variable {P : Program} {C : Ctx} {look : Look} {evv : Operand → AV} {nb : Nat} {ρ : Type} {K : Eff → Option ρ} {r : ρ} {fuel : Nat}

theorem lenOf_rel {R : Nat → Prop} {m : Map} {w : World} (hp : Blks look R m w) {x : AV0} {n : Nat} {v : Value} (h : lenOf look x = some n) (hv : VRel R m w x v) :
    (∃ s, v = .string s ∧ n = s.size) ∨ ∃ a c, v = .slice a n c := by
  unfold lenOf at h
  split at h
  · cases h; exact .inl ⟨_, hv, rfl⟩
  · cases h
    obtain ⟨a, c, e, _⟩ := hv
    cases e; exact .inr ⟨a, c, rfl⟩
  · cases h; cases hv; exact .inr ⟨_, _, rfl⟩
  · obtain ⟨L, hL, a, ln, cp, rfl, h1, h2, h3, h4, _⟩ := hv
    split at h
    · cases h
      exact .inr ⟨a, cp, by rw [(h4 _ rfl).1]⟩
    · split at h
      · rename_i hb
        cases h
        obtain ⟨L', hL', hB⟩ := hp _ _ hb
        rw [hL] at hL'; cases hL'
        exact .inr ⟨a, cp, by rw [h3 rfl, hB.1]⟩
      · cases h
  · cases h

theorem elemSize_ok (hT : TabOk P C) {t : TypeId} {n : Nat} (h : elemSize C t = some n) : ∃ e te, P.underlying t = some (.slice e) ∧ get e C.T = some te ∧ TOk P e te ∧ te.size = n := by
  unfold elemSize at h
  split at h
  · rename_i e ag sz by' z ty ht
    split at h
    · rename_i te hte
      cases h
      obtain ⟨_, _, _, _, _, h5, _⟩ := hT t _ ht
      exact ⟨e, te, h5, hte, hT e te hte, rfl⟩
    · cases h
  · cases h

theorem isStrT_ok (hT : TabOk P C) {t : TypeId} (h : isStrT C t = true) : P.underlying t = some .string := by
  unfold isStrT at h
  split at h
  · rename_i ht
    obtain ⟨_, _, _, _, _, h5, _⟩ := hT t _ ht
    exact h5
  · cases h

theorem run_indexAt_slice {t e : TypeId} {te : TI} {w : World} {a : Addr} {n c : Nat} {k : IntKind} {i : Int} (hu : P.underlying t = some (.slice e)) (he : TOk P e te) (h : 0 ≤ i ∧ i < n) :
    (Instr.indexAt t (.slice (some a) n c) (.int k i)).run P w = .ok (.pointer (some (a.add (i.toNat * te.size)))) w := by
  simp only [Instr.indexAt, asIntOf, Sem.run_bind, Sem.run_pure, Result.andThen_ok, run_underlying hu]
  rw [if_pos h]
  simp [run_sizeOf he]

theorem run_indexAt_array {t e : TypeId} {te : TI} {w : World} {a : Addr} {n : Nat} {k : IntKind} {i : Int} (hu : P.underlying t = some (.array n e)) (he : TOk P e te) (h : 0 ≤ i ∧ i < n) :
    (Instr.indexAt t (.pointer (some a)) (.int k i)).run P w = .ok (.pointer (some (a.add (i.toNat * te.size)))) w := by
  simp only [Instr.indexAt, asIntOf, Sem.run_bind, Sem.run_pure, Result.andThen_ok, run_underlying hu, Instr.sureAddr]
  rw [if_pos h]
  simp [run_sizeOf he]

theorem step_indexAddr {o : Oper} {t : TypeId} {x i : Operand} (hT : TabOk P C) (ho : o.op = .indexAddr t x i) (h : step C fuel look evv nb (.indexAddr t x i) K = some r) : Good P C look evv nb o K r := by
  simp only [step] at h
  split at h
  · rename_i y k n hx hi
    have fin : ∀ c : AV0, k1 K c = some r → (∀ R m w vx, Pre C.gl look nb m R w → VRel R m w y vx → ∃ v, (Instr.indexAt t vx (.int k n)).run P w = .ok v w ∧ VRel R m w c v) → Good P C look evv nb o K r := by
      intro c hk hc
      refine ⟨_, hk, sound_value fun m R w f hp hr => ?_⟩
      have h1 := one_rel hx (hr x (by rw [ho]; simp [Op.operands]))
      have h2 : f i = .int k n := one_rel hi (hr i (by rw [ho]; simp [Op.operands]))
      obtain ⟨v, h3, h4⟩ := hc R m w _ hp h1
      refine ⟨v, ?_, h4⟩
      unfold execOp; rw [ho]
      simp [h2, h3]
    unfold indexAddr at h
    try simp only [cif_eq] at h
    split at h
    · rename_i u xs
      split at h
      · rename_i hs
        split at h
        · rename_i hn
          refine fin _ h fun R m w vx hp hv => ?_
          obtain ⟨e, te, h1, h2, h3, h4⟩ := elemSize_ok hT hs
          obtain ⟨a, c, e1, h5, h6⟩ := hv
          cases e1
          have hlt : n.toNat < xs.length := by omega
          obtain ⟨ad, rfl, g1, g2, g3⟩ := h6 (by intro e; rw [e] at hlt; simp at hlt)
          refine ⟨_, run_indexAt_slice h1 h3 hn, ?_⟩
          obtain ⟨l, i1, i2⟩ := g3 n.toNat _ (get_getD hlt u.zero)
          refine ⟨_, l, rfl, by rw [addr_add g1], by rw [addr_add g1]; exact g2, i1, fun j z hz => ?_⟩
          rw [addr_add g1, h4]
          have := i2 j z hz
          rw [← Nat.add_assoc] at this; exact this
        · cases h
      · cases h
    · rename_i b p q
      split at h
      · rename_i u xs md hb
        split at h
        · rename_i hs
          split at h
          · rename_i hn
            refine fin _ h fun R m w vx hp hv => ?_
            obtain ⟨e, te, h1, h2, h3, h4⟩ := elemSize_ok hT hs
            obtain ⟨L, hL, a, ln, cp, rfl, g1, g2, g3, g4, g5, g6⟩ := hv
            obtain ⟨L', hL', hB⟩ := hp.blk _ _ hb
            rw [hL] at hL'; cases hL'
            obtain ⟨j1, j2, j3, j4⟩ := hB
            have hln : slLen q (xs.length - p) = ln := by
              cases q with
              | none => rw [g3 rfl, j1]
              | some m => exact (g4 m rfl).1.symm
            rw [hln] at hn
            have hlen : ln ≤ L.len - p := by
              cases q with
              | none => rw [g3 rfl]; exact Nat.le_refl _
              | some m => have := (g4 m rfl); omega
            cases hLc : L.c with
            | none => have := (g5 hLc).2; omega
            | some c =>
              obtain ⟨i1, ad, rfl, i2⟩ := g6 c hLc
              obtain ⟨rfl, i3⟩ := i2 (by omega)
              refine ⟨_, run_indexAt_slice h1 h3 hn, L, c, hL, hLc, by omega, ?_⟩
              rw [addr_add rfl, h4, j2]
              have : (n.toNat + p) * u.size = n.toNat * u.size + p * u.size := Nat.add_mul _ _ _
              simp only [this]
              congr 3
              omega
          · cases h
        · cases h
      · cases h
    · rename_i b q
      split at h
      · rename_i u xs md n' e ag sz by' z ty hb ht
        split at h
        · rename_i te hte
          split at h
          · rename_i hc
            split at h
            · rename_i hn
              refine fin _ h fun R m w vx hp hv => ?_
              obtain ⟨_, _, _, _, _, h5, _⟩ := hT t _ ht
              obtain ⟨L, c, hL, hLc, hlen, rfl⟩ := hv
              obtain ⟨L', hL', hB⟩ := hp.blk _ _ hb
              rw [hL] at hL'; cases hL'
              refine ⟨_, run_indexAt_array h5 (hT e te hte) hn, L, c, hL, hLc, by omega, ?_⟩
              rw [addr_add rfl, hc.2.1, hB.2.1]
              simp
            · cases h
          · cases h
        · cases h
      · cases h
    · rename_i u xs
      split at h
      · rename_i n' e ag sz by' z ty ht
        split at h
        · rename_i te hte
          split at h
          · rename_i hc
            split at h
            · rename_i hn
              refine fin _ h fun R m w vx hp hv => ?_
              obtain ⟨_, _, _, _, _, h5, _⟩ := hT t _ ht
              obtain ⟨ad, rfl, g1, g2, g3⟩ := hv
              refine ⟨_, run_indexAt_array h5 (hT e te hte) hn, ?_⟩
              obtain ⟨l, i1, i2⟩ := g3 n.toNat _ (get_getD (by omega) u.zero)
              refine ⟨_, l, rfl, by rw [addr_add g1], by rw [addr_add g1]; exact g2, i1, fun j z hz => ?_⟩
              rw [addr_add g1, hc.2.1]
              have := i2 j z hz
              rw [← Nat.add_assoc] at this; exact this
            · cases h
          · cases h
        · cases h
      · cases h
    · cases h
  · cases h

theorem bt_get {s : ByteArray} {n : Int} (h0 : 0 ≤ n) (h : n < s.size) : ∃ b, s[n.toNat]? = some b ∧ (b.toNat : Int) = bt s n := by
  have hlt : n.toNat < s.size := by omega
  refine ⟨s[n.toNat], by simp [hlt], ?_⟩
  unfold bt
  have : s.data.toList.getD n.toNat 0 = s[n.toNat] := by
    have h1 : n.toNat < s.data.toList.length := by simpa using hlt
    simp [List.getD, List.getElem?_eq_getElem h1]
    rfl
  rw [this]

theorem step_index {o : Oper} {t : TypeId} {x i : Operand} (hT : TabOk P C) (ho : o.op = .index t x i) (h : step C fuel look evv nb (.index t x i) K = some r) : Good P C look evv nb o K r := by
  simp only [step, cif_eq] at h
  split at h
  · rename_i s k n hx hi
    split at h
    · rename_i hs
      split at h
      · rename_i hn
        refine ⟨_, h, sound_value fun m R w f hp hr => ?_⟩
        have h1 : f x = .string s := one_rel hx (hr x (by rw [ho]; simp [Op.operands]))
        have h2 : f i = .int k n := one_rel hi (hr i (by rw [ho]; simp [Op.operands]))
        obtain ⟨b, h3, h4⟩ := bt_get hn.1 hn.2
        refine ⟨.int .u8 b.toNat, ?_, by show _ = _; rw [h4]⟩
        unfold execOp; rw [ho]
        simp only [h1, h2, Instr.index, asIntOf, Sem.run_bind, Sem.run_pure, Result.andThen_ok, run_underlying (isStrT_ok hT hs)]
        rw [if_pos hn.1, h3]
        rfl
      · cases h
    · cases h
  · cases h

end
end Go.Rex
/- Rex, part K: loads and stores. -/
namespace Go.Rex

theorem over_spec {α : Type} : ∀ {l : List α} {o : Nat} {ys r : List α}, over l o ys = some r → r.length = l.length ∧ o + ys.length ≤ l.length ∧ (∀ j, j < ys.length → r[o + j]? = ys[j]?) ∧ ∀ j, (j < o ∨ o + ys.length ≤ j) → r[j]? = l[j]?
  | l, 0, [], r, h => by
    simp only [over, Option.some.injEq] at h; subst h
    exact ⟨rfl, by simp, fun j hj => by simp at hj, fun _ _ => rfl⟩
  | [], 0, y :: ys, r, h => by simp [over] at h
  | x :: l, 0, y :: ys, r, h => by
    simp only [over] at h
    cases ho : over l 0 ys with
    | none => rw [ho] at h; cases h
    | some r' =>
      rw [ho] at h; cases h
      obtain ⟨h1, h2, h3, h4⟩ := over_spec ho
      refine ⟨by simp [h1], by simp; omega, fun j hj => ?_, fun j hj => ?_⟩
      · cases j with
        | zero => rfl
        | succ j => have := h3 j (by simpa using hj); simp only [Nat.zero_add] at this ⊢; simpa using this
      · cases j with
        | zero => simp at hj
        | succ j => have := h4 j (.inr (by simp at hj ⊢; omega)); simpa using this
  | [], o + 1, ys, r, h => by cases ys <;> simp [over] at h
  | x :: l, o + 1, ys, r, h => by
    have h' : (over l o ys).map (x :: ·) = some r := by cases ys <;> simpa [over] using h
    cases ho : over l o ys with
    | none => rw [ho] at h'; cases h'
    | some r' =>
      rw [ho] at h'; cases h'
      obtain ⟨h1, h2, h3, h4⟩ := over_spec ho
      refine ⟨by simp [h1], by simp; omega, fun j hj => ?_, fun j hj => ?_⟩
      · have := h3 j hj; rw [show o + 1 + j = (o + j) + 1 by omega]; simpa using this
      · cases j with
        | zero => rfl
        | succ j => have := h4 j (by omega); simpa using this

theorem noUn_iff : ∀ {l : List AV0}, noUn l = true ↔ ∀ (j : Nat) x, l[j]? = some x → x ≠ .un
  | [] => by simp [noUn]
  | x :: l => by
    constructor
    · intro h j y hy
      obtain ⟨h1, h2⟩ := noUn_cons h
      cases j with
      | zero => simp at hy; subst hy; rintro rfl; cases h1
      | succ j => exact noUn_iff.1 h2 j y (by simpa using hy)
    · intro h
      have h0 := h 0 x rfl
      have h1 : noUn l = true := noUn_iff.2 fun j y hy => h (j + 1) y (by simpa using hy)
      cases x <;> first | exact absurd rfl h0 | exact h1

section
variable {P : Program} {C : Ctx} {look : Look} {evv : Operand → AV} {nb : Nat} {ρ : Type} {K : Eff → Option ρ} {r : ρ} {fuel : Nat}

theorem cell_of {w : World} {c : Nat} {cs : Array Value} {e : TypeId} {fr : Nat × Nat} (h : w.heap[c]? = some (.cells cs e fr)) (j : Nat) : w.cell? ⟨c, j, none⟩ = cs[j]? := by
  simp [World.cell?, h]

theorem load_sound (hT : TabOk P C) {R : Nat → Prop} {m : Map} {w : World} (hp : Pre C.gl look nb m R w) {t : TypeId} {a : AV0} {x : AV} {v : Value} (h : loadAt C look t a = some x) (hv : VRel R m w a v) :
    ∃ u, (Instr.loadAt t v).run P w = .ok u w ∧ AVRel R m w x u := by
  unfold loadAt at h
  split at h
  · cases h
  · rename_i ti hti
    have ht := hT t ti hti
    split at h
    · rename_i b p
      split at h
      · rename_i cs hb
        obtain ⟨L, c, hL, hLc, rfl⟩ := hv
        obtain ⟨L', hL', hB⟩ := hp.blk _ _ hb
        rw [hL] at hL'; cases hL'
        obtain ⟨c', vs, e, g1, g2, g3, g4, g5⟩ := hB
        rw [hLc] at g1; cases g1
        have hc := (g5.drop p).take ti.size
        have : ∀ (j : Nat) u, ((vs.toList.drop p).take ti.size)[j]? = some u → w.cell? ⟨c, L.off + p + j, none⟩ = some u := by
          intro j u hu
          rw [cell_of g4, g2, Nat.zero_add]
          rw [List.getElem?_take] at hu
          split at hu
          · rw [List.getElem?_drop] at hu; simpa using hu
          · cases hu
        obtain ⟨u, h1, h2⟩ := run_loadVar ht (a := ⟨c, L.off + p, none⟩) rfl this hc h
        exact ⟨u, by simpa [Instr.loadAt, Instr.sureAddr] using h1, h2⟩
      · cases h
    · rename_i b i f
      split at h
      · rename_i u xs md hb
        obtain ⟨L, c, hL, hLc, hi, rfl⟩ := hv
        obtain ⟨L', hL', hB⟩ := hp.blk _ _ hb
        rw [hL] at hL'; cases hL'
        obtain ⟨j1, j2, j3, j4⟩ := hB
        obtain ⟨cs, e, fr, g1, g2, g3, g4, g5⟩ := j4 c hLc
        obtain ⟨l, i1, i2⟩ := g5 i _ (get_getD (by omega) u.zero)
        have hc := ((cells_rel (m := m) i1).drop f).take ti.size
        have : ∀ (j : Nat) z, ((l.drop f).take ti.size)[j]? = some z → w.cell? ⟨c, L.off + (i * L.sz + f) + j, none⟩ = some z := by
          intro j z hz
          rw [cell_of g1]
          rw [List.getElem?_take] at hz
          split at hz
          · rw [List.getElem?_drop] at hz
            have := i2 _ _ hz
            rw [← j2] at this
            rw [show L.off + (i * L.sz + f) + j = L.off + (i * L.sz + (f + j)) by omega]; exact this
          · cases hz
        obtain ⟨z, h1, h2⟩ := run_loadVar ht (a := ⟨c, L.off + (i * L.sz + f), none⟩) rfl this hc h
        exact ⟨z, by simpa [Instr.loadAt, Instr.sureAddr] using h1, h2⟩
      · cases h
    · obtain ⟨ad, l, rfl, h1, h2, h3, h4⟩ := hv
      obtain ⟨z, i1, i2⟩ := run_loadVar ht (a := ad) h1 h4 (cells_rel (m := m) h3) h
      exact ⟨z, by simpa [Instr.loadAt, Instr.sureAddr] using i1, i2⟩
    · cases h

theorem step_load {o : Oper} {t : TypeId} {x : Operand} (hT : TabOk P C) (ho : o.op = .load t x) (h : step C fuel look evv nb (.load t x) K = some r) : Good P C look evv nb o K r := by
  simp only [step] at h
  split at h
  · rename_i a ha
    split at h
    · rename_i v hv
      refine ⟨_, h, sound_value fun m R w f hp hr => ?_⟩
      obtain ⟨u, h1, h2⟩ := load_sound hT hp hv (one_rel ha (hr x (by rw [ho]; simp [Op.operands])))
      refine ⟨u, ?_, h2⟩
      unfold execOp; rw [ho]; simp [h1]
    · cases h
  · cases h

theorem run_storeAt {w : World} {t : TypeId} {ti : TI} (ht : TOk P t ti) {v : Value} (hs : v.cells.toList.length = ti.size) {c o : Nat} {e : TypeId} {cs : Array Value} (hc : w.heap[c]? = some (.cells cs e (0, 0))) (hb : o + v.cells.toList.length ≤ cs.size) (h1 : ∀ u ∈ v.cells.toList, u.oneCell' = true) :
    ∃ w' cs', (Instr.storeAt t (.pointer (some ⟨c, o, none⟩)) v).run P w = .ok () w' ∧ Keeps (fun k j => k = c ∧ o ≤ j ∧ j < o + v.cells.toList.length) w w' ∧ w'.heap[c]? = some (.cells cs' e (0, 0)) ∧ cs'.size = cs.size ∧
      (∀ j, j < v.cells.toList.length → cs'[o + j]? = v.cells.toList[j]?) ∧ ∀ j, (j < o ∨ o + v.cells.toList.length ≤ j) → cs'[j]? = cs[j]? := by
  obtain ⟨w', cs', g1, g2, g3, g4, g5, g6⟩ := run_storeCells (P := P) (c := c) (o := o) (e := e) v.cells.toList 0 w cs hc (by simpa using hb) h1
  refine ⟨w', cs', ?_, by simpa using g2, g3, g4, by simpa using g5, by simpa using g6⟩
  have : v.cells.size = ti.size := by simpa using hs
  simp [Instr.storeAt, Instr.sureAddr, storeVar, run_sizeOf ht, this, g1]

theorem step_store {o : Oper} {t : TypeId} {x y : Operand} (hT : TabOk P C) (ho : o.op = .store t x y) (h : step C fuel look evv nb (.store t x y) K = some r) : Good P C look evv nb o K r := by
  simp only [step] at h
  split at h
  · rename_i a ha
    split at h
    · rename_i us hus
      refine ⟨_, h, ?_⟩
      unfold storeAt at hus
      split at hus
      · rename_i ti g l hti hy
        have ht := hT t ti hti
        split at hus
        · rename_i hl
          obtain ⟨hl, hn⟩ := hl
          split at hus
          · rename_i b p
            split at hus
            · rename_i cs hb
              split at hus
              · rename_i cs' hov
                cases hus
                intro m R w f hp hr
                have h1 := one_rel ha (hr x (by rw [ho]; simp [Op.operands]))
                have h2 := hr y (by rw [ho]; simp [Op.operands])
                rw [hy] at h2
                have h3 := V1Rel.cells h2 hn
                obtain ⟨L, c, hL, hLc, e1⟩ := h1
                obtain ⟨L', hL', hB⟩ := hp.blk _ _ hb
                rw [hL] at hL'; cases hL'
                obtain ⟨c', vs, e, g1, g2, g3, g4, g5⟩ := hB
                rw [hLc] at g1; cases g1
                obtain ⟨o1, o2, o3, o4⟩ := over_spec hov
                have hlen := h3.length
                have hlen' : cs.length = vs.size := by simpa using g5.length
                obtain ⟨w', vs', i1, i2, i3, i4, i5, i6⟩ := run_storeAt ht (v := f y) (by omega) g4 (o := p) (by omega) (h3.one hn)
                have hrun : (execOp f o).run P w = .ok .skip w' := by
                  unfold execOp; rw [ho]
                  rw [g2, Nat.zero_add] at e1
                  simp [e1, i1]
                have hk : Keeps (fun k j => L.c = some k ∧ Owns L Md.full j) w w' := i2.mono fun k _ j hx => ⟨by rw [hLc, hx.1], trivial⟩
                refine Outcome.skip hrun ⟨m, Dem m [] R, Post.write (B0 := .loc cs) (dems := []) hp (fun _ h => by cases h) hb hL (fun h => by cases h) rfl (fun _ h => by cases h) hk ?_ (AVRel.un _)⟩
                have hsame : Same R w w' := fun k hR => hk.same (hp.rsize k hR) fun _ hx => hp.rw b _ L k hb (fun h => by cases h) hL hx.1 hR
                have up : ∀ {z : AV0} {v : Value}, VRel R m w z v → VRel (Dem m [] R) m w' z v := fun hz => hz.mono (fun _ h => .inl h) hsame fun _ _ h => h
                refine ⟨c, vs', e, hLc, g2, ?_, i3, CRel.mk (by rw [o1, hlen', Array.length_toList, i4]) fun j z u hz hu => ?_⟩
                · refine noUn_iff.2 fun j z hz => ?_
                  by_cases hj : j < p ∨ p + l.length ≤ j
                  · exact noUn_iff.1 g3 j z ((o4 j hj).symm.trans hz)
                  · have := o3 (j - p) (by omega)
                    rw [show p + (j - p) = j by omega] at this
                    exact noUn_iff.1 hn (j - p) z (this.symm.trans hz)
                · rw [Array.getElem?_toList] at hu
                  by_cases hj : j < p ∨ p + l.length ≤ j
                  · rw [o4 j hj] at hz
                    rw [i6 j (by omega)] at hu
                    obtain ⟨u', hu', hr'⟩ := g5.get j z hz
                    rw [Array.getElem?_toList, hu] at hu'; cases hu'
                    exact up hr'
                  · have q1 := o3 (j - p) (by omega)
                    have q2 := i5 (j - p) (by omega)
                    rw [show p + (j - p) = j by omega] at q1 q2
                    rw [q1] at hz
                    obtain ⟨u', hu', hr'⟩ := h3.get (j - p) z hz
                    rw [q2, hu'] at hu; cases hu
                    exact up hr'
              · cases hus
            · cases hus
          · rename_i b i fo
            split at hus
            · rename_i u xs md hb
              split at hus
              · rename_i hmd
                split at hus
                · split at hus
                  · rename_i z us' huc
                    split at hus
                    · rename_i hne
                      cases hus
                      have hmd' : md ≠ .fz := by rintro rfl; cases hmd
                      intro m R w f hp hr
                      have h1 := one_rel ha (hr x (by rw [ho]; simp [Op.operands]))
                      have h2 := hr y (by rw [ho]; simp [Op.operands])
                      rw [hy] at h2
                      have h3 := V1Rel.cells h2 hn
                      obtain ⟨hd, l1, l2, e2, q1, q2⟩ := uncells_rel hp.blk huc h3
                      cases l2 with
                      | cons _ _ => exact q2.elim
                      | nil =>
                        rw [List.append_nil] at e2
                        rw [← e2] at q1
                        have hlen := q1.length
                        obtain ⟨L, c, hL, hLc, hi, e1⟩ := h1
                        obtain ⟨L', hL', hB⟩ := hp.blk _ _ hb
                        rw [hL] at hL'; cases hL'
                        obtain ⟨j1, j2, j3, j4⟩ := hB
                        obtain ⟨cs, e, fr, g1, g2, g3, g4, g5⟩ := j4 c hLc
                        obtain rfl := g4 hmd'
                        have hsz : ti.size = u.size := by have := h3.length; omega
                        have hbd : i * L.sz + L.sz ≤ L.len * L.sz := by
                          have := Nat.mul_le_mul_right L.sz (show i + 1 ≤ L.len from hi)
                          rw [Nat.add_mul] at this; omega
                        obtain ⟨w', cs', i1, i2, i3, i4, i5, i6⟩ := run_storeAt ht (v := f y) (by omega) g1 (o := L.off + i * L.sz) (by rw [hlen, ← j2]; omega) (h3.one hn)
                        have hrun : (execOp f o).run P w = .ok .skip w' := by
                          unfold execOp; rw [ho]
                          simp only [Nat.add_zero] at e1
                          simp [e1, i1]
                        have hk : Keeps (fun k j => L.c = some k ∧ Owns L md j) w w' := i2.mono fun k _ j hx => ⟨by rw [hLc, hx.1], by
                          have h1 := hx.2.1
                          have h2 := hx.2.2
                          cases md with
                          | fz => exact absurd rfl hmd'
                          | full => trivial
                          | win => exact ⟨by omega, by rw [hlen, ← j2] at h2; omega⟩⟩
                        have hne' : ∀ p ∈ us', p.1 ≠ b := fun p hp' => by simpa using List.all_eq_true.1 hne p hp'
                        have hrm : ∀ k, R k → Dem m us' R k := fun _ h => .inl h
                        have hsame : Same R w w' := fun k hR => hk.same (hp.rsize k hR) fun _ hx => hp.rw b _ L k hb hmd' hL hx.1 hR
                        have hsame' : Same (Dem m us' R) w w' := fun k hR => hk.same (dem_lt hp hd hR) fun j hx => by
                          rcases hR with hR | ⟨b', y', L', a1, a2, a3⟩
                          · exact hp.rw b _ L k hb hmd' hL hx.1 hR
                          · obtain ⟨_, _, _, _, _, a4, a5, _⟩ := hd.in hp a1
                            exact hmd' (hp.inj b' b _ _ L' L k a4 hb (hne' _ a1) a2 hL a3 hx.1).2
                        refine Outcome.skip hrun ⟨m, Dem m us' R, Post.write (B0 := .arr u xs md) (B1 := .arr u (xs.set i z) md) hp hd hb hL hmd' rfl hne' hk ?_ (AVRel.un _)⟩
                        refine ⟨by simpa using j1, j2, fun hc => (by rw [hLc] at hc; cases hc), fun c' hc' => ?_⟩
                        rw [hLc] at hc'; cases hc'
                        refine ⟨cs', e, (0, 0), i3, by rw [i4, g2], g3, fun _ => rfl, fun j z' hz' => ?_⟩
                        by_cases hji : j = i
                        · subst hji
                          rw [List.getElem?_set_self (by omega)] at hz'
                          cases hz'
                          refine ⟨_, q1.mono (fun _ h => h) hsame', fun k u' hu' => ?_⟩
                          have := i5 k (List.getElem?_eq_some_iff.1 hu').1
                          rw [show L.off + (j * u.size + k) = L.off + j * L.sz + k by rw [j2]; omega, this]; exact hu'
                        · rw [List.getElem?_set_ne (Ne.symm hji)] at hz'
                          obtain ⟨l', a1, a2⟩ := g5 j z' hz'
                          refine ⟨l', a1.mono hrm hsame, fun k u' hu' => ?_⟩
                          have hk' : k < u.size := by have := (List.getElem?_eq_some_iff.1 hu').1; rw [a1.length] at this; exact this
                          rw [i6 _ ?_]
                          · exact a2 k u' hu'
                          · rw [hlen, j2]
                            rcases Nat.lt_or_gt_of_ne hji with hlt | hgt
                            · have := Nat.mul_le_mul_right u.size (show j + 1 ≤ i from hlt)
                              rw [Nat.add_mul] at this; omega
                            · have := Nat.mul_le_mul_right u.size (show i + 1 ≤ j from hgt)
                              rw [Nat.add_mul] at this; omega
                    · cases hus
                  · cases hus
                · split at hus
                  · rename_i cs0 hov
                    split at hus
                    · rename_i z huc
                      cases hus
                      have hmd' : md ≠ .fz := by rintro rfl; cases hmd
                      intro m R w f hp hr
                      have h1 := one_rel ha (hr x (by rw [ho]; simp [Op.operands]))
                      have h2 := hr y (by rw [ho]; simp [Op.operands])
                      rw [hy] at h2
                      have h3 := V1Rel.cells h2 hn
                      obtain ⟨L, c, hL, hLc, hi, e1⟩ := h1
                      obtain ⟨L', hL', hB⟩ := hp.blk _ _ hb
                      rw [hL] at hL'; cases hL'
                      obtain ⟨j1, j2, j3, j4⟩ := hB
                      obtain ⟨cs, e, fr, g1, g2, g3, g4, g5⟩ := j4 c hLc
                      obtain rfl := g4 hmd'
                      obtain ⟨lold, a1, a2⟩ := g5 i (xs.getD i u.zero) (by rw [List.getD_eq_getElem?_getD, List.getElem?_eq_getElem (by omega), Option.getD_some])
                      have hco := cells_rel (m := m) a1
                      obtain ⟨o1, o2, o3, o4⟩ := over_spec hov
                      have hl3 := h3.length
                      have hlo := a1.length
                      have hco' := hco.length
                      have hbd : i * L.sz + L.sz ≤ L.len * L.sz := by
                        have := Nat.mul_le_mul_right L.sz (show i + 1 ≤ L.len from hi)
                        rw [Nat.add_mul] at this; omega
                      -- the element as it will be
                      obtain ⟨lnew, hlnew⟩ : ∃ ln : List Value, ln = lold.take fo ++ ((f y).cells.toList ++ lold.drop (fo + (f y).cells.toList.length)) := ⟨_, rfl⟩
                      have hnl : lnew.length = lold.length := by
                        rw [hlnew]; simp only [List.length_append, List.length_take, List.length_drop]; omega
                      have hin : ∀ j, j < (f y).cells.toList.length → lnew[fo + j]? = (f y).cells.toList[j]? := fun j hj => by
                        rw [hlnew, List.getElem?_append_right (by simp only [List.length_take]; omega), List.length_take, Nat.min_eq_left (by omega), Nat.add_sub_cancel_left, List.getElem?_append_left hj]
                      have hout : ∀ j, (j < fo ∨ fo + (f y).cells.toList.length ≤ j) → lnew[j]? = lold[j]? := fun j hj => by
                        rw [hlnew]
                        rcases hj with hj | hj
                        · rw [List.getElem?_append_left (by simp only [List.length_take]; omega), List.getElem?_take, if_pos hj]
                        · rw [List.getElem?_append_right (by simp only [List.length_take]; omega), List.length_take, Nat.min_eq_left (by omega), List.getElem?_append_right (by omega), List.getElem?_drop]
                          congr 1; omega
                      have hnew : CRel R m w cs0 lnew := CRel.mk (by omega) fun j q v hq hv => by
                        by_cases hj : j < fo ∨ fo + l.length ≤ j
                        · rw [o4 j hj] at hq
                          rw [hout j (by omega)] at hv
                          obtain ⟨v', hv', hr'⟩ := hco.get j q hq
                          rw [hv] at hv'; cases hv'
                          exact hr'
                        · have q1 := o3 (j - fo) (by omega)
                          have q2 := hin (j - fo) (by omega)
                          rw [show fo + (j - fo) = j by omega] at q1 q2
                          rw [q1] at hq
                          obtain ⟨v', hv', hr'⟩ := h3.get (j - fo) q hq
                          rw [q2, hv'] at hv; cases hv
                          exact hr'
                      obtain ⟨_, l1, l2, e2, q1, q2⟩ := uncells_rel (look := fun _ => none) (fun _ _ h => by cases h) huc hnew
                      cases l2 with
                      | cons _ _ => exact q2.elim
                      | nil =>
                        rw [List.append_nil] at e2
                        subst e2
                        have q1' : Enc R w u z lnew := q1.mono (fun k hk => hk.elim id fun ⟨_, _, _, h, _⟩ => by cases h) (Same.refl _ _)
                        obtain ⟨w', cs', i1, i2, i3, i4, i5, i6⟩ := run_storeAt ht (v := f y) (by omega) g1 (o := L.off + (i * L.sz + fo)) (by rw [j2] at hbd g3 ⊢; omega) (h3.one hn)
                        have hrun : (execOp f o).run P w = .ok .skip w' := by
                          unfold execOp; rw [ho]
                          simp [e1, i1]
                        have hk : Keeps (fun k j => L.c = some k ∧ Owns L md j) w w' := i2.mono fun k _ j hx => ⟨by rw [hLc, hx.1], by
                          have h1 := hx.2.1
                          have h2 := hx.2.2
                          cases md with
                          | fz => exact absurd rfl hmd'
                          | full => trivial
                          | win => exact ⟨by omega, by rw [j2] at hbd h2 ⊢; omega⟩⟩
                        have hsame : Same R w w' := fun k hR => hk.same (hp.rsize k hR) fun _ hx => hp.rw b _ L k hb hmd' hL hx.1 hR
                        refine Outcome.skip hrun ⟨m, Dem m [] R, Post.write (B0 := .arr u xs md) (B1 := .arr u (xs.set i z) md) (dems := []) hp (fun _ h => by cases h) hb hL hmd' rfl (fun _ h => by cases h) hk ?_ (AVRel.un _)⟩
                        refine ⟨by simpa using j1, j2, fun hc => (by rw [hLc] at hc; cases hc), fun c' hc' => ?_⟩
                        rw [hLc] at hc'; cases hc'
                        refine ⟨cs', e, (0, 0), i3, by rw [i4, g2], g3, fun _ => rfl, fun j z' hz' => ?_⟩
                        by_cases hji : j = i
                        · subst hji
                          rw [List.getElem?_set_self (by omega)] at hz'
                          cases hz'
                          refine ⟨lnew, q1'.mono (fun _ h => .inl h) hsame, fun k u' hu' => ?_⟩
                          by_cases hk' : k < fo ∨ fo + (f y).cells.toList.length ≤ k
                          · rw [i6 _ (by rw [j2]; omega)]
                            rw [hout k hk'] at hu'
                            exact a2 k u' hu'
                          · have := i5 (k - fo) (by omega)
                            rw [show L.off + (j * u.size + k) = L.off + (j * L.sz + fo) + (k - fo) by rw [j2]; omega, this, ← hin (k - fo) (by omega), show fo + (k - fo) = k by omega]; exact hu'
                        · rw [List.getElem?_set_ne (Ne.symm hji)] at hz'
                          obtain ⟨l', a1, a2⟩ := g5 j z' hz'
                          refine ⟨l', a1.mono (fun _ h => .inl h) hsame, fun k u' hu' => ?_⟩
                          have hk' : k < u.size := by have := (List.getElem?_eq_some_iff.1 hu').1; rw [a1.length] at this; exact this
                          rw [i6 _ ?_]
                          · exact a2 k u' hu'
                          · rw [j2]
                            rcases Nat.lt_or_gt_of_ne hji with hlt | hgt
                            · have := Nat.mul_le_mul_right u.size (show j + 1 ≤ i from hlt)
                              rw [Nat.add_mul] at this; omega
                            · have := Nat.mul_le_mul_right u.size (show i + 1 ≤ j from hgt)
                              rw [Nat.add_mul] at this; omega
                    · cases hus
                  · cases hus
              · cases hus
            · cases hus
          · cases hus
        · cases hus
      · cases hus
    · cases h
  · cases h

end
end Go.Rex
/- Rex, part L: slices of slices, what is made, conversions. -/
namespace Go.Rex

section
variable {P : Program} {C : Ctx} {look : Look} {evv : Operand → AV} {nb : Nat} {ρ : Type} {K : Eff → Option ρ} {r : ρ} {fuel : Nat}

def optInt : Option Int → Option Value → Prop
  | none, none => True
  | some n, some v => ∃ k, v = .int k n
  | _, _ => False

theorem run_sliceBound_ok {w : World} {k : IntKind} {i : Int} {y : Nat} {code : BoundsCode} (h : 0 ≤ i ∧ i ≤ y) : (Instr.sliceBound (.int k i) y code).run P w = .ok i.toNat w := by
  simp only [Instr.sliceBound, asIntOf, Sem.run_bind, Sem.run_pure, Result.andThen_ok]
  rw [if_pos h]; rfl

theorem bounds_run {len cap : Nat} {lo hi : Option Int} {K : Nat → Option Nat → Option ρ} (h : bounds len cap lo hi K = some r) :
    ∃ l n, K l n = some r ∧ l ≤ slEnd l n len ∧ (slEnd l n len ≤ len ∨ slEnd l n len ≤ cap) ∧ ∀ (isS : Bool) (cap' : Nat) (vlo vhi : Option Value) (w : World), cap ≤ cap' → optInt lo vlo → optInt hi vhi →
      (Instr.sliceBounds isS len cap' vlo vhi none).run P w = .ok (l, slEnd l n len, cap') w := by
  unfold bounds at h
  split at h
  · refine ⟨_, _, h, Nat.zero_le _, .inl (Nat.le_refl _), fun isS cap' vlo vhi w hcap hlo hhi => ?_⟩
    cases vlo with
    | some _ => exact hlo.elim
    | none =>
      cases vhi with
      | some _ => exact hhi.elim
      | none => simp [Instr.sliceBounds, slEnd]
  · rename_i hn
    split at h
    · rename_i hc
      refine ⟨_, _, h, Nat.zero_le _, .inr (by simp only [slEnd]; omega), fun isS cap' vlo vhi w hcap hlo hhi => ?_⟩
      cases vlo with
      | some _ => exact hlo.elim
      | none =>
        cases vhi with
        | none => exact hhi.elim
        | some v =>
          obtain ⟨k, rfl⟩ := hhi
          simp [Instr.sliceBounds, slEnd, run_sliceBound_ok (show 0 ≤ hn ∧ hn ≤ (cap' : Int) by omega)]
    · cases h
  · rename_i ln
    split at h
    · rename_i hc
      refine ⟨_, _, h, by simp only [slEnd]; omega, .inl (Nat.le_refl _), fun isS cap' vlo vhi w hcap hlo hhi => ?_⟩
      cases vhi with
      | some _ => exact hhi.elim
      | none =>
        cases vlo with
        | none => exact hlo.elim
        | some v =>
          obtain ⟨k, rfl⟩ := hlo
          simp [Instr.sliceBounds, slEnd, run_sliceBound_ok (show 0 ≤ ln ∧ ln ≤ (len : Int) by omega)]
    · cases h
  · rename_i ln hn
    split at h
    · rename_i hc
      refine ⟨_, _, h, by simp only [slEnd]; omega, .inr (by simp only [slEnd]; omega), fun isS cap' vlo vhi w hcap hlo hhi => ?_⟩
      cases vlo with
      | none => exact hlo.elim
      | some v =>
        obtain ⟨k, rfl⟩ := hlo
        cases vhi with
        | none => exact hhi.elim
        | some v =>
          obtain ⟨k', rfl⟩ := hhi
          have e : ln.toNat + (hn.toNat - ln.toNat) = hn.toNat := by omega
          simp [Instr.sliceBounds, slEnd, run_sliceBound_ok (show 0 ≤ hn ∧ hn ≤ (cap' : Int) by omega), run_sliceBound_ok (show 0 ≤ ln ∧ ln ≤ (hn.toNat : Int) by omega), e]
    · cases h

theorem run_slice_sl {t e : TypeId} {te : TI} {w : World} {a : Option Addr} {len cap : Nat} {vlo vhi : Option Value} {l h : Nat} (hu : P.underlying t = some (.slice e)) (he : TOk P e te)
    (hb : (Instr.sliceBounds true len cap vlo vhi none).run P w = .ok (l, h, cap) w) :
    (Instr.sliceAt t (.slice a len cap) vlo vhi none).run P w = .ok (.slice (if cap = l then a else a.map (·.add (l * te.size))) (h - l) (cap - l)) w := by
  simp [Instr.sliceAt, Instr.slice, run_underlying hu, hb, run_sizeOf he]

theorem run_slice_str {t : TypeId} {w : World} {s : ByteArray} {vlo vhi : Option Value} {l h c : Nat} (hu : P.underlying t = some .string)
    (hb : (Instr.sliceBounds false s.size s.size vlo vhi none).run P w = .ok (l, h, c) w) :
    (Instr.sliceAt t (.string s) vlo vhi none).run P w = .ok (.string (s.extract l h)) w := by
  simp [Instr.sliceAt, Instr.slice, run_underlying hu, hb]

theorem intOp_rel {R : Nat → Prop} {m : Map} {w : World} {f : Operand → Value} {x : Option Operand} {n : Option Int} (h : intOp evv x = some n) (hr : ∀ y, x = some y → AVRel R m w (evv y) (f y)) : optInt n (x.map f) := by
  unfold intOp at h
  split at h
  · cases h; trivial
  · rename_i y
    split at h
    · rename_i k i hy
      cases h
      have := hr y rfl
      rw [hy] at this
      exact ⟨k, this⟩
    · cases h

/-- A piece of a slice, as a value. -/
theorem sub_ro {R : Nat → Prop} {w : World} {u : Ty} {xs : List u.den} {a : Option Addr} {c l : Nat} {n : Option Nat} {sz : Nat} (hsz : sz = u.size) (h : Enc R w (.sl u) xs [.slice a xs.length c]) (h1 : l ≤ slEnd l n xs.length) (h2 : slEnd l n xs.length ≤ xs.length) :
    Enc R w (.sl u) (window xs l n) [.slice (if c = l then a else a.map (·.add (l * sz))) (slEnd l n xs.length - l) (c - l)] := by
  subst hsz
  obtain ⟨a', c', e, hc, hh⟩ := h
  cases e
  have hlen : (window xs l n).length = slEnd l n xs.length - l := by
    cases n with
    | none => simp [window, slEnd]
    | some n => simp only [slEnd] at h2; simp [window, slEnd]; omega
  refine ⟨_, _, by rw [hlen], by omega, fun hn => ?_⟩
  have hpos : 0 < (window xs l n).length := List.length_pos_iff.2 hn
  have hne : c ≠ l := by omega
  obtain ⟨ad, rfl, g1, g2, g3⟩ := hh (fun e => by have : xs.length = 0 := by rw [e]; rfl
                                                  omega)
  rw [if_neg hne]
  refine ⟨ad.add (l * u.size), rfl, by rw [addr_add g1], by rw [addr_add g1]; exact g2, fun i x hx => ?_⟩
  obtain ⟨l', i1, i2⟩ := g3 (l + i) x (window_get xs l n i x hx)
  refine ⟨l', i1, fun j z hz => ?_⟩
  have := i2 j z hz
  rw [addr_add g1]
  simp only
  rw [show ad.off + l * u.size + (i * u.size + j) = ad.off + ((l + i) * u.size + j) by rw [Nat.add_mul]; omega]
  exact this

theorem step_slice {o : Oper} {t : TypeId} {x : Operand} {lo hi : Option Operand} (hT : TabOk P C) (ho : o.op = .slice t x lo hi none) (h : step C fuel look evv nb (.slice t x lo hi none) K = some r) : Good P C look evv nb o K r := by
  simp only [step] at h
  split at h
  · rename_i y l0 h0 hy hl hh
    have fin : ∀ c : AV0, k1 K c = some r → (∀ R m w vx vlo vhi, Pre C.gl look nb m R w → VRel R m w y vx → optInt l0 vlo → optInt h0 vhi → ∃ v, (Instr.sliceAt t vx vlo vhi none).run P w = .ok v w ∧ VRel R m w c v) → Good P C look evv nb o K r := by
      intro c hk hc
      refine ⟨_, hk, sound_value fun m R w f hp hr => ?_⟩
      have h1 := one_rel hy (hr x (by rw [ho]; simp [Op.operands]))
      have h2 := intOp_rel (f := f) hl fun z hz => hr z (by rw [ho]; simp [Op.operands, hz])
      have h3 := intOp_rel (f := f) hh fun z hz => hr z (by rw [ho]; simp [Op.operands, hz])
      obtain ⟨v, h4, h5⟩ := hc R m w _ _ _ hp h1 h2 h3
      refine ⟨v, ?_, h5⟩
      unfold execOp; rw [ho]
      simp only [Option.map_none, Sem.run_bind, h4, Result.andThen_ok, Sem.run_pure]
    unfold sliceOp at h
    try simp only [cif_eq] at h
    split at h
    · rename_i s
      split at h
      · rename_i hs
        obtain ⟨l, n, hk, g1, g2, g3⟩ := bounds_run (P := P) h
        exact fin _ hk fun R m w vx vlo vhi hp hv q1 q2 => by
          cases hv
          exact ⟨_, run_slice_str (isStrT_ok hT hs) (g3 false _ vlo vhi w (Nat.le_refl _) q1 q2), rfl⟩
      · cases h
    · rename_i u xs
      split at h
      · rename_i hs
        obtain ⟨l, n, hk, g1, g2, g3⟩ := bounds_run (P := P) h
        refine fin _ hk fun R m w vx vlo vhi hp hv q1 q2 => ?_
        obtain ⟨e, te, h1, h2, h3, h4⟩ := elemSize_ok hT hs
        obtain ⟨a, c, e1, hc, hh⟩ := id hv
        cases e1
        exact ⟨_, run_slice_sl h1 h3 (g3 true c vlo vhi w hc q1 q2), sub_ro h4 hv g1 (g2.elim id id)⟩
      · cases h
    · split at h
      · cases h
      · rename_i hs
        obtain ⟨l, n, hk, g1, g2, g3⟩ := bounds_run (P := P) h
        refine fin _ hk fun R m w vx vlo vhi hp hv q1 q2 => ?_
        obtain ⟨s, hs'⟩ := Option.ne_none_iff_exists'.1 hs
        obtain ⟨e, te, h1, h2, h3, h4⟩ := elemSize_ok hT hs'
        cases hv
        refine ⟨_, run_slice_sl h1 h3 (g3 true 0 vlo vhi w (Nat.le_refl _) q1 q2), ?_⟩
        have : slEnd l n 0 - l = 0 := by omega
        show _ = _
        simp [this]
    · rename_i b p q
      split at h
      · rename_i u xs md hb
        split at h
        · rename_i hs
          have hfin : ∀ l n, k1 K (.sl b (l + p) (lenFrom q l n)) = some r → l ≤ slEnd l n (slLen q (xs.length - p)) → (slEnd l n (slLen q (xs.length - p)) ≤ slLen q (xs.length - p) ∨ slEnd l n (slLen q (xs.length - p)) ≤ xs.length - p) →
              (∀ (isS : Bool) (cap' : Nat) (vlo vhi : Option Value) (w : World), xs.length - p ≤ cap' → optInt l0 vlo → optInt h0 vhi → (Instr.sliceBounds isS (slLen q (xs.length - p)) cap' vlo vhi none).run P w = .ok (l, slEnd l n (slLen q (xs.length - p)), cap') w) → Good P C look evv nb o K r := by
            intro l n hk g1 g2 g3
            refine fin _ hk fun R m w vx vlo vhi hp hv q1 q2 => ?_
            obtain ⟨e, te, h1, h2, h3, h4⟩ := elemSize_ok hT hs
            obtain ⟨L, hL, a, ln, cp, rfl, i1, i2, i3, i4, i5, i6⟩ := hv
            obtain ⟨L', hL', hB⟩ := hp.blk _ _ hb
            rw [hL] at hL'; cases hL'
            obtain ⟨j1, j2, j3, j4⟩ := hB
            have hln : slLen q (xs.length - p) = ln := by
              cases q with
              | none => rw [i3 rfl, j1]
              | some m => exact (i4 m rfl).1.symm
            have hcp : xs.length - p ≤ cp := by
              cases hLc : L.c with
              | none => have := (i5 hLc); have := j3 hLc; subst this; simp
              | some c => have := (i6 c hLc).1; omega
            rw [hln] at g1 g2 g3
            have hlc : ln ≤ xs.length - p := by
              cases q with
              | none => rw [i3 rfl, j1]; exact Nat.le_refl _
              | some m => have := i4 m rfl; omega
            replace g2 : slEnd l n ln ≤ xs.length - p := by omega
            refine ⟨_, run_slice_sl h1 h3 (g3 true cp vlo vhi w hcp q1 q2), L, hL, _, _, _, rfl, by omega, by omega, fun hn => ?_, fun k hn => ?_, fun hc => ?_, fun c hc => ?_⟩
            · cases n with
              | none =>
                cases q with
                | none => have := i3 rfl; simp only [slEnd]; omega
                | some m => simp [lenFrom] at hn
              | some k => simp [lenFrom] at hn
            · cases n with
              | none =>
                cases q with
                | none => simp [lenFrom] at hn
                | some m => simp only [lenFrom, Option.some.injEq] at hn; have := i4 m rfl; simp only [slEnd] at g1 g2 ⊢; omega
              | some k' => simp only [lenFrom, Option.some.injEq] at hn; simp only [slEnd] at g1 g2 ⊢; omega
            · have := i5 hc
              obtain ⟨rfl, rfl⟩ := this
              have : xs.length = 0 := by rw [j3 hc]; rfl
              simp
            · obtain ⟨k1, ad, rfl, k2⟩ := i6 c hc
              refine ⟨by omega, ?_⟩
              by_cases hz : cp = l
              · rw [if_pos hz]
                exact ⟨ad, rfl, fun h => by omega⟩
              · rw [if_neg hz]
                refine ⟨_, rfl, fun _ => ?_⟩
                obtain ⟨rfl, k3⟩ := k2 (by omega)
                show Addr.add _ _ = _ ∧ _
                rw [addr_add rfl, h4, j2]
                have e1 : (l + p) * u.size = l * u.size + p * u.size := Nat.add_mul _ _ _
                refine ⟨by simp only [e1]; congr 1; omega, ?_⟩
                rw [j2] at k3
                rw [show l + p + (cp - l) = p + cp by omega]; exact k3
          obtain ⟨l, n, hk, g1, g2, g3⟩ := bounds_run (P := P) h
          exact hfin l n hk g1 g2 g3
        · cases h
      · cases h
    · rename_i b q
      split at h
      · rename_i u xs md n' e ag sz by' z ty hb ht
        split at h
        · rename_i te hte
          split at h
          · rename_i hc
            obtain ⟨l, n, hk, g1, g2, g3⟩ := bounds_run (P := P) h
            refine fin _ hk fun R m w vx vlo vhi hp hv q1 q2 => ?_
            obtain ⟨_, _, _, _, _, h5, _⟩ := hT t _ ht
            obtain ⟨L, c, hL, hLc, hlen, rfl⟩ := hv
            obtain ⟨L', hL', hB⟩ := hp.blk _ _ hb
            rw [hL] at hL'; cases hL'
            obtain ⟨j1, j2, j3, j4⟩ := hB
            obtain ⟨cs, ce, fr, c1, c2, c3, c4, c5⟩ := j4 c hLc
            have hb1 := g3 false n' vlo vhi w (Nat.le_refl _) q1 q2
            have hle : slEnd l n n' ≤ n' := g2.elim id id
            refine ⟨.slice (some (if n' = l then ⟨c, L.off, none⟩ else (Addr.add ⟨c, L.off, none⟩ (l * te.size)))) (slEnd l n n' - l) (n' - l), by simp [Instr.sliceAt, run_underlying h5, Instr.sureAddr, hb1, run_sizeOf (hT e te hte)], L, hL, _, _, _, rfl, by omega, by omega, fun hn => ?_, fun k hn => ?_, fun hc => (by rw [hLc] at hc; cases hc), fun c' hc' => ?_⟩
            · subst hn; simp only [slEnd]; omega
            · subst hn; simp only [slEnd] at hle ⊢; omega
            · rw [hLc] at hc'; cases hc'
              refine ⟨by omega, _, rfl, fun hz => ?_⟩
              rw [if_neg (by omega), addr_add rfl, hc.2, ← j2]
              refine ⟨rfl, ?_⟩
              rw [show l + (n' - l) = L.len by omega]; exact c3
          · cases h
        · cases h
      · cases h
    · cases h
  · cases h

end
end Go.Rex
/- Rex, part M: what is made: slices, structs; conversions. -/
namespace Go.Rex

section
variable {P : Program} {C : Ctx} {look : Look} {evv : Operand → AV} {nb : Nat} {ρ : Type} {K : Eff → Option ρ} {r : ρ} {fuel : Nat}

theorem push_bytes (l : List Int) : l.foldl (fun r n => r.push (UInt8.ofNat n.toNat)) ByteArray.empty = bytesOf l := by
  have key : ∀ (l : List Int) (s : ByteArray), l.foldl (fun r n => r.push (UInt8.ofNat n.toNat)) s = ⟨s.data ++ (l.map fun n => UInt8.ofNat n.toNat).toArray⟩ := by
    intro l
    induction l with
    | nil => intro s; simp
    | cons n l ih => intro s; rw [List.foldl_cons, ih]; simp [ByteArray.push]
  rw [key]
  show ByteArray.mk (#[] ++ _) = _
  rw [Array.empty_append]; rfl

theorem step_convert {o : Oper} {s t : TypeId} {x : Operand} (hT : TabOk P C) (ho : o.op = .convert s t x) (h : step C fuel look evv nb (.convert s t x) K = some r) : Good P C look evv nb o K r := by
  simp only [step] at h
  split at h
  · rename_i si k ag sz by' z ty kk n hs ht hx
    refine ⟨_, h, sound_value fun m R w f hp hr => ⟨.int k (k.wrap n), ?_, rfl⟩⟩
    have h1 : f x = .int kk n := one_rel hx (hr x (by rw [ho]; simp [Op.operands]))
    obtain ⟨_, _, _, _, _, h5, _⟩ := hT t _ ht
    obtain ⟨_, _, _, _, h4, _⟩ := hT s _ hs
    obtain ⟨d, hd⟩ := Option.isSome_iff_exists.1 h4
    unfold execOp; rw [ho]
    simp only [h1, convert, Sem.run_bind, run_underlying h5, run_underlying hd, Result.andThen_ok]
    cases d <;> rfl
  · rename_i si k ag sz by' z ty kk n hs ht hx
    refine ⟨_, h, sound_value fun m R w f hp hr => ⟨.float k (k.nearest n), ?_, ⟨_, rfl, FRel.bits _ _⟩⟩⟩
    have h1 : f x = .int kk n := one_rel hx (hr x (by rw [ho]; simp [Op.operands]))
    obtain ⟨_, _, _, _, _, h5, _⟩ := hT t _ ht
    obtain ⟨_, _, _, _, h4, _⟩ := hT s _ hs
    unfold execOp; rw [ho]
    simp only [h1, Sem.run_bind, run_conv_if (w := w) h4 h5, Result.andThen_ok, Sem.run_pure]
  · rename_i si k ag sz by' z ty j n hs ht hx
    rw [cif_eq] at h
    have key : fFits j k n = true → Good P C look evv nb o K r ∨ k1 K (.flt k (fConv j k n)) ≠ some r := by
      intro hf
      by_cases hk : k1 K (.flt k (fConv j k n)) = some r
      · refine .inl ⟨_, hk, sound_drew fun m R w f hp hr => ?_⟩
        obtain ⟨b, h1, hb⟩ := one_rel hx (hr x (by rw [ho]; simp [Op.operands]))
        obtain ⟨_, _, _, _, _, h5, _⟩ := hT t _ ht
        obtain ⟨_, _, _, _, h4, _⟩ := hT s _ hs
        obtain ⟨q, c, h6, h7⟩ := run_conv_ff (w := w) h4 h5 hb hf
        refine ⟨_, c, ?_, q, rfl, h7⟩
        unfold execOp; rw [ho]
        simp only [h1, Sem.run_bind, h6, Result.andThen_ok, Sem.run_pure]
      · exact .inr hk
    split at h
    · rename_i hjk
      subst hjk
      rcases key (by simp [fFits]) with g | g
      · exact g
      · rw [show fConv j j n = n by simp [fConv]] at g
        exact absurd h g
    · split at h
      · rename_i hf
        rcases key hf with g | g
        · exact g
        · exact absurd h g
      · cases h
  · rename_i si k ag sz by' z ty j n hs ht hx
    split at h
    · rename_i hf
      refine ⟨_, h, sound_value fun m R w f hp hr => ⟨.int k (fInt j k n), ?_, rfl⟩⟩
      obtain ⟨b, h1, hb⟩ := one_rel hx (hr x (by rw [ho]; simp [Op.operands]))
      obtain ⟨_, _, _, _, _, h5, _⟩ := hT t _ ht
      obtain ⟨_, _, _, _, h4, _⟩ := hT s _ hs
      unfold execOp; rw [ho]
      simp only [h1, Sem.run_bind, run_conv_fi (w := w) h4 h5 hb hf, Result.andThen_ok, Sem.run_pure]
    · cases h
  · rename_i si ag sz by' z ty z' hs ht hx
    refine ⟨_, h, sound_value fun m R w f hp hr => ⟨.string z', ?_, rfl⟩⟩
    have h1 : f x = .string z' := one_rel hx (hr x (by rw [ho]; simp [Op.operands]))
    obtain ⟨_, _, _, _, _, h5, _⟩ := hT t _ ht
    obtain ⟨_, _, _, _, h4, _⟩ := hT s _ hs
    obtain ⟨d, hd⟩ := Option.isSome_iff_exists.1 h4
    unfold execOp; rw [ho]
    simp only [h1, convert, Sem.run_bind, run_underlying h5, run_underlying hd, Result.andThen_ok]
    cases d <;> rfl
  · rename_i e ag sz by' z ty ag' sz' by'' z' ty' y hn hs ht hx
    split at h
    · rename_i he
      split at h
      · rename_i xs us hel
        refine ⟨_, h, sound_value fun m R w f hp hr => ⟨.string (bytesOf xs), ?_, rfl⟩⟩
        have h1 := one_rel hx (hr x (by rw [ho]; simp [Op.operands]))
        obtain ⟨a, c, e1, hc, hh⟩ := elems_rel hp.blk hel h1
        have h2 : f x = .slice a xs.length c := by simpa using e1
        obtain ⟨_, _, _, _, _, h5, _⟩ := hT t _ ht
        obtain ⟨_, _, _, _, _, h4, _⟩ := hT s _ hs
        obtain ⟨_, _, _, _, _, h6, _⟩ := hT _ _ he
        have hrun : (Conv.bytesToString (.slice a xs.length c)).run P w = .ok (.string (bytesOf xs)) w := by
          cases a with
          | none =>
            have : xs = [] := by
              by_cases hxs : xs = []
              · exact hxs
              · obtain ⟨ad, e, _⟩ := hh hxs; cases e
            subst this
            rfl
          | some a =>
            have hl : (loadCells a xs.length).run P w = .ok (xs.map (Value.int .u8)).toArray w := by
              by_cases hxs : xs = []
              · subst hxs; rfl
              · obtain ⟨ad, e, g1, g2, g3⟩ := hh hxs
                cases e
                refine run_loadCells g1 (by simp) fun j u hu => ?_
                rw [List.getElem?_map] at hu
                cases hj : xs[j]? with
                | none => rw [hj] at hu; cases hu
                | some y =>
                  rw [hj] at hu; cases hu
                  obtain ⟨l, i1, i2⟩ := g3 j y hj
                  cases i1
                  have := i2 0 _ rfl
                  simpa [Ty.size] using this
            rw [run_bytesToString w a xs.length c xs hl]
            rw [push_bytes]
        unfold execOp; rw [ho]
        simp only [h2, run_convert_bytes_string w s t e _ _ _ h4 h6 h5, Sem.run_bind, hrun, Result.andThen_ok, Sem.run_pure]
      · cases h
    · cases h
  · cases h

theorem madeCells_get (z : Array Value) (n i j : Nat) (hz : j < z.size) (hi : i < n) : (madeCells z (n * z.size))[i * z.size + j]? = z[j]? := by
  have hlt : i * z.size + j < n * z.size := by
    have := Nat.mul_le_mul_right z.size (show i + 1 ≤ n from hi)
    rw [Nat.add_mul] at this; omega
  have h2 : (i * z.size + j) % z.size = j := by
    rw [Nat.add_comm, Nat.add_mul_mod_self_right, Nat.mod_eq_of_lt hz]
  simp only [madeCells]
  rw [Array.getElem?_map, Array.getElem?_range, if_pos hlt]
  simp [h2, hz]

/-- A row of zeros. -/
theorem made_rel {te : TI} {w w' : World} {n : Nat} (hs : te.size = te.ty.size) {z : Value} (hz : ∀ R w, te.ty.size = te.size → Enc R w te.ty te.ty.zero z.cells.toList) {R : Nat → Prop} {m : Map} {el : TypeId}
    (hw : w'.heap[w.heap.size]? = some (.cells (madeCells z.cells (n * z.cells.size)) el (0, 0))) :
    BRel R m w' ⟨some w.heap.size, 0, n, te.ty.size, n * te.ty.size⟩ (.arr te.ty (List.replicate n te.ty.zero) .full) := by
  have hzs : z.cells.size = te.ty.size := by
    have := (hz R w' hs.symm).length
    rwa [Array.length_toList] at this
  refine ⟨by simp, rfl, fun h => (by cases h), fun c hc => ?_⟩
  cases hc
  refine ⟨_, el, (0, 0), hw, by rw [size_madeCells, hzs], by simp, fun _ => rfl, fun i x hx => ?_⟩
  rw [List.getElem?_replicate] at hx
  split at hx
  · rename_i hi
    cases hx
    refine ⟨_, hz R w' hs.symm, fun j u hu => ?_⟩
    have hj : j < z.cells.size := by
      have := (List.getElem?_eq_some_iff.1 hu).1
      rwa [Array.length_toList] at this
    have := madeCells_get z.cells n i j hj hi
    rw [hzs] at this
    simp only [Nat.zero_add, hzs]
    rw [this]
    simpa using hu
  · cases hx

theorem step_makeSlice {o : Oper} {t : TypeId} {x y : Operand} (hT : TabOk P C) (ho : o.op = .makeSlice t x y) (hev : EvOk evv) (h : step C fuel look evv nb (.makeSlice t x y) K = some r) : Good P C look evv nb o K r := by
  simp only [step, cif_eq] at h
  split at h
  · rename_i e ag sz by' z0 ty kn n km mm ht hx hy
    split at h
    · rename_i te hte
      split at h
      · rename_i hcond
        obtain ⟨hsz, hby⟩ := hcond
        have hok := hT e te hte
        obtain ⟨_, _, _, _, _, hu, _⟩ := hT t _ ht
        obtain ⟨info, i1, i2, i3, i4, i5, i6, z, i7, i8, i9⟩ := id hok
        have fin : ∀ (k : Option Nat), 0 ≤ n → n ≤ mm → (te.bytes : Int) * mm ≤ 281474976710656 → (k = none → n = mm) → (∀ q, k = some q → q = n.toNat) →
            Sound P C.gl look evv nb o ⟨.one (.sl nb 0 k), [] ++ [(nb, some (.arr te.ty (List.replicate mm.toNat te.ty.zero) .full))]⟩ := by
          intro k h0 h1 h2 hk1 hk2 m R w f hp hr
          have hb1 : (1 : Int) ≤ te.bytes := by omega
          have hmm : mm ≤ 281474976710656 := by
            have := Int.mul_le_mul_of_nonneg_right hb1 (show 0 ≤ mm by omega)
            omega
          have hrun := run_make (P := P) w t e info z hu i1 i7 kn km n mm h0 h1 (by rw [i3]; exact h2) (by omega)
          have hfx : f x = .int kn n := one_rel hx (hr x (by rw [ho]; simp [Op.operands]))
          have hfy : f y = .int km mm := one_rel hy (hr y (by rw [ho]; simp [Op.operands]))
          have hzs : z.cells.size = info.size := by
            have := (i9 R w hsz.symm).length
            rw [Array.length_toList] at this; omega
          rw [← hzs] at hrun
          have hex : (execOp f o).run P w = .ok (.value (.slice (some ⟨w.heap.size, 0, none⟩) n.toNat mm.toNat)) (w.alloc (.cells (madeCells z.cells (mm.toNat * z.cells.size)) e)) := by
            unfold execOp; rw [ho]
            simp only [hfx, hfy, Sem.run_bind, hrun, Result.andThen_ok, Sem.run_pure]
          refine Outcome.value hex ⟨setM m nb ⟨some w.heap.size, 0, mm.toNat, te.ty.size, mm.toNat * te.ty.size⟩, Dem m [] R, Post.new (dems := []) hp (fun _ h => by cases h) (Keeps.alloc _ _ _) (fun c hc => ?_) (fun h => (by cases h)) ?_ ?_⟩
          · cases hc; simp
          · exact made_rel (w := w) hsz i9 (el := e) (by show (w.heap.push _)[w.heap.size]? = _; rw [Array.getElem?_push_size])
          · refine ⟨_, setM_same _ _ _, _, _, _, rfl, by omega, by omega, fun hk => (by have := hk1 hk; subst this; simp), fun q hq => (by have := hk2 q hq; subst this; exact ⟨rfl, by show 0 + n.toNat ≤ mm.toNat; omega⟩), fun h => (by cases h), fun c hc => ?_⟩
            cases hc
            exact ⟨by simp, _, rfl, fun _ => ⟨by simp, by simp⟩⟩
        split at h
        · rename_i hst
          split at h
          · rename_i hc
            refine ⟨_, h, ?_⟩
            have hnm : n = mm ∨ True := .inr trivial
            intro m R w f hp hr
            have hfx : f x = .int kn n := one_rel hx (hr x (by rw [ho]; simp [Op.operands]))
            have hfy : f y = .int km mm := one_rel hy (hr y (by rw [ho]; simp [Op.operands]))
            have heq : n = mm := by
              unfold sameTmp at hst
              split at hst
              · rename_i s t'
                have : s = t' := by simpa using hst
                subst this
                rw [hx] at hy; cases hy; rfl
              · rename_i a b c d
                have : b = d := by simpa using hst
                subst this
                rw [hev] at hx hy
                cases hx; cases hy; rfl
              · cases hst
            subst heq
            exact fin none hc.1 (Int.le_refl _) hc.2 (fun _ => rfl) (fun q hq => by cases hq) m R w f hp hr
          · cases h
        · split at h
          · rename_i hc
            exact ⟨_, h, fin (some n.toNat) hc.1 hc.2.1 hc.2.2 (fun h => by cases h) (fun q hq => by cases hq; rfl)⟩
          · cases h
      · cases h
    · cases h
  · cases h

end
end Go.Rex
/- Rex, part N: struct and slice literals. -/
namespace Go.Rex

theorem zipfold (off : Nat) : ∀ (l : List Value) (i : Nat) (cs : Array Value), off + i + l.length ≤ cs.size →
    ((l.zipIdx i).foldl (fun (cs : Array Value) (p : Value × Nat) => cs.setIfInBounds (off + p.2) p.1) cs).size = cs.size ∧
    (∀ j, j < l.length → ((l.zipIdx i).foldl (fun (cs : Array Value) (p : Value × Nat) => cs.setIfInBounds (off + p.2) p.1) cs)[off + i + j]? = l[j]?) ∧
    ∀ j, (j < off + i ∨ off + i + l.length ≤ j) → ((l.zipIdx i).foldl (fun (cs : Array Value) (p : Value × Nat) => cs.setIfInBounds (off + p.2) p.1) cs)[j]? = cs[j]?
  | [], i, cs, _ => ⟨rfl, fun j hj => by simp at hj, fun _ _ => rfl⟩
  | v :: l, i, cs, h => by
    simp only [List.length_cons] at h
    obtain ⟨h1, h2, h3⟩ := zipfold off l (i + 1) (cs.setIfInBounds (off + i) v) (by simp; omega)
    simp only [List.zipIdx_cons, List.foldl_cons]
    refine ⟨by rw [h1]; simp, fun j hj => ?_, fun j hj => ?_⟩
    · cases j with
      | zero =>
        rw [h3 (off + i + 0) (by omega)]
        simp [show off + i < cs.size by omega]
      | succ j =>
        have := h2 j (by simpa using hj)
        rw [show off + i + (j + 1) = off + (i + 1) + j by omega, this]; simp
    · simp only [List.length_cons] at hj
      rw [h3 j (by omega), Array.getElem?_setIfInBounds_ne (by omega)]

theorem zipfold_arr (off : Nat) (v cs : Array Value) (h : off + v.size ≤ cs.size) :
    ∃ cs' : Array Value, v.zipIdx.foldl (fun cs (c, j) => cs.setIfInBounds (off + j) c) cs = cs' ∧ cs'.size = cs.size ∧ (∀ j, j < v.size → cs'[off + j]? = v[j]?) ∧ ∀ j, (j < off ∨ off + v.size ≤ j) → cs'[j]? = cs[j]? := by
  obtain ⟨h1, h2, h3⟩ := zipfold off v.toList 0 cs (by simpa using h)
  refine ⟨_, rfl, ?_⟩
  have e : v.zipIdx.foldl (fun cs (c, j) => cs.setIfInBounds (off + j) c) cs = (v.toList.zipIdx 0).foldl (fun (cs : Array Value) (p : Value × Nat) => cs.setIfInBounds (off + p.2) p.1) cs := by
    rw [← Array.foldl_toList, Array.toList_zipIdx]
  rw [e]
  exact ⟨h1, by simpa using h2, by simpa using h3⟩

section
variable {P : Program} {C : Ctx} {look : Look} {evv : Operand → AV} {nb : Nat} {ρ : Type} {K : Eff → Option ρ} {r : ρ} {fuel : Nat}

theorem over_rel {R : Nat → Prop} {m : Map} {w : World} {l ys r' : List AV0} {off : Nat} {cs cs' v : Array Value} (h : over l off ys = some r') (h1 : CRel R m w l cs.toList) (h2 : CRel R m w ys v.toList) (hs : cs'.size = cs.size)
    (hi : ∀ j, j < v.size → cs'[off + j]? = v[j]?) (ho : ∀ j, (j < off ∨ off + v.size ≤ j) → cs'[j]? = cs[j]?) : CRel R m w r' cs'.toList := by
  obtain ⟨o1, o2, o3, o4⟩ := over_spec h
  have l1 : l.length = cs.size := by simpa using h1.length
  have l2 : ys.length = v.size := by simpa using h2.length
  refine CRel.mk (by rw [o1, l1, ← hs]; simp) fun j x u hx hu => ?_
  rw [Array.getElem?_toList] at hu
  by_cases hj : j < off ∨ off + ys.length ≤ j
  · rw [o4 j hj] at hx
    rw [ho j (by omega)] at hu
    obtain ⟨u', hu', hr⟩ := h1.get j x hx
    rw [Array.getElem?_toList, hu] at hu'; cases hu'
    exact hr
  · have q1 := o3 (j - off) (by omega)
    have q2 := hi (j - off) (by omega)
    rw [show off + (j - off) = j by omega] at q1 q2
    rw [q1] at hx
    obtain ⟨u', hu', hr⟩ := h2.get (j - off) x hx
    rw [Array.getElem?_toList, ← q2, hu] at hu'; cases hu'
    exact hr

/-- The cells of a value, where it is told. -/
theorem V1Rel.cells0 {R : Nat → Prop} {m : Map} {w : World} {g : Bool} {l : List AV0} {v : Value} (h : V1Rel R m w (g, l) v) (hn : g = true ∨ noUn l = true) : CRel R m w l v.cells.toList := by
  rcases hn with rfl | hn
  · exact V1Rel.cells' h
  · exact V1Rel.cells h hn

theorem fill_rel {R : Nat → Prop} {m : Map} {w : World} {fs : List (Nat × Nat × Bool)} {f : Operand → Value} {place : Nat → Option (Nat × Nat)} (hpl : ∀ i off size g, nth? fs i = some (off, size, g) → place i = some (off, size)) :
    ∀ (parts : List (Nat × Operand)) (l l' : List AV0) (cs : Array Value), fillF fs evv parts l = some l' → (∀ p ∈ parts, AVRel R m w (evv p.2) (f p.2)) → CRel R m w l cs.toList →
      ∃ cs', Instr.fill place cs (parts.map fun p => (p.1, f p.2)) = some cs' ∧ CRel R m w l' cs'.toList
  | [], l, l', cs, h, _, hc => by cases h; exact ⟨cs, rfl, hc⟩
  | (i, x) :: ps, l, l', cs, h, hr, hc => by
    simp only [fillF] at h
    split at h
    · rename_i off size g a ys hf hx
      split at h
      · rename_i hlen
        obtain ⟨hlen, hn⟩ := hlen
        split at h
        · rename_i l1 hov
          have h1 := hr (i, x) List.mem_cons_self
          simp only [hx] at h1
          have h2 := V1Rel.cells0 h1 (by simpa using hn)
          have hsz : (f x).cells.size = size := by rw [← hlen]; simpa using h2.length.symm
          have hb := (over_spec hov).2.1
          have hcl : l.length = cs.size := by simpa using hc.length
          obtain ⟨cs1, e1, e2, e3, e4⟩ := zipfold_arr off (f x).cells cs (by omega)
          obtain ⟨cs', g1, g2⟩ := fill_rel hpl ps l1 l' cs1 h (fun p hp => hr p (List.mem_cons_of_mem _ hp)) (over_rel hov hc h2 e2 e3 e4)
          refine ⟨cs', ?_, g2⟩
          simp only [List.map_cons, Instr.fill, hpl i off size g hf]
          rw [if_neg (by simp [hsz]; omega)]
          rw [e1]; exact g1
        · cases h
      · cases h
    · cases h

theorem run_mapM_list {α β : Type} {w : World} (g : α → Sem β) (k : α → β) : ∀ (l : List α), (∀ x ∈ l, (g x).run P w = .ok (k x) w) → (l.mapM g).run P w = .ok (l.map k) w
  | [], _ => by simp
  | x :: l, h => by
    simp only [List.mapM_cons, Sem.run_bind, h x List.mem_cons_self, Result.andThen_ok, run_mapM_list g k l fun y hy => h y (List.mem_cons_of_mem _ hy), List.map_cons]
    rfl

theorem run_mapM_arr {α β : Type} {w : World} (g : α → Sem β) (k : α → β) (l : Array α) (h : ∀ x ∈ l, (g x).run P w = .ok (k x) w) : (l.mapM g).run P w = .ok (l.map k) w := by
  rw [Array.mapM_eq_mapM_toList, Sem.run_map, run_mapM_list g k l.toList fun x hx => h x (by simpa using hx)]
  simp only [Result.andThen_ok]
  rw [← Array.toList_map]

theorem step_build {o : Oper} {t : TypeId} {parts : Array (Nat × Operand)} (hT : TabOk P C) (ho : o.op = .build t parts) (h : step C fuel look evv nb (.build t parts) K = some r) : Good P C look evv nb o K r := by
  simp only [step] at h
  split at h
  · rename_i fs ag sz by' zero ty ht
    split at h
    · rename_i cs hcs
      refine ⟨_, h, sound_value fun m R w f hp hr => ?_⟩
      have hok := hT t _ ht
      obtain ⟨z, z1, z2, _⟩ := run_zeroValue (w := w) hok
      obtain ⟨_, _, _, _, _, ⟨fields, g1, g2, g3⟩, _⟩ := id hok
      have hmap : (fields.mapM fun fd => do pure (fd.offset, ← sizeOf fd.type) : Sem (Array (Nat × Nat))).run P w = .ok (fields.map fun fd => (fd.offset, P.cellsOf fd.type)) w := by
        refine run_mapM_arr _ _ _ fun fd hfd => ?_
        obtain ⟨i, hi⟩ := Array.getElem?_of_mem hfd
        simp [run_sizeOf' (g3 i fd hi).1]
      have hpl : ∀ i off size g, nth? fs i = some (off, size, g) → (fields.map fun fd => (fd.offset, P.cellsOf fd.type))[i]? = some (off, size) := by
        intro i off size g hf
        rw [nth?_eq, ← g2, List.getElem?_map] at hf
        cases hfd : fields.toList[i]? with
        | none => rw [hfd] at hf; cases hf
        | some fd =>
          rw [hfd] at hf
          have hf' : fields[i]? = some fd := by simpa using hfd
          simp only [Option.map_some, Option.some.injEq, Prod.mk.injEq] at hf
          simp [hf', hf.1, hf.2.1]
      obtain ⟨vs, e1, e2⟩ := fill_rel (R := R) (m := m) (w := w) (f := f) hpl parts.toList zero cs z.cells hcs (fun p hp => hr p.2 (by
        rw [ho]; simp only [Op.operands]
        exact List.mem_toArray.2 (List.mem_map.2 ⟨p, hp, rfl⟩))) (z2 R m w)
      refine ⟨.agg vs, ?_, vs, rfl, e2⟩
      have e3 : Instr.fill ((fields.map fun fd => (fd.offset, P.cellsOf fd.type))[·]?) z.cells (parts.map fun (i, x) => (i, f x)).toList = some vs := by
        rw [Array.toList_map]; exact e1
      unfold execOp; rw [ho]
      simp only [Instr.build, Sem.run_bind, z1, Result.andThen_ok, run_underlying g1, hmap, e3, Sem.run_pure]
    · cases h
  · cases h

def ArrRel (R : Nat → Prop) (w : World) (t : Ty) (xs : List t.den) (cs : Array Value) : Prop :=
  cs.size = xs.length * t.size ∧ ∀ (i : Nat) x, xs[i]? = some x → ∃ l, Enc R w t x l ∧ ∀ (j : Nat) u, l[j]? = some u → cs[i * t.size + j]? = some u

theorem mul_le' {i n s : Nat} (h : i < n) : i * s + s ≤ n * s := by
  have := Nat.mul_le_mul_right s (show i + 1 ≤ n from h)
  rw [Nat.add_mul] at this; omega

theorem ArrRel.set {R : Nat → Prop} {w : World} {t : Ty} {xs : List t.den} {cs cs' v : Array Value} {i : Nat} {y : t.den} (h : ArrRel R w t xs cs) (hi : i < xs.length) (hy : Enc R w t y v.toList) (hs : cs'.size = cs.size)
    (h1 : ∀ j, j < v.size → cs'[i * t.size + j]? = v[j]?) (h2 : ∀ j, (j < i * t.size ∨ i * t.size + v.size ≤ j) → cs'[j]? = cs[j]?) : ArrRel R w t (xs.set i y) cs' := by
  have hv : v.size = t.size := by simpa using hy.length
  refine ⟨by rw [hs, h.1, List.length_set], fun k x hx => ?_⟩
  by_cases hk : k = i
  · subst hk
    rw [List.getElem?_set_self hi] at hx
    cases hx
    exact ⟨_, hy, fun j u hu => by
      have hj : j < v.size := by simpa using (List.getElem?_eq_some_iff.1 hu).1
      rw [h1 j hj]; simpa using hu⟩
  · rw [List.getElem?_set_ne (Ne.symm hk)] at hx
    obtain ⟨l, e1, e2⟩ := h.2 k x hx
    refine ⟨l, e1, fun j u hu => ?_⟩
    have hj : j < t.size := by rw [← e1.length]; exact (List.getElem?_eq_some_iff.1 hu).1
    rw [h2 _ ?_]
    · exact e2 j u hu
    · rcases Nat.lt_or_gt_of_ne hk with hlt | hgt
      · have := mul_le' (s := t.size) hlt; omega
      · have := mul_le' (s := t.size) hgt; omega

theorem fillS_rel {R : Nat → Prop} {m : Map} {w : World} {gl : List (Nat × AV0)} (hp : Pre gl look nb m R w) {t : Ty} {f : Operand → Value} {sz : Nat} (hsz : sz = t.size) :
    ∀ (parts : List (Nat × Operand)) (xs xs' : List t.den) (u u' : List (Nat × Option Blk)) (cs : Array Value), fillS look evv t parts xs u = some (xs', u') → (∀ p ∈ parts, AVRel R m w (evv p.2) (f p.2)) → DemOk look u → ArrRel (Dem m u R) w t xs cs →
      ∃ cs', Instr.fill (fun i => some (i * sz, sz)) cs (parts.map fun p => (p.1, f p.2)) = some cs' ∧ DemOk look u' ∧ ArrRel (Dem m u' R) w t xs' cs' ∧ xs'.length = xs.length
  | [], xs, xs', u, u', cs, h, _, hd, hc => by cases h; exact ⟨cs, rfl, hd, hc, rfl⟩
  | (i, x) :: ps, xs, xs', u, u', cs, h, hr, hd, hc => by
    simp only [fillS] at h
    split at h
    · rename_i g l hx
      split at h
      · rename_i y u1 hun
        split at h
        · rename_i hi
          obtain ⟨hi, hn⟩ := hi
          have h1 := hr (i, x) List.mem_cons_self
          simp only [hx] at h1
          have h2 := V1Rel.cells h1 hn
          obtain ⟨d1, l1, l2, e1, q1, q2⟩ := uncells_rel hp.blk hun h2
          cases l2 with
          | cons _ _ => exact q2.elim
          | nil =>
            rw [List.append_nil] at e1
            rw [← e1] at q1
            have hvs : (f x).cells.size = t.size := by simpa using q1.length
            have hbd : i * t.size + t.size ≤ cs.size := by rw [hc.1]; exact mul_le' hi
            obtain ⟨cs1, g1, g2, g3, g4⟩ := zipfold_arr (i * t.size) (f x).cells cs (by omega)
            have hmono : ∀ {v} {z : t.den}, Enc (Dem m u1 R) w t z v → Enc (Dem m (u ++ u1) R) w t z v := fun h => h.mono (Dem.mono fun _ h => List.mem_append_right _ h) (Same.refl _ _)
            have hc' : ArrRel (Dem m (u ++ u1) R) w t xs cs := ⟨hc.1, fun k z hz => (hc.2 k z hz).imp fun _ ⟨a, b⟩ => ⟨a.mono (Dem.mono fun _ h => List.mem_append_left _ h) (Same.refl _ _), b⟩⟩
            obtain ⟨cs', k1, k2, k3, k4⟩ := fillS_rel hp hsz ps _ _ _ _ cs1 h (fun p hp => hr p (List.mem_cons_of_mem _ hp)) (hd.append d1) (hc'.set hi (hmono q1) g2 g3 g4)
            refine ⟨cs', ?_, k2, k3, by rw [k4]; simp⟩
            simp only [List.map_cons, Instr.fill, hsz]
            rw [if_neg (by simp [hvs]; omega), g1]
            rw [hsz] at k1; exact k1
        · cases h
      · cases h
    · cases h

theorem step_buildSlice {o : Oper} {t : TypeId} {n : Nat} {parts : Array (Nat × Operand)} (hT : TabOk P C) (ho : o.op = .buildSlice t n parts) (h : step C fuel look evv nb (.buildSlice t n parts) K = some r) : Good P C look evv nb o K r := by
  simp only [step, cif_eq] at h
  split at h
  · rename_i e ag sz by' z0 ty ht
    split at h
    · rename_i te hte
      split at h
      · rename_i hcond
        split at h
        · rename_i xs us hxs
          refine ⟨_, h, ?_⟩
          intro m R w f hp hr
          have hok := hT e te hte
          obtain ⟨_, _, _, _, _, hu, _⟩ := hT t _ ht
          obtain ⟨info, i1, i2, i3, i4, i5, i6, z, i7, i8, i9⟩ := id hok
          have hzs : z.cells.size = te.size := by
            have := (i9 R w hcond.2.symm).length
            rw [← hcond.2] at this; simpa using this
          have h0 : ArrRel (Dem m [] R) w te.ty (List.replicate n te.ty.zero) (madeCells z.cells (n * z.cells.size)) := by
            refine ⟨by rw [size_madeCells, hzs, hcond.2]; simp, fun i x hx => ?_⟩
            rw [List.getElem?_replicate] at hx
            split at hx
            · rename_i hi
              cases hx
              refine ⟨_, i9 _ w hcond.2.symm, fun j u hu => ?_⟩
              have hj : j < z.cells.size := by simpa using (List.getElem?_eq_some_iff.1 hu).1
              have := madeCells_get z.cells n i j hj hi
              rw [← hcond.2, ← hzs, this]; simpa using hu
            · cases hx
          obtain ⟨cs', g1, g2, g3, g4⟩ := fillS_rel (f := f) hp hcond.2 parts.toList _ _ _ _ _ hxs (fun p hp => hr p.2 (by
            rw [ho]; simp only [Op.operands]
            exact List.mem_toArray.2 (List.mem_map.2 ⟨p, hp, rfl⟩))) (fun _ h => by cases h) h0
          have hlen : xs.length = n := by rw [g4]; simp
          have g1' : Instr.fill (fun i => some (i * te.size, te.size)) (madeCells z.cells (n * te.size)) (parts.map fun (i, x) => (i, f x)).toList = some cs' := by
            rw [Array.toList_map, ← hzs]; rw [← hzs] at g1; exact g1
          have hrun : (execOp f o).run P w = .ok (.value (.slice (some ⟨w.heap.size, 0, none⟩) n n)) { w with heap := w.heap.push (.cells cs' e (0, 0)) } := by
            unfold execOp; rw [ho]
            have hz : (zeroValue e).run P w = .ok z w := by simp [zeroValue, typeInfo, i1, i7]
            simp only [Instr.buildSlice, Sem.run_bind, run_underlying hu, Result.andThen_ok, run_sizeOf hok]
            rw [if_neg (by omega)]
            by_cases hz0 : n * te.size = 0
            · rw [if_pos hz0]
              have g1'' : Instr.fill (fun i => some (i * te.size, te.size)) (Array.map (fun x => (#[] : Array Value)[x % 0]!) (Array.range (n * te.size))) (parts.map fun (i, x) => (i, f x)).toList = some cs' := by
                rw [hz0] at g1' ⊢
                rw [show Array.map (fun x => (#[] : Array Value)[x % 0]!) (Array.range 0) = madeCells z.cells 0 from by simp [madeCells, Array.range_zero']]
                exact g1'
              simp only [Sem.run_bind, Sem.run_pure, Result.andThen_ok]
              erw [g1'']
              simp [newRow]
            · rw [if_neg hz0]
              simp only [Sem.run_bind, hz, Sem.run_pure, Result.andThen_ok]
              erw [g1']
              simp [newRow]
          have hR : ∀ k, Dem m us R k → k < w.heap.size := fun k hk => dem_lt hp g2 hk
          have hsame : Same (Dem m us R) w { w with heap := w.heap.push (.cells cs' e (0, 0)) } := fun k hk => by
            have := hR k hk
            show (w.heap.push _)[k]? = _
            rw [Array.getElem?_push, if_neg (by omega)]
          refine Outcome.value hrun ⟨setM m nb ⟨some w.heap.size, 0, n, te.ty.size, n * te.ty.size⟩, Dem m us R, Post.new (dems := us) hp g2 (Keeps.alloc _ _ _) (fun c hc => ?_) (fun h => (by cases h)) ?_ ?_⟩
          · cases hc; simp
          · refine ⟨hlen, rfl, fun h => (by cases h), fun c hc => ?_⟩
            cases hc
            refine ⟨cs', e, (0, 0), by show (w.heap.push _)[w.heap.size]? = _; rw [Array.getElem?_push_size], by rw [g3.1, hlen], by simp, fun _ => rfl, fun i x hx => ?_⟩
            obtain ⟨l, a1, a2⟩ := g3.2 i x hx
            exact ⟨l, a1.mono (fun _ h => h) hsame, fun j u hu => by simp only [Nat.zero_add]; exact a2 j u hu⟩
          · refine ⟨_, setM_same _ _ _, _, _, _, rfl, by omega, by omega, fun hk => (by simp), fun q hq => (by cases hq), fun h => (by cases h), fun c hc => ?_⟩
            cases hc
            exact ⟨by simp, _, rfl, fun _ => ⟨by simp, by simp⟩⟩
        · cases h
      · cases h
    · cases h
  · cases h

end
end Go.Rex
/- Rex, part O: what is built in. -/
namespace Go.Rex

section
variable {P : Program} {C : Ctx} {look : Look} {evv : Operand → AV} {nb : Nat} {ρ : Type} {K : Eff → Option ρ} {r : ρ} {fuel : Nat}

theorem run_builtin {o : Oper} {c : Call} {b : Builtin} {f : Operand → Value} {w : World} (ho : o.op = .call c) (hc : c.callee = .builtin b) :
    ∃ consts, (execOp f o).run P w = (builtin b c.argTypes o.type consts (c.args.map f)).run P w := by
  have key : ∃ consts, resolve f c o.type = (pure { target := .builtin b c.argTypes o.type consts, args := c.args.map f } : Sem Deferred) := by
    unfold resolve
    simp only [hc]
    exact ⟨_, rfl⟩
  obtain ⟨consts, hk⟩ := key
  refine ⟨consts, ?_⟩
  unfold execOp; rw [ho]
  simp only [hk, Sem.run_bind, Sem.run_pure, Result.andThen_ok, invoke]

theorem args_of {c : Call} {l : List AV} (h : c.args.toList.map evv = l) {R : Nat → Prop} {m : Map} {w : World} {f : Operand → Value} (hr : ∀ y ∈ (Op.call c).operands, AVRel R m w (evv y) (f y)) :
    (c.args.map f).toList.length = l.length ∧ ∀ (i : Nat) x, l[i]? = some x → ∃ v, (c.args.map f)[i]? = some v ∧ AVRel R m w x v := by
  subst h
  refine ⟨by simp, fun i x hx => ?_⟩
  rw [List.getElem?_map] at hx
  cases hi : c.args.toList[i]? with
  | none => rw [hi] at hx; cases hx
  | some y =>
    rw [hi] at hx; cases hx
    have hi' : c.args[i]? = some y := by simpa using hi
    refine ⟨f y, by simp [hi'], hr y ?_⟩
    simp only [Op.operands, Call.operands]
    exact Array.mem_append.2 (.inr (Array.mem_of_getElem? hi'))

theorem len_sound {o : Oper} {c : Call} (hT : TabOk P C) (ho : o.op = .call c) (hc : c.callee = .builtin .len) {x : AV0} {t : TypeId} {ts : List TypeId} {n : Nat} (ha : c.args.toList.map evv = [.v (false, [x])]) (ht : c.argTypes.toList = t :: ts)
    (hn : lenOf look x = some n) (hs : lenTy C t x = true) : Sound P C.gl look evv nb o ⟨.one (.int .i64 (n : Int)), []⟩ := by
  refine sound_value fun m R w f hp hr => ⟨.int .i64 n, ?_, rfl⟩
  rw [ho] at hr
  obtain ⟨h1, h2⟩ := args_of ha hr
  obtain ⟨v, h3, h4⟩ := h2 0 _ rfl
  have h5 : VRel R m w x v := h4
  have ht0 : c.argTypes[0]? = some t := by
    have : c.argTypes.toList[0]? = some t := by rw [ht]; rfl
    simpa using this
  obtain ⟨consts, hrun⟩ := run_builtin (P := P) (f := f) (w := w) ho hc
  rw [hrun]
  simp only [builtin, Builtin.len_, ht0, h3]
  cases x with
  | str s =>
    simp only [lenTy] at hs
    cases h5
    cases hn
    simp [run_underlying (isStrT_ok hT hs), goInt]
  | ro u xs =>
    simp only [lenTy] at hs
    obtain ⟨s, hs'⟩ := Option.isSome_iff_exists.1 hs
    obtain ⟨e, te, i1, i2, i3, i4⟩ := elemSize_ok hT hs'
    rcases lenOf_rel hp.blk hn h5 with ⟨s, e1, e2⟩ | ⟨a, cp, rfl⟩
    · obtain ⟨_, _, e3, _⟩ := h5; cases e3; cases e1
    · simp [run_underlying i1, goInt]
  | nils =>
    simp only [lenTy] at hs
    obtain ⟨s, hs'⟩ := Option.isSome_iff_exists.1 hs
    obtain ⟨e, te, i1, i2, i3, i4⟩ := elemSize_ok hT hs'
    rcases lenOf_rel hp.blk hn h5 with ⟨s, e1, e2⟩ | ⟨a, cp, rfl⟩
    · cases h5; cases e1
    · simp [run_underlying i1, goInt]
  | sl b p q =>
    simp only [lenTy] at hs
    obtain ⟨s, hs'⟩ := Option.isSome_iff_exists.1 hs
    obtain ⟨e, te, i1, i2, i3, i4⟩ := elemSize_ok hT hs'
    rcases lenOf_rel hp.blk hn h5 with ⟨s, e1, e2⟩ | ⟨a, cp, rfl⟩
    · obtain ⟨_, _, _, _, _, e3, _⟩ := h5; cases e3; cases e1
    · simp [run_underlying i1, goInt]
  | _ => cases hn

theorem foldInts_rel {fi : Int → Int → Int} {f2 : Value → Value → Sem Value} (hf : ∀ (k : IntKind) (x y : Int) (w : World), (f2 (.int k x) (.int k y)).run P w = .ok (.int k (fi x y)) w) {k : IntKind} {R : Nat → Prop} {m : Map} {w : World} :
    ∀ (l : List AV) (vs : List Value) (x y : Int), foldInts fi k x l = some y → vs.length = l.length → (∀ (i : Nat) a, l[i]? = some a → ∃ v, vs[i]? = some v ∧ AVRel R m w a v) → (vs.foldlM f2 (.int k x)).run P w = .ok (.int k y) w
  | [], vs, x, y, h, hl, _ => by
    cases h
    obtain rfl := List.length_eq_zero_iff.1 hl
    rfl
  | a :: l, vs, x, y, h, hl, hr => by
    cases vs with
    | nil => cases hl
    | cons v vs =>
      unfold foldInts at h
      split at h
      · rename_i e; cases e
      · rename_i j z r e
        cases e
        split at h
        · rename_i hj
          subst hj
          obtain ⟨v', e1, e2⟩ := hr 0 _ rfl
          cases e1
          have e3 : v = .int j z := e2
          subst e3
          simp only [List.foldlM_cons, Sem.run_bind, hf, Result.andThen_ok]
          exact foldInts_rel hf l vs _ y h (by simpa using hl) fun i b hb => by simpa using hr (i + 1) b (by simpa using hb)
        · cases h
      · cases h

theorem max2_int (k : IntKind) (x y : Int) (w : World) : (Builtin.max2 (.int k x) (.int k y)).run P w = .ok (.int k (mxI x y)) w := rfl
theorem min2_int (k : IntKind) (x y : Int) (w : World) : (Builtin.min2 (.int k x) (.int k y)).run P w = .ok (.int k (mnI x y)) w := rfl

theorem maxmin_sound {o : Oper} {c : Call} (ho : o.op = .call c) {b : Builtin} (hb : b = .max ∨ b = .min) (hc : c.callee = .builtin b) {k : IntKind} {x y : Int} {l : List AV} (ha : c.args.toList.map evv = .v (false, [.int k x]) :: l)
    (hf : foldInts (if b = .max then mxI else mnI) k x l = some y) : Sound P C.gl look evv nb o ⟨.one (.int k y), []⟩ := by
  refine sound_value fun m R w f hp hr => ⟨.int k y, ?_, rfl⟩
  rw [ho] at hr
  obtain ⟨h1, h2⟩ := args_of ha hr
  obtain ⟨consts, hrun⟩ := run_builtin (P := P) (f := f) (w := w) ho hc
  rw [hrun]
  obtain ⟨v, h3, h4⟩ := h2 0 _ rfl
  have h5 : v = .int k x := h4
  subst h5
  have hl : ∃ vs, (c.args.map f).toList = .int k x :: vs := by
    have : (c.args.map f).toList[0]? = some (.int k x) := by simpa using h3
    cases hv : (c.args.map f).toList with
    | nil => rw [hv] at this; cases this
    | cons v vs => rw [hv] at this; cases this; exact ⟨vs, rfl⟩
  obtain ⟨vs, hvs⟩ := hl
  have hr' : ∀ (i : Nat) a, l[i]? = some a → ∃ v, vs[i]? = some v ∧ AVRel R m w a v := fun i a hi => by
    obtain ⟨v, e1, e2⟩ := h2 (i + 1) a (by simpa using hi)
    have : (c.args.map f).toList[i + 1]? = some v := by simpa using e1
    rw [hvs] at this
    exact ⟨v, by simpa using this, e2⟩
  have hlen : vs.length = l.length := by rw [hvs] at h1; simpa using h1
  rcases hb with rfl | rfl
  · simp only [builtin, Builtin.max_, hvs, Sem.run_bind]
    rw [foldInts_rel (fun k x y w => max2_int k x y w) l vs x y hf hlen hr']
    rfl
  · simp only [builtin, Builtin.min_, hvs, Sem.run_bind]
    rw [foldInts_rel (fun k x y w => min2_int k x y w) l vs x y hf hlen hr']
    rfl

end
end Go.Rex
/- Rex, part P: append and copy. -/
namespace Go.Rex

theorem Enc.one {R : Nat → Prop} {w : World} : ∀ {t : Ty} {x : t.den} {l : List Value}, Enc R w t x l → ∀ v ∈ l, v.oneCell' = true
  | .int _, _, _, h, v, hv => by cases h; simp at hv; subst hv; rfl
  | .bool, _, _, h, v, hv => by cases h; simp at hv; subst hv; rfl
  | .str, _, _, h, v, hv => by cases h; simp at hv; subst hv; rfl
  | .unit, _, _, h, v, hv => by cases h; cases hv
  | .flt _, _, _, h, v, hv => by obtain ⟨b, e, _⟩ := h; subst e; simp at hv; subst hv; rfl
  | .pair _ _, _, _, ⟨l1, l2, e, h1, h2⟩, v, hv => by
    subst e
    rcases List.mem_append.1 hv with hv | hv
    · exact Enc.one h1 v hv
    · exact Enc.one h2 v hv
  | .sl _, _, _, h, v, hv => by
    obtain ⟨a, c, e, _⟩ := h
    subst e; simp at hv; subst hv; rfl

/-- The cells of a list's elements, one behind the other. -/
theorem flatten {R : Nat → Prop} {w : World} {t : Ty} {Q : Nat → Value → Prop} : ∀ (xs : List t.den) (b : Nat), (∀ (i : Nat) x, xs[i]? = some x → ∃ l, Enc R w t x l ∧ ∀ (j : Nat) u, l[j]? = some u → Q (b + (i * t.size + j)) u) →
    ∃ vs : List Value, vs.length = xs.length * t.size ∧ (∀ v ∈ vs, v.oneCell' = true) ∧ (∀ (q : Nat) u, vs[q]? = some u → Q (b + q) u) ∧ ∀ (i : Nat) x, xs[i]? = some x → ∃ l, Enc R w t x l ∧ ∀ (j : Nat) u, l[j]? = some u → vs[i * t.size + j]? = some u
  | [], b, _ => ⟨[], by simp, fun v hv => (by cases hv), fun q u h => (by simp at h), fun i x h => (by simp at h)⟩
  | x :: xs, b, h => by
    obtain ⟨l, h1, h2⟩ := h 0 x rfl
    have hl := h1.length
    obtain ⟨vs, g1, g2, g3, g4⟩ := flatten xs (b + t.size) fun i y hy => by
      obtain ⟨l', k1, k2⟩ := h (i + 1) y (by simpa using hy)
      refine ⟨l', k1, fun j u hu => ?_⟩
      have := k2 j u hu
      rw [Nat.add_mul, Nat.one_mul] at this
      rw [show b + t.size + (i * t.size + j) = b + (i * t.size + t.size + j) by omega]; exact this
    refine ⟨l ++ vs, by rw [List.length_append, hl, g1, List.length_cons, Nat.add_mul]; omega, fun v hv => ?_, fun q u hu => ?_, fun i y hy => ?_⟩
    · rcases List.mem_append.1 hv with hv | hv
      · exact h1.one v hv
      · exact g2 v hv
    · by_cases hq : q < l.length
      · rw [List.getElem?_append_left hq] at hu
        have := h2 q u hu
        simpa using this
      · rw [List.getElem?_append_right (by omega)] at hu
        have := g3 _ u hu
        rw [show b + t.size + (q - l.length) = b + q by omega] at this; exact this
    · cases i with
      | zero =>
        simp at hy; subst hy
        refine ⟨l, h1, fun j u hu => ?_⟩
        have hj := (List.getElem?_eq_some_iff.1 hu).1
        rw [Nat.zero_mul, Nat.zero_add, List.getElem?_append_left hj]; exact hu
      | succ i =>
        obtain ⟨l', k1, k2⟩ := g4 i y (by simpa using hy)
        refine ⟨l', k1, fun j u hu => ?_⟩
        have := k2 j u hu
        rw [Nat.add_mul, Nat.one_mul, List.getElem?_append_right (by omega), show i * t.size + t.size + j - l.length = i * t.size + j by omega]; exact this

section
variable {P : Program} {C : Ctx} {look : Look} {evv : Operand → AV} {nb : Nat} {ρ : Type} {K : Eff → Option ρ} {r : ρ} {fuel : Nat}

/-- A slice that lies somewhere: its elements. -/
def SlAt (R : Nat → Prop) (w : World) (t : Ty) (xs : List t.den) (v : Value) : Prop :=
  ∃ a c, v = .slice a xs.length c ∧ xs.length ≤ c ∧ (xs ≠ [] → ∃ ad, a = some ad ∧ ad.spot = none ∧
    ∀ (i : Nat) x, xs[i]? = some x → ∃ l, Enc R w t x l ∧ ∀ (j : Nat) u, l[j]? = some u → w.cell? ⟨ad.block, ad.off + (i * t.size + j), none⟩ = some u)

theorem arr_at {R : Nat → Prop} {m : Map} {w : World} {L : Loc} {t : Ty} {xs : List t.den} {md : Md} {o : Nat} {n : Option Nat} {v : Value} (hB : BRel R m w L (.arr t xs md)) (hv : slRel L o n v) : SlAt R w t (window xs o n) v := by
  have h := arr_enc (R' := fun k => R k ∨ L.c = some k) hB hv (fun _ h => .inl h) fun c hc => .inr hc
  obtain ⟨a, c, e, hc, _⟩ := h
  have e' : v = .slice a (window xs o n).length c := by simpa using e
  refine ⟨a, c, e', hc, fun hn => ?_⟩
  subst e'
  obtain ⟨a', ln, cp, e2, h1, h2, h3, h4, h5, h6⟩ := hv
  cases e2
  obtain ⟨g1, g2, g3, g4⟩ := hB
  cases hLc : L.c with
  | none => rw [g3 hLc] at hn; exact absurd (by cases n <;> simp [window]) hn
  | some c =>
    obtain ⟨i1, ad, rfl, i2⟩ := h6 c hLc
    have hpos := List.length_pos_iff.2 hn
    obtain ⟨rfl, i3⟩ := i2 (by omega)
    obtain ⟨cs, e, fr, j1, j2, j3, j4, j5⟩ := g4 c hLc
    refine ⟨_, rfl, rfl, fun i x hx => ?_⟩
    obtain ⟨l, k1, k2⟩ := j5 (o + i) x (window_get xs o n i x hx)
    refine ⟨l, k1, fun j u hu => ?_⟩
    have := k2 j u hu
    simp only [World.cell?, j1]
    rw [g2, ← this]
    simp only [Option.isSome_none, Bool.false_eq_true, if_false]
    rw [Nat.add_mul]
    congr 1
    omega

theorem elems_at {R : Nat → Prop} {m : Map} {w : World} (hp : Blks look R m w) {t : Ty} {x : AV0} {xs : List t.den} {u : List (Nat × Option Blk)} {v : Value} (h : elems look t x = some (xs, u)) (hv : VRel R m w x v) : SlAt R w t xs v := by
  unfold elems at h
  split at h
  · split at h
    · rename_i k _
      cases h
      obtain ⟨k⟩ := k
      subst k
      obtain ⟨a, c, e, hc, hh⟩ := hv
      exact ⟨a, c, List.singleton_inj.1 e, hc, fun hn => by
        obtain ⟨ad, h1, h2, _, h4⟩ := hh hn
        exact ⟨ad, h1, h2, h4⟩⟩
    · cases h
  · cases h
    cases hv
    exact ⟨none, 0, rfl, Nat.le_refl _, fun h => absurd rfl h⟩
  · rename_i b o n
    split at h
    · rename_i u0 ys md hb
      split at h
      · rename_i k _
        cases h
        obtain ⟨k⟩ := k
        subst k
        obtain ⟨L, hL, hs⟩ := hv
        obtain ⟨L', hL', hB⟩ := hp b _ hb
        rw [hL] at hL'; cases hL'
        exact arr_at hB hs
      · cases h
    · cases h
  · cases h

/-- A slice's cells. -/
theorem slice_cells {R : Nat → Prop} {w : World} {t : Ty} {xs : List t.den} {v : Value} (h : SlAt R w t xs v) :
    ∃ vs : List Value, vs.length = xs.length * t.size ∧ (∀ v ∈ vs, v.oneCell' = true) ∧ (∀ w', w'.heap = w.heap → (Builtin.firstCells t.size xs.length v).run P w' = .ok vs.toArray w') ∧
      ∀ (i : Nat) x, xs[i]? = some x → ∃ l, Enc R w t x l ∧ ∀ (j : Nat) u, l[j]? = some u → vs[i * t.size + j]? = some u := by
  obtain ⟨a, c, rfl, hc, hh⟩ := h
  by_cases hx : xs = []
  · subst hx
    refine ⟨[], by simp, fun v hv => (by cases hv), fun w' _ => ?_, fun i x h => (by simp at h)⟩
    cases a with
    | none => rfl
    | some ad => simp [Builtin.firstCells, loadCells, loadCellsFrom]
  · obtain ⟨ad, rfl, g1, g3⟩ := hh hx
    obtain ⟨vs, k1, k2, k3, k4⟩ := flatten (Q := fun q u => w.cell? ⟨ad.block, ad.off + q, none⟩ = some u) xs 0 fun i x hx => by
      obtain ⟨l, e1, e2⟩ := g3 i x hx
      exact ⟨l, e1, fun j u hu => by rw [Nat.zero_add]; exact e2 j u hu⟩
    refine ⟨vs, k1, k2, fun w' hw => ?_, k4⟩
    simp only [Builtin.firstCells]
    refine run_loadCells g1 k1 fun j u hu => ?_
    have := k3 j u hu
    rw [Nat.zero_add] at this
    rw [← this]
    simp [World.cell?, hw]

/-- What append puts behind. -/
theorem elemsX_rel {gl : List (Nat × AV0)} {R : Nat → Prop} {m : Map} {w : World} (hp : Pre gl look nb m R w) {t : Ty} {x : AV0} {ys : List t.den} {us : List (Nat × Option Blk)} {v : Value} (h : elemsX look t x = some (ys, us)) (hv : VRel R m w x v) :
    (Builtin.lenOf v).run P w = .ok ys.length w ∧ ∃ vs : List Value, vs.length = ys.length * t.size ∧ (∀ v ∈ vs, v.oneCell' = true) ∧ (∀ w', w'.heap = w.heap → (Builtin.firstCells t.size ys.length v).run P w' = .ok vs.toArray w') ∧
      ∀ (i : Nat) x, ys[i]? = some x → ∃ l, Enc R w t x l ∧ ∀ (j : Nat) u, l[j]? = some u → vs[i * t.size + j]? = some u := by
  unfold elemsX at h
  split at h
  · rename_i z
    split at h
    · rename_i hs _
      cases h
      obtain ⟨hs⟩ := hs
      subst hs
      cases hv
      refine ⟨?_, z.data.toList.map (fun b => .int .u8 b.toNat), by simp [Ty.size, castL], ?_, fun w' _ => ?_, fun i x hx => ?_⟩
      · simp only [Builtin.lenOf, castL, List.length_map, Sem.run_pure, Array.length_toList]; rfl
      · intro v hv
        obtain ⟨b, _, rfl⟩ := List.mem_map.1 hv
        rfl
      · have : (z.extract 0 z.data.toList.length).data = z.data := by simp
        simp only [Builtin.firstCells, castL, List.length_map, Sem.run_pure]
        rw [this]
        congr 1
        rw [← Array.toList_map]
      · simp only [castL, List.getElem?_map] at hx
        cases hi : z.data.toList[i]? with
        | none => rw [hi] at hx; cases hx
        | some b =>
          rw [hi] at hx; cases hx
          refine ⟨[.int .u8 b.toNat], rfl, fun j u hu => ?_⟩
          have hj : j = 0 := by have := (List.getElem?_eq_some_iff.1 hu).1; simpa using this
          subst hj
          simp only [Ty.size, Nat.mul_one, Nat.add_zero, List.getElem?_map, hi]
          exact hu
    · cases h
  · rename_i hne
    have h1 := elems_at hp.blk h hv
    obtain ⟨vs, g⟩ := slice_cells (P := P) h1
    obtain ⟨a, c, rfl, _⟩ := h1
    exact ⟨rfl, vs, g⟩

theorem nextcap_le {need old : Nat} (h : old < need) : Builtin.nextslicecap need old ≤ need + need / 4 + 1024 := by
  unfold Builtin.nextslicecap
  split
  · omega
  · split
    · omega
    · have : ∀ r c, c ≤ need + need / 4 + 1024 → Builtin.growBy need r c ≤ need + need / 4 + 1024 := by
        intro r
        induction r with
        | zero => intro c hc; exact hc
        | succ r ih =>
          intro c hc
          simp only [Builtin.growBy]
          split
          · exact hc
          · exact ih _ (by omega)
      exact this 4 old (by omega)

/-- No type of ints. -/
def notInt (P : Program) (t : TypeId) : Prop := ∃ d, P.underlying t = some d ∧ ∀ k, d ≠ .int k

theorem run_append_in {t t2 e : TypeId} {te : TI} {ts : Array TypeId} {ty : TypeId} {w : World} {base : Option Addr} {sl sc n : Nat} {x : Value} {new : Array Value} (ht : ts[0]? = some t) (ht2 : ts[1]? = some t2) (hu : P.underlying t = some (.slice e)) (he : TOk P e te)
    (hn2 : notInt P t2) (hn : (Builtin.lenOf x).run P w = .ok n w) (hx : (Builtin.firstCells te.size n x).run P w = .ok new w) (hle : sl + n ≤ sc) :
    (Builtin.append_ ts ty #[.slice base sl sc, x]).run P w = ((match base with
      | some a => storeCells (a.add (sl * te.size)) new.toList
      | none => pure () : Sem Unit).run P w).andThen fun _ w' => .ok (.slice base (sl + n) sc) w' := by
  obtain ⟨d, hd, hd2⟩ := hn2
  have hz : (match d with | .int _ => true | _ => false) = false := by cases d <;> first | rfl | exact absurd rfl (hd2 _)
  simp only [Builtin.append_, ht, ht2, List.getElem?_toArray, List.getElem?_cons_zero, List.getElem?_cons_succ, Sem.run_bind, run_underlying hu, Result.andThen_ok, run_sizeOf he, run_underlying hd, Sem.run_pure]
  simp only [Bool.false_eq_true, if_false, Sem.run_bind, hn, Result.andThen_ok, if_pos hle, Bool.not_false, if_true, hx]
  cases base <;> simp

theorem run_append_new {t t2 e : TypeId} {te : TI} {ts : Array TypeId} {ty : TypeId} {w : World} {base : Option Addr} {sl sc n : Nat} {x z : Value} {new old : Array Value} (ht : ts[0]? = some t) (ht2 : ts[1]? = some t2) (hu : P.underlying t = some (.slice e)) (he : TOk P e te)
    (hn2 : notInt P t2) (hn : (Builtin.lenOf x).run P w = .ok n w) (hx : ∀ w', w'.heap = w.heap → (Builtin.firstCells te.size n x).run P w' = .ok new w') (ho : ∀ w', w'.heap = w.heap → (Builtin.firstCells te.size sl (.slice base sl sc)).run P w' = .ok old w') (hz : ∀ w, (zeroValue e).run P w = .ok z w)
    (hle : sc < sl + n) (hb : 0 < te.bytes ∧ te.bytes ≤ 100) (hm : (sl + n) * te.bytes ≤ 140738562097152) :
    ∃ cap, sl + n ≤ cap ∧ (Builtin.append_ ts ty #[.slice base sl sc, x]).run P w = .ok (.slice (some ⟨w.heap.size, 0, none⟩) (sl + n) cap)
      { w with drawn := w.drawn + 1, heap := w.heap.push (.cells (old ++ new ++ Builtin.zeroCells z.cells (cap - (sl + n))) e) } := by
  obtain ⟨d, hd, hd2⟩ := hn2
  obtain ⟨info, i1, i2, i3, i4⟩ := id he
  have hcap := nextcap_le hle
  have hib : info.bytes = te.bytes := by omega
  rw [← hib] at hb hm
  have hbig : ¬ (Builtin.nextslicecap (sl + n) sc * info.bytes > 2 ^ 48) := by
    have h1 := Nat.mul_le_mul_right info.bytes hcap
    have h2 : ((sl + n) + (sl + n) / 4 + 1024) * info.bytes = (sl + n) * info.bytes + (sl + n) / 4 * info.bytes + 1024 * info.bytes := by rw [Nat.add_mul, Nat.add_mul]
    have h3 : (sl + n) / 4 * info.bytes * 4 ≤ (sl + n) * info.bytes := by
      rw [Nat.mul_right_comm]; exact Nat.mul_le_mul_right _ (Nat.div_mul_le_self _ _)
    omega
  have hlen : sl + n ≤ (sl + n) * info.bytes := Nat.le_mul_of_pos_right _ hb.1
  have hmax : ¬ (((sl + n : Nat) : Int) > IntKind.i64.max ∧ (False ∨ info.bytes = 0)) := by
    intro h
    have h2 := h.1
    simp only [IntKind.max, IntKind.signed, IntKind.bits, if_true] at h2
    omega
  refine ⟨(Question.appendCap (sl + n) sc e).cut (w.tape w.drawn (.appendCap (sl + n) sc e)), by simp only [Question.cut]; omega, ?_⟩
  simp only [Builtin.append_, ht, ht2, List.getElem?_toArray, List.getElem?_cons_zero, List.getElem?_cons_succ, Sem.run_bind, run_underlying hu, Result.andThen_ok, run_sizeOf he, run_underlying hd, Sem.run_pure]
  simp only [Bool.false_eq_true, if_false, Sem.run_bind, hn, Result.andThen_ok, if_neg (show ¬ sl + n ≤ sc by omega), Bool.not_false, if_true, run_typeInfo i1]
  rw [if_neg (by simpa using hmax)]
  simp only [Sem.run_bind, run_typeInfo i1, Result.andThen_ok]
  rw [if_neg hbig]
  simp only [Sem.run_bind, run_choose, Question.forced, Bool.false_eq_true, if_false, Result.andThen_ok, run_typeInfo i1, run_askRoom, hz, newRow, run_newObj, Sem.run_pure]
  rw [ho { w with drawn := w.drawn + 1 } rfl]
  simp only [Result.andThen_ok]
  rw [hx { w with drawn := w.drawn + 1 } rfl]
  rfl

end
end Go.Rex
/- Rex, part U: append and copy, in whole. -/
namespace Go.Rex

theorem zeroCells_size (z : Array Value) (n : Nat) : (Builtin.zeroCells z n).size = n * z.size := by simp [Builtin.zeroCells]

section
variable {P : Program} {C : Ctx} {look : Look} {evv : Operand → AV} {nb : Nat} {ρ : Type} {K : Eff → Option ρ} {r : ρ} {fuel : Nat}

/-- Cells of two lists, one behind the other. -/
theorem two_cells {R : Nat → Prop} {w : World} {t : Ty} {xs ys : List t.den} {cs : Array Value} {off : Nat}
    (h1 : ∀ (i : Nat) x, xs[i]? = some x → ∃ l, Enc R w t x l ∧ ∀ (j : Nat) u, l[j]? = some u → cs[off + (i * t.size + j)]? = some u)
    (h2 : ∀ (i : Nat) x, ys[i]? = some x → ∃ l, Enc R w t x l ∧ ∀ (j : Nat) u, l[j]? = some u → cs[off + ((xs.length + i) * t.size + j)]? = some u) :
    ∀ (i : Nat) x, (xs ++ ys)[i]? = some x → ∃ l, Enc R w t x l ∧ ∀ (j : Nat) u, l[j]? = some u → cs[off + (i * t.size + j)]? = some u := by
  intro i x hx
  by_cases hi : i < xs.length
  · rw [List.getElem?_append_left hi] at hx
    exact h1 i x hx
  · rw [List.getElem?_append_right (by omega)] at hx
    have := h2 _ x hx
    rwa [show xs.length + (i - xs.length) = i by omega] at this

theorem append_get {a b c : Array Value} {i : Nat} {l : List Value} (h : b = l.toArray) {u : Value} (hu : l[i]? = some u) : (a ++ b ++ c)[a.size + i]? = some u := by
  subst h
  have := (List.getElem?_eq_some_iff.1 hu).1
  rw [Array.getElem?_append_left (by simp; omega), Array.getElem?_append_right (by omega)]
  simpa using hu

theorem append_get0 {a b c : Array Value} {i : Nat} {l : List Value} (h : a = l.toArray) {u : Value} (hu : l[i]? = some u) : (a ++ b ++ c)[i]? = some u := by
  subst h
  have := (List.getElem?_eq_some_iff.1 hu).1
  rw [Array.getElem?_append_left (by simp; omega), Array.getElem?_append_left (by simp; omega)]
  simpa using hu

theorem append_sound {o : Oper} {c : Call} (hT : TabOk P C) (ho : o.op = .call c) (hc : c.callee = .builtin .append) {s x : AV0} {t t2 e : TypeId} {te : TI} {ag : Bool} {sz by' : Nat} {z0 : List AV0} {ty : Ty} (ha : c.args.toList.map evv = [.v (false, [s]), .v (false, [x])]) (ht : c.argTypes.toList = [t, t2])
    (htt : get t C.T = some ⟨.slice e, ag, sz, by', z0, ty⟩) (hte : get e C.T = some te) {xs ys : List te.ty.den} {us vs : List (Nat × Option Blk)} (hxs : elems look te.ty s = some (xs, us)) (hys : elemsX look te.ty x = some (ys, vs))
    (hown : isOwn look s = true) (hb : 0 < te.bytes ∧ te.bytes ≤ 100) (hsz : te.size = te.ty.size) (hn2 : notInt P t2) (hm : (xs.length + ys.length) * te.bytes ≤ 140738562097152) :
    Sound P C.gl look evv nb o ⟨.one (.sl nb 0 none), us.map (fun p => (p.1, none)) ++ [(nb, some (.arr te.ty (xs ++ ys) .full))]⟩ := by
  intro m R w f hp hr
  rw [ho] at hr
  obtain ⟨hl, hg⟩ := args_of ha hr
  obtain ⟨sv, g1, g2⟩ := hg 0 _ rfl
  obtain ⟨xv, g3, g4⟩ := hg 1 _ rfl
  have hargs : c.args.map f = #[sv, xv] := by
    apply Array.ext_getElem?
    intro i
    have h0 : (c.args.map f).size = 2 := by simpa using hl
    match i with
    | 0 => simpa using g1
    | 1 => simpa using g3
    | i + 2 => rw [Array.getElem?_eq_none (by omega)]; simp
  have ht0 : c.argTypes[0]? = some t := by
    have : c.argTypes.toList[0]? = some t := by rw [ht]; rfl
    simpa using this
  have ht1 : c.argTypes[1]? = some t2 := by
    have : c.argTypes.toList[1]? = some t2 := by rw [ht]; rfl
    simpa using this
  have hok := hT e te hte
  obtain ⟨_, _, _, _, _, hu, _⟩ := hT t _ htt
  obtain ⟨info, hinfo, _, _, _, _, _, z, i7, i8, i9⟩ := id hok
  have hzrun : ∀ w, (zeroValue e).run P w = .ok z w := fun w => by
    simp [zeroValue, typeInfo, hinfo, i7]
  have hzs : z.cells.size = te.ty.size := by
    have := (i9 R w hsz.symm).length
    simpa using this
  have hsa := elems_at hp.blk hxs g2
  obtain ⟨old, o1, o2, o3, o4⟩ := slice_cells (P := P) hsa
  obtain ⟨a, cp, e1', hcp, hsh⟩ := id hsa
  subst e1'
  obtain ⟨n1, new, n2, n3, n4, n5⟩ := elemsX_rel (P := P) hp hys g4
  obtain ⟨consts, hrun⟩ := run_builtin (P := P) (f := f) (w := w) ho hc
  rw [hargs] at hrun
  have hex : ∀ v w', (Builtin.append_ c.argTypes o.type #[.slice a xs.length cp, xv]).run P w = .ok v w' → (execOp f o).run P w = .ok (.value v) w' := by
    intro v w' h
    rw [hrun]
    simp only [builtin, Sem.run_bind, h, Result.andThen_ok, Sem.run_pure]
  have hfree := hp.free nb (Nat.le_refl _) (by omega)
  by_cases hle : xs.length + ys.length ≤ cp
  · -- in place
    have hri := run_append_in (P := P) (ty := o.type) (base := a) (x := xv) ht0 ht1 hu hok hn2 n1 (by rw [hsz]; exact n4 w rfl) hle
    have hnone : ∀ {m' : Map}, a = none → cp = 0 → xs.length + ys.length = 0 ∧ (execOp f o).run P w = .ok (.value (.slice none 0 0)) w := by
      intro m' ha0 hc0
      subst ha0; subst hc0
      have h0 : xs.length + ys.length = 0 := by omega
      refine ⟨h0, hex _ _ ?_⟩
      rw [hri, h0]; rfl
    have hBn : ∀ {R' : Nat → Prop} {m' : Map}, xs.length + ys.length = 0 → BRel R' m' w ⟨none, 0, 0, te.ty.size, 0⟩ (.arr te.ty (xs ++ ys) .full) := by
      intro R' m' h0
      have h1 : xs ++ ys = [] := List.length_eq_zero_iff.1 (by rw [List.length_append]; exact h0)
      rw [h1]
      exact ⟨rfl, rfl, fun _ => rfl, fun c' hc' => (by cases hc')⟩
    have hvn : ∀ {R' : Nat → Prop}, AVRel R' (setM m nb ⟨none, 0, 0, te.ty.size, 0⟩) w (.one (.sl nb 0 none)) (.slice none 0 0) := by
      intro R'
      exact ⟨_, setM_same _ _ _, _, _, _, rfl, Nat.le_refl _, Nat.le_refl _, fun _ => rfl, fun q hq => (by cases hq), fun _ => ⟨rfl, rfl⟩, fun c' hc' => (by cases hc')⟩
    unfold isOwn at hown
    split at hown
    · rename_i b p q
      split at hown
      · rename_i u0 zs hlb
        have hus : u0 = te.ty ∧ us = [(b, some (.arr u0 zs .fz))] := by
          unfold elems at hxs
          simp only [hlb] at hxs
          split at hxs
          · rename_i hh _; cases hxs; exact ⟨hh.down, rfl⟩
          · cases hxs
        obtain ⟨rfl, rfl⟩ := hus
        obtain ⟨L0, hL0, hsr⟩ := g2
        obtain ⟨L0', hL0', hB0⟩ := hp.blk _ _ hlb
        rw [hL0] at hL0'; cases hL0'
        obtain ⟨a', ln, cp', e2, s1, s2, s3, s4, s5, s6⟩ := hsr
        cases e2
        obtain ⟨b1, b2, b3, b4⟩ := hB0
        cases hLc : L0.c with
        | none =>
          obtain ⟨rfl, rfl⟩ := s5 hLc
          obtain ⟨h0, hr0⟩ := hnone (m' := m) rfl rfl
          exact Outcome.value hr0 ⟨_, R, Post.moved (B0 := .arr te.ty zs .full) hp hlb hL0 rfl (Keeps.refl _ _) (fun c' hc' => (by cases hc')) rfl (hBn h0) hvn⟩
        | some cc =>
          obtain ⟨k1, ad, rfl, k2⟩ := s6 cc hLc
          obtain ⟨cs, ce, fr, c1, c2, c3, c4, c5⟩ := b4 cc hLc
          obtain rfl := c4 (fun h => (by cases h))
          have hpo : L0.off + p * L0.sz ≤ L0.ext := by
            have := Nat.mul_le_mul_right L0.sz s2; omega
          -- what is written
          have hw : ∃ w' cs', (storeCells (ad.add (xs.length * te.size)) new.toArray.toList).run P w = .ok () w' ∧ Keeps (fun k _ => L0.c = some k) w w' ∧ w'.heap[cc]? = some (.cells cs' ce (0, 0)) ∧ cs'.size = cs.size ∧
              (∀ j, j < new.length → cs'[L0.off + p * L0.sz + (xs.length * te.ty.size + j)]? = new[j]?) ∧ (∀ j, j < L0.off + p * L0.sz + xs.length * te.ty.size → cs'[j]? = cs[j]?) ∧ (cp ≠ 0 → L0.off + p * L0.sz + (xs.length + ys.length) * te.ty.size ≤ L0.ext) := by
            by_cases hcz : cp = 0
            · have hn0 : new = [] := List.length_eq_zero_iff.1 (by rw [n2, show ys.length = 0 by omega, Nat.zero_mul])
              subst hn0
              exact ⟨w, cs, rfl, Keeps.refl _ _, c1, rfl, fun j hj => (by simp at hj), fun _ _ => rfl, fun h => absurd hcz h⟩
            · obtain ⟨rfl, k3⟩ := k2 hcz
              have hfit : L0.off + p * L0.sz + (xs.length + ys.length) * te.ty.size ≤ L0.ext := by
                rw [b2] at k3 ⊢
                have := Nat.mul_le_mul_right te.ty.size (show p + (xs.length + ys.length) ≤ p + cp by omega)
                rw [Nat.add_mul] at this; omega
              obtain ⟨w', cs', d1, d2, d3, d4, d5, d6⟩ := run_storeCells (P := P) (c := cc) (o := L0.off + p * L0.sz + xs.length * te.ty.size) (e := ce) new 0 w cs c1 (by rw [n2, c2]; rw [Nat.add_mul] at hfit; omega) n3
              refine ⟨w', cs', ?_, d2.mono fun k _ j hx => by rw [hLc, hx.1], d3, d4, fun j hj => ?_, fun j hj => d6 j (.inl (by omega)), fun _ => hfit⟩
              · rw [addr_add rfl, hsz]; exact d1
              · have := d5 j hj
                rw [show L0.off + p * L0.sz + (xs.length * te.ty.size + j) = L0.off + p * L0.sz + xs.length * te.ty.size + 0 + j by omega]; exact this
          obtain ⟨w', cs', d1, d2, d3, d4, d5, d6, d7⟩ := hw
          have hrun' : (execOp f o).run P w = .ok (.value (.slice (some ad) (xs.length + ys.length) cp)) w' := hex _ _ (by rw [hri]; simp only [d1]; rfl)
          have hsame : Same R w w' := fun k hR => d2.same (hp.rsize k hR) fun _ h => hp.rw b _ L0 k hlb (fun h => (by cases h)) hL0 h hR
          refine Outcome.value hrun' ⟨setM m nb ⟨some cc, L0.off + p * L0.sz, xs.length + ys.length, te.ty.size, L0.ext⟩, R, Post.moved (B0 := .arr te.ty zs .full) hp hlb hL0 rfl d2 (fun c' hc' => .inr ?_) rfl ?_ ?_⟩
          · cases hc'; exact hLc
          · refine ⟨by simp, rfl, fun h => (by cases h), fun c' hc' => ?_⟩
            cases hc'
            refine ⟨cs', ce, (0, 0), d3, by rw [d4, c2], ?_, fun _ => rfl, ?_⟩
            · by_cases hcz : cp = 0
              · show L0.off + p * L0.sz + (xs.length + ys.length) * te.ty.size ≤ L0.ext
                rw [show xs.length + ys.length = 0 by omega]; omega
              · exact d7 hcz
            · refine two_cells (fun i y hy => ?_) fun i y hy => ?_
              · have hxn : xs ≠ [] := by rintro rfl; simp at hy
                have hi : i < xs.length := (List.getElem?_eq_some_iff.1 hy).1
                obtain ⟨ad', e3, _, hcell⟩ := hsh hxn
                cases e3
                obtain ⟨rfl, _⟩ := k2 (by omega)
                obtain ⟨l, q1, q2⟩ := hcell i y hy
                refine ⟨l, q1.mono (fun _ h => h) hsame, fun j u hu => ?_⟩
                have hj : j < te.ty.size := by rw [← q1.length]; exact (List.getElem?_eq_some_iff.1 hu).1
                have hlt := mul_le' (s := te.ty.size) hi
                show cs'[L0.off + p * L0.sz + (i * te.ty.size + j)]? = some u
                rw [d6 _ (by omega), ← cell_of c1]
                exact q2 j u hu
              · obtain ⟨l, q1, q2⟩ := n5 i y hy
                refine ⟨l, q1.mono (fun _ h => h) hsame, fun j u hu => ?_⟩
                have hq := q2 j u hu
                have := d5 (i * te.ty.size + j) (List.getElem?_eq_some_iff.1 hq).1
                show cs'[L0.off + p * L0.sz + ((xs.length + i) * te.ty.size + j)]? = some u
                rw [show (xs.length + i) * te.ty.size + j = xs.length * te.ty.size + (i * te.ty.size + j) by rw [Nat.add_mul]; omega, this]; exact hq
          · refine ⟨_, setM_same _ _ _, _, _, _, rfl, hle, Nat.zero_le _, fun _ => rfl, fun q hq => (by cases hq), fun h => (by cases h), fun c' hc' => ?_⟩
            cases hc'
            refine ⟨by show xs.length + ys.length ≤ 0 + cp; omega, ad, rfl, fun hcz => ?_⟩
            obtain ⟨rfl, k3⟩ := k2 hcz
            refine ⟨by simp, ?_⟩
            show L0.off + p * L0.sz + (0 + cp) * te.ty.size ≤ L0.ext
            rw [Nat.zero_add]
            rw [Nat.add_mul, b2] at k3
            rw [b2]; omega
      · cases hown
    · have hus : xs = [] ∧ us = [] := by
        unfold elems at hxs
        cases hxs; exact ⟨rfl, rfl⟩
      obtain ⟨_, rfl⟩ := hus
      have g2' : Value.slice a xs.length cp = .slice none 0 0 := g2
      obtain ⟨h0, hr0⟩ := hnone (m' := m) (by injection g2') (by injection g2')
      refine Outcome.value hr0 ⟨_, _, Post.new (dems := []) hp (fun _ h => by cases h) (Keeps.refl _ _) (fun c' hc' => (by cases hc')) (fun h => (by cases h)) (hBn h0) hvn⟩
    · cases hown
  · -- elsewhere
    obtain ⟨cap, hcap, hrn⟩ := run_append_new (P := P) (ty := o.type) (base := a) (x := xv) ht0 ht1 hu hok hn2 n1 (by rw [hsz]; exact n4) (by rw [hsz]; exact o3) hzrun (by omega) hb hm
    have hk : Keeps (fun _ _ => False) w { w with drawn := w.drawn + 1, heap := w.heap.push (.cells (old.toArray ++ new.toArray ++ Builtin.zeroCells z.cells (cap - (xs.length + ys.length))) e) } :=
      (Keeps.drew _ w (w.drawn + 1)).trans' (Keeps.alloc _ { w with drawn := w.drawn + 1 } _)
    have hsame : ∀ {R' : Nat → Prop}, (∀ k, R' k → R k) → Same R' w { w with drawn := w.drawn + 1, heap := w.heap.push (.cells (old.toArray ++ new.toArray ++ Builtin.zeroCells z.cells (cap - (xs.length + ys.length))) e) } :=
      fun hR k hk' => hk.same (hp.rsize k (hR k hk')) fun _ h => h
    have hBR : ∀ {R' : Nat → Prop} {m'}, (∀ k, R k → R' k) → (∀ k, R' k → R k) → BRel R' m' { w with drawn := w.drawn + 1, heap := w.heap.push (.cells (old.toArray ++ new.toArray ++ Builtin.zeroCells z.cells (cap - (xs.length + ys.length))) e) }
        ⟨some w.heap.size, 0, xs.length + ys.length, te.ty.size, cap * te.ty.size⟩ (.arr te.ty (xs ++ ys) .full) := by
      intro R' m' hR1 hR2
      have hsz1 : (xs.length + ys.length + (cap - (xs.length + ys.length))) * te.ty.size = cap * te.ty.size := by congr 1; omega
      refine ⟨by simp, rfl, fun h => (by cases h), fun c' hc' => ?_⟩
      cases hc'
      refine ⟨_, e, (0, 0), by show (w.heap.push _)[w.heap.size]? = _; rw [Array.getElem?_push_size], ?_, ?_, fun _ => rfl, ?_⟩
      · simp only [Array.size_append, List.size_toArray, o1, n2, zeroCells_size, hzs, ← hsz1, Nat.add_mul]
      · show 0 + (xs.length + ys.length) * te.ty.size ≤ cap * te.ty.size
        rw [Nat.zero_add]; exact Nat.mul_le_mul_right _ hcap
      · refine two_cells (fun i y hy => ?_) fun i y hy => ?_
        · obtain ⟨l, q1, q2⟩ := o4 i y hy
          exact ⟨l, q1.mono hR1 (hsame fun _ h => h), fun j u hu => by rw [Nat.zero_add]; exact append_get0 rfl (q2 j u hu)⟩
        · obtain ⟨l, q1, q2⟩ := n5 i y hy
          refine ⟨l, q1.mono hR1 (hsame fun _ h => h), fun j u hu => ?_⟩
          have := append_get (a := old.toArray) (b := new.toArray) (c := Builtin.zeroCells z.cells (cap - (xs.length + ys.length))) rfl (q2 j u hu)
          rw [List.size_toArray, o1] at this
          rw [Nat.zero_add, Nat.add_mul, Nat.add_assoc]; exact this
    have hvr : ∀ {R' : Nat → Prop} {w'}, AVRel R' (setM m nb ⟨some w.heap.size, 0, xs.length + ys.length, te.ty.size, cap * te.ty.size⟩) w' (.one (.sl nb 0 none)) (.slice (some ⟨w.heap.size, 0, none⟩) (xs.length + ys.length) cap) := by
      intro R' w'
      refine ⟨_, setM_same _ _ _, _, _, _, rfl, hcap, Nat.zero_le _, fun _ => rfl, fun q hq => (by cases hq), fun h => (by cases h), fun c' hc' => ?_⟩
      cases hc'
      exact ⟨by show xs.length + ys.length ≤ 0 + cap; omega, _, rfl, fun _ => ⟨by simp, by simp⟩⟩
    refine Outcome.value (hex _ _ hrn) ?_
    unfold isOwn at hown
    split at hown
    · rename_i b p q
      split at hown
      · rename_i u0 zs hlb
        have hus : us = [(b, some (.arr u0 zs .fz))] := by
          unfold elems at hxs
          simp only [hlb] at hxs
          split at hxs
          · cases hxs; rfl
          · cases hxs
        subst hus
        obtain ⟨L0, hL0, _⟩ := g2
        refine ⟨_, R, Post.moved (B0 := .arr u0 zs .full) hp hlb hL0 rfl (hk.mono fun _ _ _ h => h.elim) (fun c' hc' => .inl ?_) rfl (hBR (fun _ h => h) fun _ h => h) hvr⟩
        cases hc'; simp
      · cases hown
    · have hus : us = [] := by
        unfold elems at hxs
        cases hxs; rfl
      subst hus
      refine ⟨_, _, Post.new (dems := []) hp (fun _ h => by cases h) hk (fun c' hc' => ?_) (fun h => (by cases h)) (hBR (fun _ h => .inl h) fun k h => h.elim id fun ⟨_, _, _, h, _⟩ => (by cases h)) hvr⟩
      cases hc'; simp
    · cases hown

/-- The same, where both lists are read on: neither is written from now on. -/
theorem append_keep {o : Oper} {c : Call} (hT : TabOk P C) (ho : o.op = .call c) (hc : c.callee = .builtin .append) {s x : AV0} {t t2 e : TypeId} {te : TI} {ag : Bool} {sz by' : Nat} {z0 : List AV0} {ty : Ty} (ha : c.args.toList.map evv = [.v (false, [s]), .v (false, [x])]) (ht : c.argTypes.toList = [t, t2])
    (htt : get t C.T = some ⟨.slice e, ag, sz, by', z0, ty⟩) (hte : get e C.T = some te) {xs ys : List te.ty.den} {us vs : List (Nat × Option Blk)} (hxs : elems look te.ty s = some (xs, us)) (hys : elemsX look te.ty x = some (ys, vs))
    (hown : isOwn look s = true) (hall : isAll s = true) (hb : 0 < te.bytes ∧ te.bytes ≤ 100) (hsz : te.size = te.ty.size) (hn2 : notInt P t2) (hm : (xs.length + ys.length) * te.bytes ≤ 140738562097152) :
    Sound P C.gl look evv nb o ⟨.one (.sl nb 0 none), us ++ [(nb, some (.arr te.ty (xs ++ ys) .fz))]⟩ := by
  intro m R w f hp hr
  rw [ho] at hr
  obtain ⟨hl, hg⟩ := args_of ha hr
  obtain ⟨sv, g1, g2⟩ := hg 0 _ rfl
  obtain ⟨xv, g3, g4⟩ := hg 1 _ rfl
  have hargs : c.args.map f = #[sv, xv] := by
    apply Array.ext_getElem?
    intro i
    have h0 : (c.args.map f).size = 2 := by simpa using hl
    match i with
    | 0 => simpa using g1
    | 1 => simpa using g3
    | i + 2 => rw [Array.getElem?_eq_none (by omega)]; simp
  have ht0 : c.argTypes[0]? = some t := by
    have : c.argTypes.toList[0]? = some t := by rw [ht]; rfl
    simpa using this
  have ht1 : c.argTypes[1]? = some t2 := by
    have : c.argTypes.toList[1]? = some t2 := by rw [ht]; rfl
    simpa using this
  have hok := hT e te hte
  obtain ⟨_, _, _, _, _, hu, _⟩ := hT t _ htt
  obtain ⟨info, hinfo, _, _, _, _, _, z, i7, i8, i9⟩ := id hok
  have hzrun : ∀ w, (zeroValue e).run P w = .ok z w := fun w => by
    simp [zeroValue, typeInfo, hinfo, i7]
  have hzs : z.cells.size = te.ty.size := by
    have := (i9 R w hsz.symm).length
    simpa using this
  have hsa := elems_at hp.blk hxs g2
  obtain ⟨old, o1, o2, o3, o4⟩ := slice_cells (P := P) hsa
  obtain ⟨a, cp, e1', hcp, hsh⟩ := id hsa
  subst e1'
  obtain ⟨n1, new, n2, n3, n4, n5⟩ := elemsX_rel (P := P) hp hys g4
  obtain ⟨consts, hrun⟩ := run_builtin (P := P) (f := f) (w := w) ho hc
  rw [hargs] at hrun
  have hex : ∀ v w', (Builtin.append_ c.argTypes o.type #[.slice a xs.length cp, xv]).run P w = .ok v w' → (execOp f o).run P w = .ok (.value v) w' := by
    intro v w' h
    rw [hrun]
    simp only [builtin, Sem.run_bind, h, Result.andThen_ok, Sem.run_pure]
  have hfree := hp.free nb (Nat.le_refl _) (by omega)
  -- the block that there is
  unfold isAll at hall
  split at hall
  · rename_i b p
    unfold isOwn at hown
    simp only at hown
    split at hown
    · rename_i u0 zs hlb
      have hus : u0 = te.ty ∧ us = [(b, some (.arr u0 zs .fz))] ∧ HEq (zs.drop p) xs := by
        unfold elems at hxs
        simp only [hlb] at hxs
        split at hxs
        · rename_i hh _
          obtain ⟨hh⟩ := hh
          subst hh
          cases hxs
          exact ⟨rfl, rfl, HEq.rfl⟩
        · cases hxs
      obtain ⟨rfl, rfl, hxe⟩ := hus
      have hxe : zs.drop p = xs := eq_of_heq hxe
      obtain ⟨L0, hL0, hsr⟩ := g2
      obtain ⟨L0', hL0', hB0⟩ := hp.blk _ _ hlb
      rw [hL0] at hL0'; cases hL0'
      obtain ⟨a', ln, cp', e2, s1, s2, s3, s4, s5, s6⟩ := hsr
      cases e2
      have hB0' := hB0
      obtain ⟨b1, b2, b3, b4⟩ := hB0
      have hpl : p ≤ zs.length := by omega
      have hxl : xs.length = L0.len - p := s3 rfl
      by_cases hle : xs.length + ys.length ≤ cp
      · have hri := run_append_in (P := P) (ty := o.type) (base := a) (x := xv) ht0 ht1 hu hok hn2 n1 (by rw [hsz]; exact n4 w rfl) hle
        cases hLc : L0.c with
        | none =>
          obtain ⟨rfl, rfl⟩ := s5 hLc
          have h0 : xs.length + ys.length = 0 := by omega
          have hr0 : (execOp f o).run P w = .ok (.value (.slice none 0 0)) w := hex _ _ (by rw [hri, h0]; rfl)
          have h1 : xs ++ ys = [] := List.length_eq_zero_iff.1 (by rw [List.length_append]; exact h0)
          refine Outcome.value hr0 ⟨setM m nb ⟨none, 0, 0, te.ty.size, 0⟩, R, Post.both (B0 := .arr te.ty zs .full) hp hlb hL0 rfl (Keeps.refl _ _) (fun c' hc' => (by cases hc')) rfl rfl (fun k => ⟨fun h => .inl h, fun h => ?_⟩) ?_ ?_ ?_⟩
          · rcases h with h | h | h
            · exact h
            · rw [hLc] at h; cases h
            · cases h
          · exact (hB0'.mono (fun _ h => h) (Same.refl _ _) (setM_ext hfree) fun _ _ => rfl).demote
          · rw [h1]
            exact ⟨rfl, rfl, fun _ => rfl, fun c' hc' => (by cases hc')⟩
          · exact ⟨_, setM_same _ _ _, _, _, _, rfl, Nat.le_refl _, Nat.le_refl _, fun _ => rfl, fun q hq => (by cases hq), fun _ => ⟨rfl, rfl⟩, fun c' hc' => (by cases hc')⟩
        | some cc =>
          obtain ⟨k1, ad, rfl, k2⟩ := s6 cc hLc
          obtain ⟨cs, ce, fr, c1, c2, c3, c4, c5⟩ := b4 cc hLc
          obtain rfl := c4 (fun h => (by cases h))
          have hpo : L0.off + p * L0.sz ≤ L0.ext := by
            have := Nat.mul_le_mul_right L0.sz s2; omega
          have hw : ∃ w' cs', (storeCells (ad.add (xs.length * te.size)) new.toArray.toList).run P w = .ok () w' ∧ Keeps (fun k _ => L0.c = some k) w w' ∧ w'.heap[cc]? = some (.cells cs' ce (0, 0)) ∧ cs'.size = cs.size ∧
              (∀ j, j < new.length → cs'[L0.off + p * L0.sz + (xs.length * te.ty.size + j)]? = new[j]?) ∧ (∀ j, j < L0.off + p * L0.sz + xs.length * te.ty.size → cs'[j]? = cs[j]?) ∧ (cp ≠ 0 → L0.off + p * L0.sz + (xs.length + ys.length) * te.ty.size ≤ L0.ext) := by
            by_cases hcz : cp = 0
            · have hn0 : new = [] := List.length_eq_zero_iff.1 (by rw [n2, show ys.length = 0 by omega, Nat.zero_mul])
              subst hn0
              exact ⟨w, cs, rfl, Keeps.refl _ _, c1, rfl, fun j hj => (by simp at hj), fun _ _ => rfl, fun h => absurd hcz h⟩
            · obtain ⟨rfl, k3⟩ := k2 hcz
              have hfit : L0.off + p * L0.sz + (xs.length + ys.length) * te.ty.size ≤ L0.ext := by
                rw [b2] at k3 ⊢
                have := Nat.mul_le_mul_right te.ty.size (show p + (xs.length + ys.length) ≤ p + cp by omega)
                rw [Nat.add_mul] at this; omega
              obtain ⟨w', cs', d1, d2, d3, d4, d5, d6⟩ := run_storeCells (P := P) (c := cc) (o := L0.off + p * L0.sz + xs.length * te.ty.size) (e := ce) new 0 w cs c1 (by rw [n2, c2]; rw [Nat.add_mul] at hfit; omega) n3
              refine ⟨w', cs', ?_, d2.mono fun k _ j hx => by rw [hLc, hx.1], d3, d4, fun j hj => ?_, fun j hj => d6 j (.inl (by omega)), fun _ => hfit⟩
              · rw [addr_add rfl, hsz]; exact d1
              · have := d5 j hj
                rw [show L0.off + p * L0.sz + (xs.length * te.ty.size + j) = L0.off + p * L0.sz + xs.length * te.ty.size + 0 + j by omega]; exact this
          obtain ⟨w', cs', d1, d2, d3, d4, d5, d6, d7⟩ := hw
          have hrun' : (execOp f o).run P w = .ok (.value (.slice (some ad) (xs.length + ys.length) cp)) w' := hex _ _ (by rw [hri]; simp only [d1]; rfl)
          have hsame : Same R w w' := fun k hR => d2.same (hp.rsize k hR) fun _ h => hp.rw b _ L0 k hlb (fun h => (by cases h)) hL0 h hR
          have hR' : ∀ k, R k → (R k ∨ cc = k) := fun _ h => .inl h
          refine Outcome.value hrun' ⟨setM m nb ⟨some cc, L0.off + p * L0.sz, xs.length + ys.length, te.ty.size, L0.ext⟩, fun k => R k ∨ cc = k, Post.both (B0 := .arr te.ty zs .full) hp hlb hL0 rfl d2 (fun c' hc' => .inr ?_) rfl rfl (fun k => ⟨fun h => h.imp id fun h => .inl (by rw [hLc, h]), fun h => h.imp id fun h => ?_⟩) ?_ ?_ ?_⟩
          · cases hc'; exact hLc
          · rcases h with h | h
            · rw [hLc] at h; cases h; rfl
            · cases h; rfl
          · refine ⟨b1, b2, b3, fun c' hc' => ?_⟩
            rw [hLc] at hc'; cases hc'
            refine ⟨cs', ce, (0, 0), d3, by rw [d4, c2], c3, fun h => absurd rfl h, fun i y hy => ?_⟩
            obtain ⟨l, q1, q2⟩ := c5 i y hy
            refine ⟨l, q1.mono hR' hsame, fun j u hu => ?_⟩
            have hi : i < zs.length := (List.getElem?_eq_some_iff.1 hy).1
            have hj : j < te.ty.size := by rw [← q1.length]; exact (List.getElem?_eq_some_iff.1 hu).1
            have hlt := mul_le' (s := te.ty.size) hi
            have e3 : zs.length * te.ty.size = p * L0.sz + xs.length * te.ty.size := by rw [b2, ← Nat.add_mul]; congr 1; omega
            rw [d6 _ (by omega)]
            exact q2 j u hu
          · refine ⟨by simp, rfl, fun h => (by cases h), fun c' hc' => ?_⟩
            cases hc'
            refine ⟨cs', ce, (0, 0), d3, by rw [d4, c2], ?_, fun h => absurd rfl h, ?_⟩
            · by_cases hcz : cp = 0
              · show L0.off + p * L0.sz + (xs.length + ys.length) * te.ty.size ≤ L0.ext
                rw [show xs.length + ys.length = 0 by omega]; omega
              · exact d7 hcz
            · refine two_cells (fun i y hy => ?_) fun i y hy => ?_
              · have hxn : xs ≠ [] := by rintro rfl; simp at hy
                have hi : i < xs.length := (List.getElem?_eq_some_iff.1 hy).1
                obtain ⟨ad', e3, _, hcell⟩ := hsh hxn
                cases e3
                obtain ⟨rfl, _⟩ := k2 (by omega)
                obtain ⟨l, q1, q2⟩ := hcell i y hy
                refine ⟨l, q1.mono hR' hsame, fun j u hu => ?_⟩
                have hj : j < te.ty.size := by rw [← q1.length]; exact (List.getElem?_eq_some_iff.1 hu).1
                have hlt := mul_le' (s := te.ty.size) hi
                show cs'[L0.off + p * L0.sz + (i * te.ty.size + j)]? = some u
                rw [d6 _ (by omega), ← cell_of c1]
                exact q2 j u hu
              · obtain ⟨l, q1, q2⟩ := n5 i y hy
                refine ⟨l, q1.mono hR' hsame, fun j u hu => ?_⟩
                have hq := q2 j u hu
                have := d5 (i * te.ty.size + j) (List.getElem?_eq_some_iff.1 hq).1
                show cs'[L0.off + p * L0.sz + ((xs.length + i) * te.ty.size + j)]? = some u
                rw [show (xs.length + i) * te.ty.size + j = xs.length * te.ty.size + (i * te.ty.size + j) by rw [Nat.add_mul]; omega, this]; exact hq
          · refine ⟨_, setM_same _ _ _, _, _, _, rfl, hle, Nat.zero_le _, fun _ => rfl, fun q hq => (by cases hq), fun h => (by cases h), fun c' hc' => ?_⟩
            cases hc'
            refine ⟨by show xs.length + ys.length ≤ 0 + cp; omega, ad, rfl, fun hcz => ?_⟩
            obtain ⟨rfl, k3⟩ := k2 hcz
            refine ⟨by simp, ?_⟩
            show L0.off + p * L0.sz + (0 + cp) * te.ty.size ≤ L0.ext
            rw [Nat.zero_add]
            rw [Nat.add_mul, b2] at k3
            rw [b2]; omega
      · -- elsewhere
        obtain ⟨cap, hcap, hrn⟩ := run_append_new (P := P) (ty := o.type) (base := a) (x := xv) ht0 ht1 hu hok hn2 n1 (by rw [hsz]; exact n4) (by rw [hsz]; exact o3) hzrun (by omega) hb hm
        have hk : Keeps (fun _ _ => False) w { w with drawn := w.drawn + 1, heap := w.heap.push (.cells (old.toArray ++ new.toArray ++ Builtin.zeroCells z.cells (cap - (xs.length + ys.length))) e) } :=
          (Keeps.drew _ w (w.drawn + 1)).trans' (Keeps.alloc _ { w with drawn := w.drawn + 1 } _)
        have hsame : Same R w { w with drawn := w.drawn + 1, heap := w.heap.push (.cells (old.toArray ++ new.toArray ++ Builtin.zeroCells z.cells (cap - (xs.length + ys.length))) e) } :=
          fun k hk' => hk.same (hp.rsize k hk') fun _ h => h
        have hR' : ∀ k, R k → (R k ∨ L0.c = some k ∨ some w.heap.size = some k) := fun _ h => .inl h
        refine Outcome.value (hex _ _ hrn) ⟨setM m nb ⟨some w.heap.size, 0, xs.length + ys.length, te.ty.size, cap * te.ty.size⟩, fun k => R k ∨ L0.c = some k ∨ some w.heap.size = some k, Post.both (B0 := .arr te.ty zs .full) hp hlb hL0 rfl (hk.mono fun _ _ _ h => h.elim) (fun c' hc' => .inl ?_) rfl rfl (fun k => Iff.rfl) ?_ ?_ ?_⟩
        · cases hc'; simp
        · exact (hB0'.mono hR' hsame (setM_ext hfree) fun c' hc' => hk.same (hB0'.lt hc') fun _ h => h).demote
        · have hsz1 : (xs.length + ys.length + (cap - (xs.length + ys.length))) * te.ty.size = cap * te.ty.size := by congr 1; omega
          refine ⟨by simp, rfl, fun h => (by cases h), fun c' hc' => ?_⟩
          cases hc'
          refine ⟨_, e, (0, 0), by show (w.heap.push _)[w.heap.size]? = _; rw [Array.getElem?_push_size], ?_, ?_, fun h => absurd rfl h, ?_⟩
          · simp only [Array.size_append, List.size_toArray, o1, n2, zeroCells_size, hzs, ← hsz1, Nat.add_mul]
          · show 0 + (xs.length + ys.length) * te.ty.size ≤ cap * te.ty.size
            rw [Nat.zero_add]; exact Nat.mul_le_mul_right _ hcap
          · refine two_cells (fun i y hy => ?_) fun i y hy => ?_
            · obtain ⟨l, q1, q2⟩ := o4 i y hy
              exact ⟨l, q1.mono hR' hsame, fun j u hu => by rw [Nat.zero_add]; exact append_get0 rfl (q2 j u hu)⟩
            · obtain ⟨l, q1, q2⟩ := n5 i y hy
              refine ⟨l, q1.mono hR' hsame, fun j u hu => ?_⟩
              have := append_get (a := old.toArray) (b := new.toArray) (c := Builtin.zeroCells z.cells (cap - (xs.length + ys.length))) rfl (q2 j u hu)
              rw [List.size_toArray, o1] at this
              rw [Nat.zero_add, Nat.add_mul, Nat.add_assoc]; exact this
        · refine ⟨_, setM_same _ _ _, _, _, _, rfl, hcap, Nat.zero_le _, fun _ => rfl, fun q hq => (by cases hq), fun h => (by cases h), fun c' hc' => ?_⟩
          cases hc'
          exact ⟨by show xs.length + ys.length ≤ 0 + cap; omega, _, rfl, fun _ => ⟨by simp, by simp⟩⟩
    · cases hown
  · cases hall

end
end Go.Rex
/- Rex: walks through a string. -/
namespace Go.Rex

section
variable {P : Program} {C : Ctx} {look : Look} {evv : Operand → AV} {nb : Nat} {ρ : Type} {K : Eff → Option ρ} {r : ρ} {fuel : Nat}

theorem step_range {o : Oper} {t : TypeId} {x : Operand} (hT : TabOk P C) (ho : o.op = .range t x) (h : step C fuel look evv nb (.range t x) K = some r) : Good P C look evv nb o K r := by
  simp only [step, cif_eq] at h
  split at h
  · rename_i s hx
    split at h
    · rename_i hs
      refine ⟨_, h, fun m R w f hp hr => ?_⟩
      have h1 : f x = .string s := one_rel hx (hr x (by rw [ho]; simp [Op.operands]))
      have hex : (execOp f o).run P w = .ok (.value (.pointer (some ⟨w.heap.size, 0, none⟩))) { w with heap := w.heap.push (.stringIter s 0) } := by
        unfold execOp; rw [ho]
        simp [h1, Instr.range, run_underlying (isStrT_ok hT hs)]
      refine Outcome.value hex ⟨setM m nb ⟨some w.heap.size, 0, 0, 1, 0⟩, Dem m [] R, Post.new (dems := []) hp (fun _ h => by cases h) (Keeps.alloc _ _ _) (fun c hc => ?_) (fun h => by cases h) ?_ ?_⟩
      · cases hc; simp
      · exact ⟨w.heap.size, rfl, rfl, by simp⟩
      · exact ⟨_, w.heap.size, setM_same _ _ _, rfl, rfl⟩
    · cases h
  · cases h

/-- An object that is no row of cells becomes another. -/
theorem Keeps.setObj {X : Nat → Nat → Prop} (w : World) {c : Nat} {o' : Obj} (o : Obj) (ho : w.heap[c]? = some o') (hn : ∀ cs e fr, o' ≠ .cells cs e fr) (h : ∀ j, X c j) : Keeps X w { w with heap := w.heap.setIfInBounds c o } := by
  refine ⟨rfl, rfl, rfl, by simp, fun k cs e fr hk => ?_, fun k o2 hk hj => ?_⟩
  · have hne : c ≠ k := by rintro rfl; rw [ho] at hk; cases hk; exact hn _ _ _ rfl
    exact ⟨cs, by show (w.heap.setIfInBounds c o)[k]? = _; rw [Array.getElem?_setIfInBounds_ne hne]; exact hk, rfl, fun _ _ => rfl⟩
  · have hne : c ≠ k := by rintro rfl; exact hj 0 (h 0)
    show (w.heap.setIfInBounds c o)[k]? = _
    rw [Array.getElem?_setIfInBounds_ne hne]; exact hk

theorem step_next {o : Oper} {x : Operand} {b : Bool} (ho : o.op = .next x b) (h : step C fuel look evv nb (.next x b) K = some r) : Good P C look evv nb o K r := by
  cases b with
  | false => simp [step] at h
  | true =>
    simp only [step] at h
    split at h
    · rename_i b hx
      split at h
      · rename_i s p hb
        have key : ∀ (m : Map) (R : Nat → Prop) (w : World) (f : Operand → Value), Pre C.gl look nb m R w → (∀ x ∈ o.op.operands, AVRel R m w (evv x) (f x)) → ∃ L c, m b = some L ∧ L.c = some c ∧ L.off = 0 ∧ f x = .pointer (some ⟨c, 0, none⟩) ∧ w.heap[c]? = some (.stringIter s p) := by
          intro m R w f hp hr
          obtain ⟨L, c, hL, hLc, hv⟩ := one_rel hx (hr x (by rw [ho]; simp [Op.operands]))
          obtain ⟨L', hL', hB⟩ := hp.blk _ _ hb
          rw [hL] at hL'; cases hL'
          obtain ⟨c', h1, h2, h3⟩ := hB
          rw [hLc] at h1; cases h1
          exact ⟨L, c, hL, hLc, h2, by rw [hv, h2], h3⟩
        split at h
        · rename_i hlt
          refine ⟨_, h, fun m R w f hp hr => ?_⟩
          obtain ⟨L, c, hL, hLc, hoff, hv, hh⟩ := key m R w f hp hr
          have hex : (execOp f o).run P w = .ok (.value (.tuple #[.bool true, .int .i64 (p : Int), .int .i32 (u8c s p)])) { w with heap := w.heap.setIfInBounds c (.stringIter s (p + u8w s p)) } := by
            unfold execOp; rw [ho]
            simp [hv, Instr.next, getObj, setObj, Sem.run, hh, hlt, goInt, u8c, u8w]
          have hcs : c < w.heap.size := (Array.getElem?_eq_some_iff.1 hh).1
          refine Outcome.value hex ⟨m, Dem m [] R, Post.write (B0 := .iter s p) (dems := []) hp (fun _ h => by cases h) hb hL (fun h => by cases h) rfl (fun _ h => by cases h) (Keeps.setObj w _ hh (fun _ _ _ h => by cases h) fun j => ⟨hLc, trivial⟩) ⟨c, hLc, hoff, ?_⟩ ?_⟩
          · show (w.heap.setIfInBounds c _)[c]? = _
            rw [Array.getElem?_setIfInBounds_self_of_lt hcs]
          · exact ⟨_, rfl, rfl, rfl, rfl, trivial⟩
        · rename_i hlt
          refine ⟨_, h, sound_value fun m R w f hp hr => ?_⟩
          obtain ⟨L, c, hL, hLc, hoff, hv, hh⟩ := key m R w f hp hr
          refine ⟨.tuple #[.bool false], ?_, _, rfl, rfl, trivial⟩
          unfold execOp; rw [ho]
          simp [hv, Instr.next, getObj, Sem.run, hh, hlt]
      · cases h
    · cases h

end
end Go.Rex
