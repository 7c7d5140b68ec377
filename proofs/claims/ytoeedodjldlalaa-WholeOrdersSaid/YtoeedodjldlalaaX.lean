/- The functions that the laws reach, as plain functions of Lean, each with its contract: printed by a program of this session's (RexGen). No conditions. -/
import Derived.Test.YtoeedodjldlalaaR2
import Derived.Test.YtoeedodjldlalaaProg
namespace Go.Proofs.Ytoeedodjldlalaa.X
open Go Go.Rex
set_option maxRecDepth 100000
set_option linter.unusedVariables false

noncomputable def GL : List (Nat × AV0) := []
noncomputable def TT : List (Nat × TI) := [(2, ⟨.int .i64, false, 1, 8, [.int .i64 0], (.int .i64)⟩),
  (3, ⟨.int .i64, false, 1, 8, [.int .i64 0], (.int .i64)⟩),
  (4, ⟨.bool, false, 1, 1, [.bool false], .bool⟩),
  (5, ⟨.int .u8, false, 1, 1, [.int .u8 0], (.int .u8)⟩),
  (6, ⟨.int .u8, false, 1, 1, [.int .u8 0], (.int .u8)⟩),
  (7, ⟨.struct [(0, 1, false), (1, 1, false), (2, 1, false), (3, 1, false)], true, 4, 24, [.int .i64 0, .int .i64 0, .bool false, .int .u8 0], (.pair (.int .i64) (.pair (.int .i64) (.pair .bool (.int .u8))))⟩),
  (8, ⟨.struct [(0, 1, false), (1, 1, false), (2, 1, false), (3, 1, false)], true, 4, 24, [.int .i64 0, .int .i64 0, .bool false, .int .u8 0], (.pair (.int .i64) (.pair (.int .i64) (.pair .bool (.int .u8))))⟩),
  (9, ⟨.str, false, 1, 16, [.str ByteArray.empty], .str⟩),
  (10, ⟨.str, false, 1, 16, [.str ByteArray.empty], .str⟩),
  (11, ⟨.str, false, 1, 16, [.str ByteArray.empty], .str⟩),
  (12, ⟨.int .u64, false, 1, 8, [.int .u64 0], (.int .u64)⟩),
  (13, ⟨.struct [(0, 1, false), (1, 1, false)], true, 2, 24, [.str ByteArray.empty, .int .u64 0], (.pair .str (.int .u64))⟩),
  (14, ⟨.struct [(0, 1, false), (1, 1, false)], true, 2, 24, [.str ByteArray.empty, .int .u64 0], (.pair .str (.int .u64))⟩),
  (21, ⟨.int .i32, false, 1, 4, [.int .i32 0], (.int .i32)⟩),
  (22, ⟨.slice 23, false, 1, 24, [.nils], (.sl (.int .u64))⟩),
  (23, ⟨.int .u64, false, 1, 8, [.int .u64 0], (.int .u64)⟩),
  (24, ⟨.int .i64, false, 1, 8, [.int .i64 0], (.int .i64)⟩),
  (27, ⟨.flt .f64, false, 1, 8, [.flt .f64 0], (.flt .f64)⟩),
  (33, ⟨.int .i64, false, 1, 8, [.int .i64 0], (.int .i64)⟩),
  (35, ⟨.slice 68, false, 1, 24, [.nils], (.sl (.int .u32))⟩),
  (36, ⟨.struct [(0, 1, false), (1, 1, false), (2, 1, false)], true, 3, 40, [.bool false, .nils, .int .i64 0], (.pair .bool (.pair (.sl (.int .u32)) (.int .i64)))⟩),
  (37, ⟨.struct [(0, 1, false), (1, 1, false), (2, 1, false)], true, 3, 40, [.bool false, .nils, .int .i64 0], (.pair .bool (.pair (.sl (.int .u32)) (.int .i64)))⟩),
  (43, ⟨.slice 27, false, 1, 24, [.nils], (.sl (.flt .f64))⟩),
  (48, ⟨.flt .f32, false, 1, 4, [.flt .f32 0], (.flt .f32)⟩),
  (65, ⟨.int .u64, false, 1, 8, [.int .u64 0], (.int .u64)⟩),
  (68, ⟨.int .u32, false, 1, 4, [.int .u32 0], (.int .u32)⟩),
  (80, ⟨.slice 48, false, 1, 24, [.nils], (.sl (.flt .f32))⟩),
  (88, ⟨.int .u8, false, 1, 1, [.int .u8 0], (.int .u8)⟩),
  (89, ⟨.int .u8, false, 1, 1, [.int .u8 0], (.int .u8)⟩),
  (92, ⟨.int .i32, false, 1, 4, [.int .i32 0], (.int .i32)⟩),
  (93, ⟨.int .i32, false, 1, 4, [.int .i32 0], (.int .i32)⟩)]
theorem seat_mixed : Go.Proofs.Try.prog.follows .mixedOrders = true := by kernel_rfl
theorem seat_tt : (TT.all fun p => tiB Go.Proofs.Try.prog p.1 p.2) = true := by kernel_rfl
theorem seat_ctx {F : List (Nat × Rex.Spec)} (h : SpecsOk Go.Proofs.Try.prog GL F) : CtxOk Go.Proofs.Try.prog ⟨TT, F, GL⟩ := ctx_ok seat_mixed seat_tt (by kernel_rfl) h
noncomputable def math_Float64frombits.sg : Sig := sgBF .u64 .f64
noncomputable def math_Float64frombits (k : Nat) (x : Int) : Option Int := fofF k x
theorem math_Float64frombits_ok : SpecOk Go.Proofs.Try.prog GL 6 ⟨math_Float64frombits.sg, math_Float64frombits⟩ := f64of_ok Go.Proofs.Try.func6 (by kernel_rfl) (by kernel_rfl) (by kernel_rfl) (by kernel_rfl)
noncomputable def sums_floats.sg : Sig := ⟨[(false, [.ro (.int .u64)])], [(false, [.fr (.flt .f64)]), (false, [.int .i64])]⟩
noncomputable def sums_floats.C : Ctx := ⟨TT, [(6, ⟨math_Float64frombits.sg, math_Float64frombits⟩)], GL⟩
noncomputable def sums_floats.h : H := (.node none .leaf (.node none .leaf (.node none .leaf (.node none (.node none .leaf (.node none (.node (some [(4, (.rw (.flt .f64))), (13, (.ro (.int .u64))), (14, .any), (15, .any)]) .leaf .leaf) .leaf)) .leaf))))
noncomputable def sums_floats : Nat → List Int → Option ((List Int) × Int) := vxFun sums_floats.C Go.Proofs.Try.f17 sums_floats.h sums_floats.sg
noncomputable def sums_floats.l0 (k n : Nat) (l0 : (List Int)) (x1 : Int) (x2 : Int) (l3 : (List Int)) : Option ((List Int) × Int) := vxAt sums_floats.C k [.b, .b, .b, .a, .b, .blk, .loop n] (bodyOf Go.Proofs.Try.f17) sums_floats.h (st0 [(4, .one (.sl 1000 0 none)), (13, .one (.ro (.int .u64) l0)), (14, .one (.int .i64 x1)), (15, .one (.int .i64 x2))] [(1000, .arr (.flt .f64) l3 .full)] 1001 27) (kret sums_floats.C Go.Proofs.Try.f17 sums_floats.sg)
theorem sums_floats_eq (k : Nat) (a0 : List Int) : sums_floats k a0 = (if decide ((a0.length : Int) > 65536) then some ([], 5) else (if 0 ≤ (a0.length : Int) ∧ ((8 : Int) * (a0.length : Int)) ≤ 281474976710656 then sums_floats.l0 k k a0 (a0.length : Int) 0 (List.replicate ((a0.length : Int).toNat) (0 : Int)) else none)) := by kernel_rfl
theorem sums_floats.l0_eq (k n : Nat) (l0 : (List Int)) (x1 : Int) (x2 : Int) (l3 : (List Int)) : sums_floats.l0 k (n + 1) l0 x1 x2 l3 = (if decide (x2 < x1) then (if 0 ≤ x2 ∧ x2 < (l0.length : Int) then ((math_Float64frombits k (l0.getD x2.toNat 0))).bind fun o0 => (if 0 ≤ x2 ∧ x2 < (l3.length : Int) then sums_floats.l0 k n l0 x1 (IntKind.i64.wrap (x2 + 1)) (l3.set x2.toNat o0) else none) else none) else some (l3, 0)) := by kernel_rfl
theorem sums_floats_ok : SpecOk Go.Proofs.Try.prog GL 17 ⟨sums_floats.sg, sums_floats⟩ := fn_ok2 sums_floats.C 17 Go.Proofs.Try.f17 sums_floats.sg sums_floats.h (seat_ctx (specs_cons math_Float64frombits_ok specs_nil)) Go.Proofs.Try.func17 (by kernel_rfl)
noncomputable def math_Float64bits.sg : Sig := sgFB .f64 .u64
noncomputable def math_Float64bits (k : Nat) (x : Int) : Option Int := fbitsF k x
theorem math_Float64bits_ok : SpecOk Go.Proofs.Try.prog GL 9 ⟨math_Float64bits.sg, math_Float64bits⟩ := f64bits_ok Go.Proofs.Try.func9 (by kernel_rfl) (by kernel_rfl) (by kernel_rfl) (by kernel_rfl)
noncomputable def sums_told.sg : Sig := ⟨[(false, [.flt .f64])], [(false, [.int .u64])]⟩
noncomputable def sums_told.C : Ctx := ⟨TT, [(9, ⟨math_Float64bits.sg, math_Float64bits⟩)], GL⟩
noncomputable def sums_told.h : H := .leaf
noncomputable def sums_told : Nat → Int → Option (Int) := vxFun sums_told.C Go.Proofs.Try.f18 sums_told.h sums_told.sg
theorem sums_told_eq (k : Nat) (a0 : Int) : sums_told k a0 = (if fCmp .neq .f64 a0 a0 then some 9221120237041090560 else ((math_Float64bits k a0)).bind fun o0 => some o0) := by kernel_rfl
theorem sums_told_ok : SpecOk Go.Proofs.Try.prog GL 18 ⟨sums_told.sg, sums_told⟩ := fn_ok2 sums_told.C 18 Go.Proofs.Try.f18 sums_told.sg sums_told.h (seat_ctx (specs_cons math_Float64bits_ok specs_nil)) Go.Proofs.Try.func18 (by kernel_rfl)
noncomputable def sums_Naive.sg : Sig := ⟨[(false, [.ro (.int .u64)])], [(false, [.int .u64]), (false, [.int .i64])]⟩
noncomputable def sums_Naive.C : Ctx := ⟨TT, [(17, ⟨sums_floats.sg, sums_floats⟩), (18, ⟨sums_told.sg, sums_told⟩)], GL⟩
noncomputable def sums_Naive.h : H := (.node none .leaf (.node none .leaf (.node none .leaf (.node none .leaf (.node none (.node none .leaf (.node none (.node (some [(6, .any), (26, (.rw (.flt .f64))), (27, .any), (28, .any)]) .leaf .leaf) .leaf)) .leaf)))))
noncomputable def sums_Naive : Nat → List Int → Option (Int × Int) := vxFun sums_Naive.C Go.Proofs.Try.f5 sums_Naive.h sums_Naive.sg
noncomputable def sums_Naive.l0 (k n : Nat) (x0 : Int) (x1 : Int) (x2 : Int) (l3 : (List Int)) : Option (Int × Int) := vxAt sums_Naive.C k [.b, .b, .b, .b, .a, .b, .blk, .loop n] (bodyOf Go.Proofs.Try.f5) sums_Naive.h (st0 [(6, .one (.flt .f64 x0)), (26, .one (.sl 1000 0 none)), (27, .one (.int .i64 x1)), (28, .one (.int .i64 x2))] [(1000, .arr (.flt .f64) l3 .full)] 1001 38) (kret sums_Naive.C Go.Proofs.Try.f5 sums_Naive.sg)
theorem sums_Naive_eq (k : Nat) (a0 : List Int) : sums_Naive k a0 = ((sums_floats k a0)).bind fun o0 => (if o0.2 != 0 then some (0, o0.2) else (if (o0.1.length : Int) == 0 then some (0, o0.2) else (if (0 : Int) ≤ 0 ∧ 0 < (o0.1.length : Int) then (if (0 : Int) ≤ 1 ∧ 1 ≤ (o0.1.length : Int) then sums_Naive.l0 k k (o0.1.getD 0 0) (((o0.1.length - 1) : Nat) : Int) 0 (o0.1.drop 1) else none) else none))) := by kernel_rfl
theorem sums_Naive.l0_eq (k n : Nat) (x0 : Int) (x1 : Int) (x2 : Int) (l3 : (List Int)) : sums_Naive.l0 k (n + 1) x0 x1 x2 l3 = (if decide (x2 < x1) then (if 0 ≤ x2 ∧ x2 < (l3.length : Int) then sums_Naive.l0 k n (fArith .add .f64 x0 (l3.getD x2.toNat 0)) x1 (IntKind.i64.wrap (x2 + 1)) l3 else none) else ((sums_told k x0)).bind fun o1 => some (o1, 0)) := by kernel_rfl
theorem sums_Naive_ok : SpecOk Go.Proofs.Try.prog GL 5 ⟨sums_Naive.sg, sums_Naive⟩ := fn_ok2 sums_Naive.C 5 Go.Proofs.Try.f5 sums_Naive.sg sums_Naive.h (seat_ctx (specs_cons sums_floats_ok (specs_cons sums_told_ok specs_nil))) Go.Proofs.Try.func5 (by kernel_rfl)
noncomputable def verniertop_told.sg : Sig := ⟨[(false, [.flt .f64])], [(false, [.int .u64])]⟩
noncomputable def verniertop_told.C : Ctx := ⟨TT, [(9, ⟨math_Float64bits.sg, math_Float64bits⟩)], GL⟩
noncomputable def verniertop_told.h : H := .leaf
noncomputable def verniertop_told : Nat → Int → Option (Int) := vxFun verniertop_told.C Go.Proofs.Try.f7 verniertop_told.h verniertop_told.sg
theorem verniertop_told_eq (k : Nat) (a0 : Int) : verniertop_told k a0 = (if fCmp .neq .f64 a0 a0 then some 9221120237041090560 else ((math_Float64bits k a0)).bind fun o0 => some o0) := by kernel_rfl
theorem verniertop_told_ok : SpecOk Go.Proofs.Try.prog GL 7 ⟨verniertop_told.sg, verniertop_told⟩ := fn_ok2 verniertop_told.C 7 Go.Proofs.Try.f7 verniertop_told.sg verniertop_told.h (seat_ctx (specs_cons math_Float64bits_ok specs_nil)) Go.Proofs.Try.func7 (by kernel_rfl)
noncomputable def verniertop_WholeOrders.sg : Sig := ⟨[(false, [.ro (.int .u64)])], [(false, [.bool])]⟩
noncomputable def verniertop_WholeOrders.C : Ctx := ⟨TT, [(5, ⟨sums_Naive.sg, sums_Naive⟩), (6, ⟨math_Float64frombits.sg, math_Float64frombits⟩), (7, ⟨verniertop_told.sg, verniertop_told⟩)], GL⟩
noncomputable def verniertop_WholeOrders.h : H := (.node none .leaf (.node none .leaf (.node (some [(0, (.ro (.int .u64)))]) .leaf (.node none .leaf (.node none (.node none .leaf (.node none (.node (some [(0, (.ro (.int .u64))), (5, .any), (24, (.ro (.int .u64))), (25, .any), (26, .any)]) .leaf .leaf) .leaf)) .leaf)))))
noncomputable def verniertop_WholeOrders : Nat → List Int → Option (Bool) := vxFun verniertop_WholeOrders.C Go.Proofs.Try.f3 verniertop_WholeOrders.h verniertop_WholeOrders.sg
noncomputable def verniertop_WholeOrders.j0 (k : Nat) (l0 : (List Int)) : Option (Bool) := vxAt verniertop_WholeOrders.C k [.b, .b] (bodyOf Go.Proofs.Try.f3) verniertop_WholeOrders.h (st0 [(0, .one (.ro (.int .u64) l0))] [] 1000 53) (kret verniertop_WholeOrders.C Go.Proofs.Try.f3 verniertop_WholeOrders.sg)
noncomputable def verniertop_WholeOrders.l1 (k n : Nat) (l0 : (List Int)) (x1 : Int) (l2 : (List Int)) (x3 : Int) (x4 : Int) : Option (Bool) := vxAt verniertop_WholeOrders.C k [.b, .b, .b, .b, .a, .b, .blk, .loop n] (bodyOf Go.Proofs.Try.f3) verniertop_WholeOrders.h (st0 [(0, .one (.ro (.int .u64) l0)), (5, .one (.flt .f64 x1)), (24, .one (.ro (.int .u64) l2)), (25, .one (.int .i64 x3)), (26, .one (.int .i64 x4))] [] 1000 53) (kret verniertop_WholeOrders.C Go.Proofs.Try.f3 verniertop_WholeOrders.sg)
theorem verniertop_WholeOrders_eq (k : Nat) (a0 : List Int) : verniertop_WholeOrders k a0 = ((sums_Naive k ((((List.replicate 3 (0 : Int)).set 0 4845873199050653696).set 1 4607182418800017408).set 2 4607182418800017408))).bind fun o0 => (if o0.2 != 0 then some false else (if o0.1 != 4845873199050653696 then some false else verniertop_WholeOrders.j0 k a0)) := by kernel_rfl
theorem verniertop_WholeOrders.j0_eq (k : Nat) (l0 : (List Int)) : verniertop_WholeOrders.j0 k l0 = (if decide ((l0.length : Int) > 65536) then some true else verniertop_WholeOrders.l1 k k l0 (0 : Int) l0 (l0.length : Int) 0) := by kernel_rfl
theorem verniertop_WholeOrders.l1_eq (k n : Nat) (l0 : (List Int)) (x1 : Int) (l2 : (List Int)) (x3 : Int) (x4 : Int) : verniertop_WholeOrders.l1 k (n + 1) l0 x1 l2 x3 x4 = (if decide (x4 < x3) then (if 0 ≤ x4 ∧ x4 < (l2.length : Int) then (if x4 == 0 then ((math_Float64frombits k (l2.getD x4.toNat 0))).bind fun o1 => verniertop_WholeOrders.l1 k n l0 o1 l2 x3 (IntKind.i64.wrap (x4 + 1)) else ((math_Float64frombits k (l2.getD x4.toNat 0))).bind fun o2 => verniertop_WholeOrders.l1 k n l0 (fArith .add .f64 x1 o2) l2 x3 (IntKind.i64.wrap (x4 + 1))) else none) else ((sums_Naive k l0)).bind fun o3 => (if o3.2 == 0 then ((verniertop_told k x1)).bind fun o4 => some (o3.1 == o4) else some false)) := by kernel_rfl
theorem verniertop_WholeOrders_ok : SpecOk Go.Proofs.Try.prog GL 3 ⟨verniertop_WholeOrders.sg, verniertop_WholeOrders⟩ := fn_ok2 verniertop_WholeOrders.C 3 Go.Proofs.Try.f3 verniertop_WholeOrders.sg verniertop_WholeOrders.h (seat_ctx (specs_cons sums_Naive_ok (specs_cons math_Float64frombits_ok (specs_cons verniertop_told_ok specs_nil)))) Go.Proofs.Try.func3 (by kernel_rfl)
end Go.Proofs.Ytoeedodjldlalaa.X
