/- The functions that the laws reach, as plain functions of Lean, each with its contract: printed by a program of this session's (RexGen). No conditions. -/
import Derived.Test.YtmoeaeflljpboaaDoorR2
import Derived.Test.YtmoeaeflljpboaaDoorProg
namespace Go.Proofs.YtmoeaeflljpboaaDoor.X
open Go Go.Rex
set_option maxRecDepth 100000
set_option linter.unusedVariables false

def rowsT : List (Int × Int × Int × Int) := [(16, 11, -14, 15), (16, 8, -126, 127), (32, 24, -126, 127), (64, 53, -1022, 1023)]
def dbT : List Int := [0, 1, 56, 2, 57, 49, 28, 3, 61, 58, 42, 50, 38, 29, 17, 4, 62, 47, 59, 36, 45, 43, 51, 22, 53, 39, 33, 30, 24, 18, 12, 5, 63, 55, 48, 27, 60, 41, 37, 16, 46, 35, 44, 21, 52, 32, 23, 11, 54, 26, 40, 15, 34, 20, 31, 10, 25, 14, 19, 9, 13, 8, 7, 6]
def p10T : List Int := [1, 10, 100, 1000, 10000, 100000, 1000000, 10000000, 100000000, 1000000000, 10000000000, 100000000000, 1000000000000, 10000000000000, 100000000000000, 1000000000000000, 10000000000000000, 100000000000000000, 1000000000000000000, 10000000000000000000]
noncomputable def GL : List (Nat × AV0) := [(0, .rarr (.pair (.int .i64) (.pair (.int .i64) (.pair (.int .i64) (.int .i64)))) rowsT), (1, .rarr (.int .u8) dbT), (4, .rarr (.int .u64) p10T)]
noncomputable def TT : List (Nat × TI) := [(2, ⟨.int .i64, false, 1, 8, [.int .i64 0], (.int .i64)⟩),
  (3, ⟨.int .i64, false, 1, 8, [.int .i64 0], (.int .i64)⟩),
  (4, ⟨.bool, false, 1, 1, [.bool false], .bool⟩),
  (5, ⟨.int .u8, false, 1, 1, [.int .u8 0], (.int .u8)⟩),
  (6, ⟨.int .u8, false, 1, 1, [.int .u8 0], (.int .u8)⟩),
  (7, ⟨.struct [(0, 1, false), (1, 1, false), (2, 1, false), (3, 1, false)], true, 4, 24, [.int .i64 0, .int .i64 0, .bool false, .int .u8 0], (.pair (.int .i64) (.pair (.int .i64) (.pair .bool (.int .u8))))⟩),
  (8, ⟨.struct [(0, 1, false), (1, 1, false), (2, 1, false), (3, 1, false)], true, 4, 24, [.int .i64 0, .int .i64 0, .bool false, .int .u8 0], (.pair (.int .i64) (.pair (.int .i64) (.pair .bool (.int .u8))))⟩),
  (9, ⟨.str, false, 1, 16, [.str ByteArray.empty], .str⟩),
  (10, ⟨.str, false, 1, 16, [.str ByteArray.empty], .str⟩),
  (11, ⟨.str, false, 1, 16, [.str ByteArray.empty], .str⟩),
  (12, ⟨.int .u64, false, 1, 8, [.int .u64 0], (.int .u64)⟩),
  (13, ⟨.struct [(0, 1, false), (1, 1, false)], true, 2, 24, [.str ByteArray.empty, .int .u64 0], (.pair .str (.int .u64))⟩),
  (14, ⟨.struct [(0, 1, false), (1, 1, false)], true, 2, 24, [.str ByteArray.empty, .int .u64 0], (.pair .str (.int .u64))⟩),
  (21, ⟨.int .i32, false, 1, 4, [.int .i32 0], (.int .i32)⟩),
  (22, ⟨.slice 23, false, 1, 24, [.nils], (.sl (.int .u64))⟩),
  (23, ⟨.int .u64, false, 1, 8, [.int .u64 0], (.int .u64)⟩),
  (24, ⟨.struct [(0, 1, false), (1, 1, false), (2, 1, false), (3, 1, false), (4, 1, false), (5, 1, false)], true, 6, 88, [.int .i64 0, .nils, .nils, .int .i64 0, .int .u64 0, .str ByteArray.empty], (.pair (.int .i64) (.pair (.sl (.int .u64)) (.pair (.sl (.int .u64)) (.pair (.int .i64) (.pair (.int .u64) .str)))))⟩),
  (25, ⟨.struct [(0, 1, false), (1, 1, false), (2, 1, false), (3, 1, false), (4, 1, false), (5, 1, false)], true, 6, 88, [.int .i64 0, .nils, .nils, .int .i64 0, .int .u64 0, .str ByteArray.empty], (.pair (.int .i64) (.pair (.sl (.int .u64)) (.pair (.sl (.int .u64)) (.pair (.int .i64) (.pair (.int .u64) .str)))))⟩),
  (29, ⟨.slice 22, false, 1, 24, [.nils], (.sl (.sl (.int .u64)))⟩),
  (36, ⟨.int .i64, false, 1, 8, [.int .i64 0], (.int .i64)⟩),
  (39, ⟨.int .i64, false, 1, 8, [.int .i64 0], (.int .i64)⟩),
  (43, ⟨.int .i64, false, 1, 8, [.int .i64 0], (.int .i64)⟩),
  (46, ⟨.int .i64, false, 1, 8, [.int .i64 0], (.int .i64)⟩),
  (53, ⟨.int .u64, false, 1, 8, [.int .u64 0], (.int .u64)⟩),
  (54, ⟨.struct [(0, 1, false), (1, 1, false), (2, 1, false)], true, 3, 40, [.bool false, .nils, .int .i64 0], (.pair .bool (.pair (.sl (.int .u64)) (.int .i64)))⟩),
  (55, ⟨.struct [(0, 1, false), (1, 1, false), (2, 1, false)], true, 3, 40, [.bool false, .nils, .int .i64 0], (.pair .bool (.pair (.sl (.int .u64)) (.int .i64)))⟩),
  (56, ⟨.struct [(0, 1, false), (1, 1, false), (2, 1, false), (3, 1, false), (4, 3, true)], true, 7, 48, [.bool false, .bool false, .bool false, .bool false, .bool false, .nils, .int .i64 0], (.pair .bool (.pair .bool (.pair .bool (.pair .bool (.pair .bool (.pair (.sl (.int .u64)) (.int .i64)))))))⟩),
  (57, ⟨.struct [(0, 1, false), (1, 1, false), (2, 1, false), (3, 1, false), (4, 3, true)], true, 7, 48, [.bool false, .bool false, .bool false, .bool false, .bool false, .nils, .int .i64 0], (.pair .bool (.pair .bool (.pair .bool (.pair .bool (.pair .bool (.pair (.sl (.int .u64)) (.int .i64)))))))⟩),
  (62, ⟨.slice 9, false, 1, 24, [.nils], (.sl .str)⟩),
  (64, ⟨.slice 3, false, 1, 24, [.nils], (.sl (.int .i64))⟩),
  (65, ⟨.struct [(0, 1, false), (1, 1, false), (2, 1, false), (3, 1, false), (4, 1, false), (5, 1, false)], true, 6, 80, [.int .i64 0, .int .i64 0, .nils, .nils, .int .i64 0, .bool false], (.pair (.int .i64) (.pair (.int .i64) (.pair (.sl (.int .i64)) (.pair (.sl (.int .i64)) (.pair (.int .i64) .bool)))))⟩),
  (66, ⟨.struct [(0, 1, false), (1, 1, false), (2, 1, false), (3, 1, false), (4, 1, false), (5, 1, false)], true, 6, 80, [.int .i64 0, .int .i64 0, .nils, .nils, .int .i64 0, .bool false], (.pair (.int .i64) (.pair (.int .i64) (.pair (.sl (.int .i64)) (.pair (.sl (.int .i64)) (.pair (.int .i64) .bool)))))⟩),
  (67, ⟨.struct [(0, 1, false), (1, 1, false), (2, 1, false)], true, 3, 40, [.bool false, .nils, .int .i64 0], (.pair .bool (.pair (.sl (.int .u64)) (.int .i64)))⟩),
  (68, ⟨.struct [(0, 1, false), (1, 1, false), (2, 1, false)], true, 3, 40, [.bool false, .nils, .int .i64 0], (.pair .bool (.pair (.sl (.int .u64)) (.int .i64)))⟩),
  (92, ⟨.int .i64, false, 1, 8, [.int .i64 0], (.int .i64)⟩),
  (97, ⟨.struct [(0, 1, false), (1, 1, false), (2, 1, false), (3, 1, false)], true, 4, 32, [.int .i64 0, .int .i64 0, .int .i64 0, .int .i64 0], (.pair (.int .i64) (.pair (.int .i64) (.pair (.int .i64) (.int .i64))))⟩),
  (98, ⟨.struct [(0, 1, false), (1, 1, false), (2, 1, false), (3, 1, false)], true, 4, 32, [.int .i64 0, .int .i64 0, .int .i64 0, .int .i64 0], (.pair (.int .i64) (.pair (.int .i64) (.pair (.int .i64) (.int .i64))))⟩),
  (105, ⟨.struct [(0, 1, false), (1, 1, false)], true, 2, 32, [.nils, .int .i64 0], (.pair (.sl (.int .i64)) (.int .i64))⟩),
  (106, ⟨.struct [(0, 1, false), (1, 1, false)], true, 2, 32, [.nils, .int .i64 0], (.pair (.sl (.int .i64)) (.int .i64))⟩),
  (113, ⟨.struct [(0, 1, false), (1, 1, false)], true, 2, 16, [.int .u64 0, .int .u64 0], (.pair (.int .u64) (.int .u64))⟩),
  (114, ⟨.struct [(0, 1, false), (1, 1, false)], true, 2, 16, [.int .u64 0, .int .u64 0], (.pair (.int .u64) (.int .u64))⟩),
  (115, ⟨.struct [(0, 1, false), (1, 1, false), (2, 1, false), (3, 3, true)], true, 6, 48, [.bool false, .bool false, .bool false, .bool false, .nils, .int .i64 0], (.pair .bool (.pair .bool (.pair .bool (.pair .bool (.pair (.sl (.int .u64)) (.int .i64))))))⟩),
  (116, ⟨.struct [(0, 1, false), (1, 1, false), (2, 1, false), (3, 3, true)], true, 6, 48, [.bool false, .bool false, .bool false, .bool false, .nils, .int .i64 0], (.pair .bool (.pair .bool (.pair .bool (.pair .bool (.pair (.sl (.int .u64)) (.int .i64))))))⟩),
  (128, ⟨.struct [(0, 1, false), (1, 1, false), (2, 1, false), (3, 1, false)], true, 4, 48, [.bool false, .nils, .int .i64 0, .bool false], (.pair .bool (.pair (.sl (.int .u64)) (.pair (.int .i64) .bool)))⟩),
  (129, ⟨.struct [(0, 1, false), (1, 1, false), (2, 1, false), (3, 1, false)], true, 4, 48, [.bool false, .nils, .int .i64 0, .bool false], (.pair .bool (.pair (.sl (.int .u64)) (.pair (.int .i64) .bool)))⟩),
  (140, ⟨.slice 5, false, 1, 24, [.nils], (.sl (.int .u8))⟩),
  (145, ⟨.array 4 98, true, 16, 128, [.int .i64 0, .int .i64 0, .int .i64 0, .int .i64 0, .int .i64 0, .int .i64 0, .int .i64 0, .int .i64 0, .int .i64 0, .int .i64 0, .int .i64 0, .int .i64 0, .int .i64 0, .int .i64 0, .int .i64 0, .int .i64 0], (.pair (.pair (.int .i64) (.pair (.int .i64) (.pair (.int .i64) (.int .i64)))) (.pair (.pair (.int .i64) (.pair (.int .i64) (.pair (.int .i64) (.int .i64)))) (.pair (.pair (.int .i64) (.pair (.int .i64) (.pair (.int .i64) (.int .i64)))) (.pair (.int .i64) (.pair (.int .i64) (.pair (.int .i64) (.int .i64)))))))⟩),
  (166, ⟨.array 24 5, true, 24, 24, [.int .u8 0, .int .u8 0, .int .u8 0, .int .u8 0, .int .u8 0, .int .u8 0, .int .u8 0, .int .u8 0, .int .u8 0, .int .u8 0, .int .u8 0, .int .u8 0, .int .u8 0, .int .u8 0, .int .u8 0, .int .u8 0, .int .u8 0, .int .u8 0, .int .u8 0, .int .u8 0, .int .u8 0, .int .u8 0, .int .u8 0, .int .u8 0], (.pair (.int .u8) (.pair (.int .u8) (.pair (.int .u8) (.pair (.int .u8) (.pair (.int .u8) (.pair (.int .u8) (.pair (.int .u8) (.pair (.int .u8) (.pair (.int .u8) (.pair (.int .u8) (.pair (.int .u8) (.pair (.int .u8) (.pair (.int .u8) (.pair (.int .u8) (.pair (.int .u8) (.pair (.int .u8) (.pair (.int .u8) (.pair (.int .u8) (.pair (.int .u8) (.pair (.int .u8) (.pair (.int .u8) (.pair (.int .u8) (.pair (.int .u8) (.int .u8))))))))))))))))))))))))⟩),
  (173, ⟨.array 64 5, true, 64, 64, [.int .u8 0, .int .u8 0, .int .u8 0, .int .u8 0, .int .u8 0, .int .u8 0, .int .u8 0, .int .u8 0, .int .u8 0, .int .u8 0, .int .u8 0, .int .u8 0, .int .u8 0, .int .u8 0, .int .u8 0, .int .u8 0, .int .u8 0, .int .u8 0, .int .u8 0, .int .u8 0, .int .u8 0, .int .u8 0, .int .u8 0, .int .u8 0, .int .u8 0, .int .u8 0, .int .u8 0, .int .u8 0, .int .u8 0, .int .u8 0, .int .u8 0, .int .u8 0, .int .u8 0, .int .u8 0, .int .u8 0, .int .u8 0, .int .u8 0, .int .u8 0, .int .u8 0, .int .u8 0, .int .u8 0, .int .u8 0, .int .u8 0, .int .u8 0, .int .u8 0, .int .u8 0, .int .u8 0, .int .u8 0, .int .u8 0, .int .u8 0, .int .u8 0, .int .u8 0, .int .u8 0, .int .u8 0, .int .u8 0, .int .u8 0, .int .u8 0, .int .u8 0, .int .u8 0, .int .u8 0, .int .u8 0, .int .u8 0, .int .u8 0, .int .u8 0], (.pair (.int .u8) (.pair (.int .u8) (.pair (.int .u8) (.pair (.int .u8) (.pair (.int .u8) (.pair (.int .u8) (.pair (.int .u8) (.pair (.int .u8) (.pair (.int .u8) (.pair (.int .u8) (.pair (.int .u8) (.pair (.int .u8) (.pair (.int .u8) (.pair (.int .u8) (.pair (.int .u8) (.pair (.int .u8) (.pair (.int .u8) (.pair (.int .u8) (.pair (.int .u8) (.pair (.int .u8) (.pair (.int .u8) (.pair (.int .u8) (.pair (.int .u8) (.pair (.int .u8) (.pair (.int .u8) (.pair (.int .u8) (.pair (.int .u8) (.pair (.int .u8) (.pair (.int .u8) (.pair (.int .u8) (.pair (.int .u8) (.pair (.int .u8) (.pair (.int .u8) (.pair (.int .u8) (.pair (.int .u8) (.pair (.int .u8) (.pair (.int .u8) (.pair (.int .u8) (.pair (.int .u8) (.pair (.int .u8) (.pair (.int .u8) (.pair (.int .u8) (.pair (.int .u8) (.pair (.int .u8) (.pair (.int .u8) (.pair (.int .u8) (.pair (.int .u8) (.pair (.int .u8) (.pair (.int .u8) (.pair (.int .u8) (.pair (.int .u8) (.pair (.int .u8) (.pair (.int .u8) (.pair (.int .u8) (.pair (.int .u8) (.pair (.int .u8) (.pair (.int .u8) (.pair (.int .u8) (.pair (.int .u8) (.pair (.int .u8) (.pair (.int .u8) (.pair (.int .u8) (.pair (.int .u8) (.int .u8))))))))))))))))))))))))))))))))))))))))))))))))))))))))))))))))⟩),
  (180, ⟨.array 20 23, true, 20, 160, [.int .u64 0, .int .u64 0, .int .u64 0, .int .u64 0, .int .u64 0, .int .u64 0, .int .u64 0, .int .u64 0, .int .u64 0, .int .u64 0, .int .u64 0, .int .u64 0, .int .u64 0, .int .u64 0, .int .u64 0, .int .u64 0, .int .u64 0, .int .u64 0, .int .u64 0, .int .u64 0], (.pair (.int .u64) (.pair (.int .u64) (.pair (.int .u64) (.pair (.int .u64) (.pair (.int .u64) (.pair (.int .u64) (.pair (.int .u64) (.pair (.int .u64) (.pair (.int .u64) (.pair (.int .u64) (.pair (.int .u64) (.pair (.int .u64) (.pair (.int .u64) (.pair (.int .u64) (.pair (.int .u64) (.pair (.int .u64) (.pair (.int .u64) (.pair (.int .u64) (.pair (.int .u64) (.int .u64))))))))))))))))))))⟩),
  (181, ⟨.int .u32, false, 1, 4, [.int .u32 0], (.int .u32)⟩),
  (182, ⟨.array 65 5, true, 65, 65, [.int .u8 0, .int .u8 0, .int .u8 0, .int .u8 0, .int .u8 0, .int .u8 0, .int .u8 0, .int .u8 0, .int .u8 0, .int .u8 0, .int .u8 0, .int .u8 0, .int .u8 0, .int .u8 0, .int .u8 0, .int .u8 0, .int .u8 0, .int .u8 0, .int .u8 0, .int .u8 0, .int .u8 0, .int .u8 0, .int .u8 0, .int .u8 0, .int .u8 0, .int .u8 0, .int .u8 0, .int .u8 0, .int .u8 0, .int .u8 0, .int .u8 0, .int .u8 0, .int .u8 0, .int .u8 0, .int .u8 0, .int .u8 0, .int .u8 0, .int .u8 0, .int .u8 0, .int .u8 0, .int .u8 0, .int .u8 0, .int .u8 0, .int .u8 0, .int .u8 0, .int .u8 0, .int .u8 0, .int .u8 0, .int .u8 0, .int .u8 0, .int .u8 0, .int .u8 0, .int .u8 0, .int .u8 0, .int .u8 0, .int .u8 0, .int .u8 0, .int .u8 0, .int .u8 0, .int .u8 0, .int .u8 0, .int .u8 0, .int .u8 0, .int .u8 0, .int .u8 0], (.pair (.int .u8) (.pair (.int .u8) (.pair (.int .u8) (.pair (.int .u8) (.pair (.int .u8) (.pair (.int .u8) (.pair (.int .u8) (.pair (.int .u8) (.pair (.int .u8) (.pair (.int .u8) (.pair (.int .u8) (.pair (.int .u8) (.pair (.int .u8) (.pair (.int .u8) (.pair (.int .u8) (.pair (.int .u8) (.pair (.int .u8) (.pair (.int .u8) (.pair (.int .u8) (.pair (.int .u8) (.pair (.int .u8) (.pair (.int .u8) (.pair (.int .u8) (.pair (.int .u8) (.pair (.int .u8) (.pair (.int .u8) (.pair (.int .u8) (.pair (.int .u8) (.pair (.int .u8) (.pair (.int .u8) (.pair (.int .u8) (.pair (.int .u8) (.pair (.int .u8) (.pair (.int .u8) (.pair (.int .u8) (.pair (.int .u8) (.pair (.int .u8) (.pair (.int .u8) (.pair (.int .u8) (.pair (.int .u8) (.pair (.int .u8) (.pair (.int .u8) (.pair (.int .u8) (.pair (.int .u8) (.pair (.int .u8) (.pair (.int .u8) (.pair (.int .u8) (.pair (.int .u8) (.pair (.int .u8) (.pair (.int .u8) (.pair (.int .u8) (.pair (.int .u8) (.pair (.int .u8) (.pair (.int .u8) (.pair (.int .u8) (.pair (.int .u8) (.pair (.int .u8) (.pair (.int .u8) (.pair (.int .u8) (.pair (.int .u8) (.pair (.int .u8) (.pair (.int .u8) (.pair (.int .u8) (.pair (.int .u8) (.int .u8)))))))))))))))))))))))))))))))))))))))))))))))))))))))))))))))))⟩),
  (186, ⟨.array 32 5, true, 32, 32, [.int .u8 0, .int .u8 0, .int .u8 0, .int .u8 0, .int .u8 0, .int .u8 0, .int .u8 0, .int .u8 0, .int .u8 0, .int .u8 0, .int .u8 0, .int .u8 0, .int .u8 0, .int .u8 0, .int .u8 0, .int .u8 0, .int .u8 0, .int .u8 0, .int .u8 0, .int .u8 0, .int .u8 0, .int .u8 0, .int .u8 0, .int .u8 0, .int .u8 0, .int .u8 0, .int .u8 0, .int .u8 0, .int .u8 0, .int .u8 0, .int .u8 0, .int .u8 0], (.pair (.int .u8) (.pair (.int .u8) (.pair (.int .u8) (.pair (.int .u8) (.pair (.int .u8) (.pair (.int .u8) (.pair (.int .u8) (.pair (.int .u8) (.pair (.int .u8) (.pair (.int .u8) (.pair (.int .u8) (.pair (.int .u8) (.pair (.int .u8) (.pair (.int .u8) (.pair (.int .u8) (.pair (.int .u8) (.pair (.int .u8) (.pair (.int .u8) (.pair (.int .u8) (.pair (.int .u8) (.pair (.int .u8) (.pair (.int .u8) (.pair (.int .u8) (.pair (.int .u8) (.pair (.int .u8) (.pair (.int .u8) (.pair (.int .u8) (.pair (.int .u8) (.pair (.int .u8) (.pair (.int .u8) (.pair (.int .u8) (.int .u8))))))))))))))))))))))))))))))))⟩),
  (194, ⟨.int .u8, false, 1, 1, [.int .u8 0], (.int .u8)⟩),
  (195, ⟨.int .u8, false, 1, 1, [.int .u8 0], (.int .u8)⟩),
  (198, ⟨.int .i32, false, 1, 4, [.int .i32 0], (.int .i32)⟩),
  (199, ⟨.int .i32, false, 1, 4, [.int .i32 0], (.int .i32)⟩),
  (202, ⟨.struct [(0, 1, false)], true, 1, 16, [.str ByteArray.empty], .str⟩),
  (203, ⟨.struct [(0, 1, false)], true, 1, 16, [.str ByteArray.empty], .str⟩)]
theorem seat_mixed : Go.Proofs.Tryd.prog.follows .mixedOrders = true := by kernel_rfl
theorem seat_tt : (TT.all fun p => tiB Go.Proofs.Tryd.prog p.1 p.2) = true := by kernel_rfl
theorem seat_ctx {F : List (Nat × Rex.Spec)} (h : SpecsOk Go.Proofs.Tryd.prog GL F) : CtxOk Go.Proofs.Tryd.prog ⟨TT, F, GL⟩ := ctx_ok seat_mixed seat_tt (by kernel_rfl) h
noncomputable def TTp : List (Nat × TI) := TT ++ TT.filter fun p => [182, 166].any fun q => Nat.beq p.1 q
theorem seat_ttp : (TTp.all fun p => tiB Go.Proofs.Tryd.prog p.1 p.2) = true := by kernel_rfl
theorem seat_ctxp {F : List (Nat × Rex.Spec)} (h : SpecsOk Go.Proofs.Tryd.prog GL F) : CtxOk Go.Proofs.Tryd.prog ⟨TTp, F, GL⟩ := ctx_ok seat_mixed seat_ttp (by kernel_rfl) h
noncomputable def format_Params.sg : Sig := ⟨[(false, [.int .i64])], [(true, [.int .i64, .int .i64, .int .i64, .int .i64]), (false, [.int .i64])]⟩
noncomputable def format_Params.C : Ctx := ⟨TT, [], GL⟩
noncomputable def format_Params.h : H := .leaf
noncomputable def format_Params : Nat → Int → Option (Int × Int × Int × Int × Int) := vxFun format_Params.C Go.Proofs.Tryd.f50 format_Params.h format_Params.sg
noncomputable def format_Check.sg : Sig := ⟨[(false, [.int .i64]), (false, [.int .u64])], [(false, [.int .i64])]⟩
noncomputable def format_Check.C : Ctx := ⟨TT, [(50, ⟨format_Params.sg, format_Params⟩)], GL⟩
noncomputable def format_Check.h : H := .leaf
noncomputable def format_Check : Nat → Int → Int → Option (Int) := vxFun format_Check.C Go.Proofs.Tryd.f96 format_Check.h format_Check.sg
noncomputable def format_ones.sg : Sig := ⟨[(false, [.int .i64])], [(false, [.int .u64])]⟩
noncomputable def format_ones.C : Ctx := ⟨TT, [], GL⟩
noncomputable def format_ones.h : H := .leaf
noncomputable def format_ones : Nat → Int → Option (Int) := vxFun format_ones.C Go.Proofs.Tryd.f98 format_ones.h format_ones.sg
noncomputable def format_split.sg : Sig := ⟨[(true, [.int .i64, .int .i64, .int .i64, .int .i64]), (false, [.int .u64])], [(false, [.bool]), (false, [.int .u64]), (false, [.int .u64])]⟩
noncomputable def format_split.C : Ctx := ⟨TT, [(98, ⟨format_ones.sg, format_ones⟩)], GL⟩
noncomputable def format_split.h : H := .leaf
noncomputable def format_split : Nat → Int → Int → Int → Int → Int → Option (Bool × Int × Int) := vxFun format_split.C Go.Proofs.Tryd.f97 format_split.h format_split.sg
noncomputable def format_Class.sg : Sig := ⟨[(false, [.int .i64]), (false, [.int .u64])], [(false, [.int .i64]), (false, [.int .i64])]⟩
noncomputable def format_Class.C : Ctx := ⟨TT, [(96, ⟨format_Check.sg, format_Check⟩), (97, ⟨format_split.sg, format_split⟩), (98, ⟨format_ones.sg, format_ones⟩)], GL⟩
noncomputable def format_Class.h : H := (.node none .leaf (.node none .leaf (.node none .leaf (.node none .leaf (.node none .leaf (.node none (.node none (.node none .leaf (.node (some [(7, (.cells [.any, .any, .any, .any])), (8, .any), (9, .any), (10, .any), (11, .any), (28, .any)]) .leaf (.node none .leaf (.node (some [(7, (.cells [.any, .any, .any, .any])), (8, .any), (9, .any), (10, .any), (11, .any), (41, .any)]) .leaf .leaf)))) .leaf) (.node (some [(8, .any), (11, .any)]) .leaf .leaf)))))))
noncomputable def format_Class : Nat → Int → Int → Option (Int × Int) := vxFun format_Class.C Go.Proofs.Tryd.f48 format_Class.h format_Class.sg
noncomputable def format_Class.j0 (k : Nat) (b0 : Bool) (x1 : Int) (x2 : Int) (x3 : Int) (b4 : Bool) (x5 : Int) (x6 : Int) (x7 : Int) (x8 : Int) : Option (Int × Int) := vxAt format_Class.C k [.b, .b, .b, .b, .b, .a, .blk, .b] (bodyOf Go.Proofs.Tryd.f48) format_Class.h (st0 [(7, .one (.ref 1000 0)), (8, .one (.bool b0)), (9, .one (.int .u64 x1)), (10, .one (.int .u64 x2)), (11, .one (.int .i64 x3)), (28, .one (.bool b4))] [(1000, .loc [(.int .i64 x5), (.int .i64 x6), (.int .i64 x7), (.int .i64 x8)])] 1001 81) (kret format_Class.C Go.Proofs.Tryd.f48 format_Class.sg)
noncomputable def format_Class.j1 (k : Nat) (b0 : Bool) (x1 : Int) : Option (Int × Int) := vxAt format_Class.C k [.b, .b, .b, .b, .b, .b] (bodyOf Go.Proofs.Tryd.f48) format_Class.h (st0 [(8, .one (.bool b0)), (11, .one (.int .i64 x1))] [] 1000 81) (kret format_Class.C Go.Proofs.Tryd.f48 format_Class.sg)
noncomputable def format_Class.j2 (k : Nat) (b0 : Bool) (x1 : Int) (x2 : Int) (x3 : Int) (b4 : Bool) (x5 : Int) (x6 : Int) (x7 : Int) (x8 : Int) : Option (Int × Int) := vxAt format_Class.C k [.b, .b, .b, .b, .b, .a, .blk, .b, .els, .b] (bodyOf Go.Proofs.Tryd.f48) format_Class.h (st0 [(7, .one (.ref 1000 0)), (8, .one (.bool b0)), (9, .one (.int .u64 x1)), (10, .one (.int .u64 x2)), (11, .one (.int .i64 x3)), (41, .one (.bool b4))] [(1000, .loc [(.int .i64 x5), (.int .i64 x6), (.int .i64 x7), (.int .i64 x8)])] 1001 81) (kret format_Class.C Go.Proofs.Tryd.f48 format_Class.sg)
noncomputable def format_Fields.sg : Sig := ⟨[(false, [.int .i64]), (false, [.int .u64])], [(false, [.bool]), (false, [.int .u64]), (false, [.int .u64]), (false, [.int .i64])]⟩
noncomputable def format_Fields.C : Ctx := ⟨TT, [(96, ⟨format_Check.sg, format_Check⟩), (97, ⟨format_split.sg, format_split⟩)], GL⟩
noncomputable def format_Fields.h : H := .leaf
noncomputable def format_Fields : Nat → Int → Int → Option (Bool × Int × Int × Int) := vxFun format_Fields.C Go.Proofs.Tryd.f49 format_Fields.h format_Fields.sg
def istrconv_small.s0 : ByteArray := ⟨#[48, 49, 50, 51, 52, 53, 54, 55, 56, 57, 97, 98, 99, 100, 101, 102, 103, 104, 105, 106, 107, 108, 109, 110, 111, 112, 113, 114, 115, 116, 117, 118, 119, 120, 121, 122]⟩
def istrconv_small.s1 : ByteArray := ⟨#[48, 48, 48, 49, 48, 50, 48, 51, 48, 52, 48, 53, 48, 54, 48, 55, 48, 56, 48, 57, 49, 48, 49, 49, 49, 50, 49, 51, 49, 52, 49, 53, 49, 54, 49, 55, 49, 56, 49, 57, 50, 48, 50, 49, 50, 50, 50, 51, 50, 52, 50, 53, 50, 54, 50, 55, 50, 56, 50, 57, 51, 48, 51, 49, 51, 50, 51, 51, 51, 52, 51, 53, 51, 54, 51, 55, 51, 56, 51, 57, 52, 48, 52, 49, 52, 50, 52, 51, 52, 52, 52, 53, 52, 54, 52, 55, 52, 56, 52, 57, 53, 48, 53, 49, 53, 50, 53, 51, 53, 52, 53, 53, 53, 54, 53, 55, 53, 56, 53, 57, 54, 48, 54, 49, 54, 50, 54, 51, 54, 52, 54, 53, 54, 54, 54, 55, 54, 56, 54, 57, 55, 48, 55, 49, 55, 50, 55, 51, 55, 52, 55, 53, 55, 54, 55, 55, 55, 56, 55, 57, 56, 48, 56, 49, 56, 50, 56, 51, 56, 52, 56, 53, 56, 54, 56, 55, 56, 56, 56, 57, 57, 48, 57, 49, 57, 50, 57, 51, 57, 52, 57, 53, 57, 54, 57, 55, 57, 56, 57, 57]⟩
noncomputable def istrconv_small.sg : Sig := ⟨[(false, [.int .i64])], [(false, [.str])]⟩
noncomputable def istrconv_small.C : Ctx := ⟨TT, [], GL⟩
noncomputable def istrconv_small.h : H := .leaf
noncomputable def istrconv_small : Nat → Int → Option (ByteArray) := vxFun istrconv_small.C Go.Proofs.Tryd.f129 istrconv_small.h istrconv_small.sg
def bits_Len64.s0 : ByteArray := ⟨#[0, 1, 2, 2, 3, 3, 3, 3, 4, 4, 4, 4, 4, 4, 4, 4, 5, 5, 5, 5, 5, 5, 5, 5, 5, 5, 5, 5, 5, 5, 5, 5, 6, 6, 6, 6, 6, 6, 6, 6, 6, 6, 6, 6, 6, 6, 6, 6, 6, 6, 6, 6, 6, 6, 6, 6, 6, 6, 6, 6, 6, 6, 6, 6, 7, 7, 7, 7, 7, 7, 7, 7, 7, 7, 7, 7, 7, 7, 7, 7, 7, 7, 7, 7, 7, 7, 7, 7, 7, 7, 7, 7, 7, 7, 7, 7, 7, 7, 7, 7, 7, 7, 7, 7, 7, 7, 7, 7, 7, 7, 7, 7, 7, 7, 7, 7, 7, 7, 7, 7, 7, 7, 7, 7, 7, 7, 7, 7, 8, 8, 8, 8, 8, 8, 8, 8, 8, 8, 8, 8, 8, 8, 8, 8, 8, 8, 8, 8, 8, 8, 8, 8, 8, 8, 8, 8, 8, 8, 8, 8, 8, 8, 8, 8, 8, 8, 8, 8, 8, 8, 8, 8, 8, 8, 8, 8, 8, 8, 8, 8, 8, 8, 8, 8, 8, 8, 8, 8, 8, 8, 8, 8, 8, 8, 8, 8, 8, 8, 8, 8, 8, 8, 8, 8, 8, 8, 8, 8, 8, 8, 8, 8, 8, 8, 8, 8, 8, 8, 8, 8, 8, 8, 8, 8, 8, 8, 8, 8, 8, 8, 8, 8, 8, 8, 8, 8, 8, 8, 8, 8, 8, 8, 8, 8, 8, 8, 8, 8, 8, 8, 8, 8, 8, 8, 8, 8]⟩
noncomputable def bits_Len64.sg : Sig := ⟨[(false, [.int .u64])], [(false, [.int .i64])]⟩
noncomputable def bits_Len64.C : Ctx := ⟨TT, [], GL⟩
noncomputable def bits_Len64.h : H := (.node none .leaf (.node none .leaf (.node (some [(0, .any), (2, .any)]) .leaf .leaf)))
noncomputable def bits_Len64 : Nat → Int → Option (Int) := vxFun bits_Len64.C Go.Proofs.Tryd.f127 bits_Len64.h bits_Len64.sg
noncomputable def bits_Len64.j0 (k : Nat) (x0 : Int) (x1 : Int) : Option (Int) := vxAt bits_Len64.C k [.b, .b] (bodyOf Go.Proofs.Tryd.f127) bits_Len64.h (st0 [(0, .one (.int .u64 x0)), (2, .one (.int .i64 x1))] [] 1000 25) (kret bits_Len64.C Go.Proofs.Tryd.f127 bits_Len64.sg)
noncomputable def istrconv_log10Pow2.sg : Sig := ⟨[(false, [.int .i64])], [(false, [.int .i64])]⟩
noncomputable def istrconv_log10Pow2.C : Ctx := ⟨TT, [], GL⟩
noncomputable def istrconv_log10Pow2.h : H := .leaf
noncomputable def istrconv_log10Pow2 : Nat → Int → Option (Int) := vxFun istrconv_log10Pow2.C Go.Proofs.Tryd.f141 istrconv_log10Pow2.h istrconv_log10Pow2.sg
noncomputable def istrconv_bool2int.sg : Sig := ⟨[(false, [.bool])], [(false, [.int .i64])]⟩
noncomputable def istrconv_bool2int.C : Ctx := ⟨TT, [], GL⟩
noncomputable def istrconv_bool2int.h : H := .leaf
noncomputable def istrconv_bool2int : Nat → Bool → Option (Int) := vxFun istrconv_bool2int.C Go.Proofs.Tryd.f142 istrconv_bool2int.h istrconv_bool2int.sg
noncomputable def istrconv_numDigits.sg : Sig := ⟨[(false, [.int .u64])], [(false, [.int .i64])]⟩
noncomputable def istrconv_numDigits.C : Ctx := ⟨TT, [(127, ⟨bits_Len64.sg, bits_Len64⟩), (141, ⟨istrconv_log10Pow2.sg, istrconv_log10Pow2⟩), (142, ⟨istrconv_bool2int.sg, istrconv_bool2int⟩)], GL⟩
noncomputable def istrconv_numDigits.h : H := .leaf
noncomputable def istrconv_numDigits : Nat → Int → Option (Int) := vxFun istrconv_numDigits.C Go.Proofs.Tryd.f130 istrconv_numDigits.h istrconv_numDigits.sg
def istrconv_formatBase10.s0 : ByteArray := ⟨#[48, 48, 48, 49, 48, 50, 48, 51, 48, 52, 48, 53, 48, 54, 48, 55, 48, 56, 48, 57, 49, 48, 49, 49, 49, 50, 49, 51, 49, 52, 49, 53, 49, 54, 49, 55, 49, 56, 49, 57, 50, 48, 50, 49, 50, 50, 50, 51, 50, 52, 50, 53, 50, 54, 50, 55, 50, 56, 50, 57, 51, 48, 51, 49, 51, 50, 51, 51, 51, 52, 51, 53, 51, 54, 51, 55, 51, 56, 51, 57, 52, 48, 52, 49, 52, 50, 52, 51, 52, 52, 52, 53, 52, 54, 52, 55, 52, 56, 52, 57, 53, 48, 53, 49, 53, 50, 53, 51, 53, 52, 53, 53, 53, 54, 53, 55, 53, 56, 53, 57, 54, 48, 54, 49, 54, 50, 54, 51, 54, 52, 54, 53, 54, 54, 54, 55, 54, 56, 54, 57, 55, 48, 55, 49, 55, 50, 55, 51, 55, 52, 55, 53, 55, 54, 55, 55, 55, 56, 55, 57, 56, 48, 56, 49, 56, 50, 56, 51, 56, 52, 56, 53, 56, 54, 56, 55, 56, 56, 56, 57, 57, 48, 57, 49, 57, 50, 57, 51, 57, 52, 57, 53, 57, 54, 57, 55, 57, 56, 57, 57]⟩
noncomputable def istrconv_formatBase10.sg : Sig := ⟨[(false, [.mu (.int .u8)]), (false, [.int .u64])], []⟩
noncomputable def istrconv_formatBase10.C : Ctx := ⟨TT, [], GL⟩
noncomputable def istrconv_formatBase10.h : H := (.node none .leaf (.node none (.node none (.node (some [(0, .any), (1, .any), (4, .any)]) .leaf .leaf) .leaf) (.node none .leaf (.node none .leaf (.node (some [(0, .any), (4, .any), (12, .any)]) .leaf .leaf)))))
noncomputable def istrconv_formatBase10 : Nat → List Int → Int → Option (List Int) := vxFun istrconv_formatBase10.C Go.Proofs.Tryd.f131 istrconv_formatBase10.h istrconv_formatBase10.sg
noncomputable def istrconv_formatBase10.l0 (k n : Nat) (x0 : Int) (x1 : Int) (l2 : (List Int)) : Option (List Int) := vxAt istrconv_formatBase10.C k [.b, .a, .blk, .loop n] (bodyOf Go.Proofs.Tryd.f131) istrconv_formatBase10.h (st0 [(0, .one (.sl 0 0 none)), (1, .one (.int .u64 x0)), (4, .one (.int .i64 x1))] [(0, .arr (.int .u8) l2 .win)] 1000 167) (kret istrconv_formatBase10.C Go.Proofs.Tryd.f131 istrconv_formatBase10.sg)
noncomputable def istrconv_formatBase10.j1 (k : Nat) (x0 : Int) (x1 : Int) (l2 : (List Int)) : Option (List Int) := vxAt istrconv_formatBase10.C k [.b, .b, .b, .b] (bodyOf Go.Proofs.Tryd.f131) istrconv_formatBase10.h (st0 [(0, .one (.sl 0 0 none)), (4, .one (.int .i64 x0)), (12, .one (.int .u32 x1))] [(0, .arr (.int .u8) l2 .win)] 1000 167) (kret istrconv_formatBase10.C Go.Proofs.Tryd.f131 istrconv_formatBase10.sg)
noncomputable def istrconv_isPowerOfTwo.sg : Sig := ⟨[(false, [.int .i64])], [(false, [.bool])]⟩
noncomputable def istrconv_isPowerOfTwo.C : Ctx := ⟨TT, [], GL⟩
noncomputable def istrconv_isPowerOfTwo.h : H := .leaf
noncomputable def istrconv_isPowerOfTwo : Nat → Int → Option (Bool) := vxFun istrconv_isPowerOfTwo.C Go.Proofs.Tryd.f143 istrconv_isPowerOfTwo.h istrconv_isPowerOfTwo.sg
noncomputable def bits_TrailingZeros32.sg : Sig := ⟨[(false, [.int .u32])], [(false, [.int .i64])]⟩
noncomputable def bits_TrailingZeros32.C : Ctx := ⟨TT, [], GL⟩
noncomputable def bits_TrailingZeros32.h : H := .leaf
noncomputable def bits_TrailingZeros32 : Nat → Int → Option (Int) := vxFun bits_TrailingZeros32.C Go.Proofs.Tryd.f150 bits_TrailingZeros32.h bits_TrailingZeros32.sg
noncomputable def bits_TrailingZeros64.sg : Sig := ⟨[(false, [.int .u64])], [(false, [.int .i64])]⟩
noncomputable def bits_TrailingZeros64.C : Ctx := ⟨TT, [], GL⟩
noncomputable def bits_TrailingZeros64.h : H := .leaf
noncomputable def bits_TrailingZeros64 : Nat → Int → Option (Int) := vxFun bits_TrailingZeros64.C Go.Proofs.Tryd.f115 bits_TrailingZeros64.h bits_TrailingZeros64.sg
noncomputable def bits_TrailingZeros.sg : Sig := ⟨[(false, [.int .u64])], [(false, [.int .i64])]⟩
noncomputable def bits_TrailingZeros.C : Ctx := ⟨TT, [(150, ⟨bits_TrailingZeros32.sg, bits_TrailingZeros32⟩), (115, ⟨bits_TrailingZeros64.sg, bits_TrailingZeros64⟩)], GL⟩
noncomputable def bits_TrailingZeros.h : H := .leaf
noncomputable def bits_TrailingZeros : Nat → Int → Option (Int) := vxFun bits_TrailingZeros.C Go.Proofs.Tryd.f144 bits_TrailingZeros.h bits_TrailingZeros.sg
def istrconv_formatBits.s0 : ByteArray := ⟨#[]⟩
def istrconv_formatBits.s1 : ByteArray := ⟨#[48, 49, 50, 51, 52, 53, 54, 55, 56, 57, 97, 98, 99, 100, 101, 102, 103, 104, 105, 106, 107, 108, 109, 110, 111, 112, 113, 114, 115, 116, 117, 118, 119, 120, 121, 122]⟩
noncomputable def istrconv_formatBits.sg : Sig := ⟨[(false, [.ro (.int .u8)]), (false, [.int .u64]), (false, [.int .i64]), (false, [.bool]), (false, [.bool])], [(false, [.fr (.int .u8)]), (false, [.str])]⟩
noncomputable def istrconv_formatBits.C : Ctx := ⟨TTp, [(143, ⟨istrconv_isPowerOfTwo.sg, istrconv_isPowerOfTwo⟩), (144, ⟨bits_TrailingZeros.sg, bits_TrailingZeros⟩)], GL⟩
noncomputable def istrconv_formatBits.h : H := (.node none .leaf (.node none .leaf (.node (some [(0, (.ro (.int .u8))), (1, .any), (2, .any), (3, .any), (4, .any), (10, .any), (11, .any)]) .leaf (.node none .leaf (.node none .leaf (.node (some [(0, (.ro (.int .u8))), (1, .any), (2, .any), (3, .any), (4, .any), (10, .any), (11, .any), (12, (.pa (.int .u8))), (13, .any)]) (.node none .leaf (.node none (.node none .leaf (.node none .leaf (.node none .leaf (.node none (.node none (.node (some [(0, (.ro (.int .u8))), (1, .any), (3, .any), (4, .any), (10, .any), (11, .any), (12, (.pa (.int .u8))), (13, .any), (14, .any), (15, .any), (16, .any)]) .leaf .leaf) .leaf) .leaf)))) (.node none .leaf (.node none (.node none (.node (some [(0, (.ro (.int .u8))), (1, .any), (3, .any), (4, .any), (10, .any), (11, .any), (12, (.pa (.int .u8))), (13, .any), (17, .any)]) .leaf .leaf) .leaf) .leaf)))) .leaf))))))
noncomputable def istrconv_formatBits : Nat → List Int → Int → Int → Bool → Bool → Option ((List Int) × ByteArray) := vxFun istrconv_formatBits.C Go.Proofs.Tryd.f132 istrconv_formatBits.h istrconv_formatBits.sg
noncomputable def istrconv_formatBits.j0 (k : Nat) (l0 : (List Int)) (x1 : Int) (x2 : Int) (b3 : Bool) (b4 : Bool) (s5 : ByteArray) : Option ((List Int) × ByteArray) := vxAt istrconv_formatBits.C k [.b, .b] (bodyOf Go.Proofs.Tryd.f132) istrconv_formatBits.h (st0 [(0, .one (.ro (.int .u8) l0)), (1, .one (.int .u64 x1)), (2, .one (.int .i64 x2)), (3, .one (.bool b3)), (4, .one (.bool b4)), (10, .one .nils), (11, .one (.str s5))] [] 1000 102) (kret istrconv_formatBits.C Go.Proofs.Tryd.f132 istrconv_formatBits.sg)
noncomputable def istrconv_formatBits.j1 (k : Nat) (l0 : (List Int)) (x1 : Int) (x2 : Int) (b3 : Bool) (b4 : Bool) (s5 : ByteArray) (x6 : Int) (l7 : (List Int)) : Option ((List Int) × ByteArray) := vxAt istrconv_formatBits.C k [.b, .b, .b, .b, .b] (bodyOf Go.Proofs.Tryd.f132) istrconv_formatBits.h (st0 [(0, .one (.ro (.int .u8) l0)), (1, .one (.int .u64 x1)), (2, .one (.int .i64 x2)), (3, .one (.bool b3)), (4, .one (.bool b4)), (10, .one .nils), (11, .one (.str s5)), (12, .one (.pa 1000 65)), (13, .one (.int .i64 x6))] [(1000, .arr (.int .u8) l7 .full)] 1001 102) (kret istrconv_formatBits.C Go.Proofs.Tryd.f132 istrconv_formatBits.sg)
noncomputable def istrconv_formatBits.l2 (k n : Nat) (l0 : (List Int)) (x1 : Int) (b2 : Bool) (b3 : Bool) (s4 : ByteArray) (x5 : Int) (x6 : Int) (x7 : Int) (x8 : Int) (l9 : (List Int)) : Option ((List Int) × ByteArray) := vxAt istrconv_formatBits.C k [.b, .b, .b, .b, .b, .a, .b, .thn, .b, .b, .b, .a, .blk, .loop n] (bodyOf Go.Proofs.Tryd.f132) istrconv_formatBits.h (st0 [(0, .one (.ro (.int .u8) l0)), (1, .one (.int .u64 x1)), (3, .one (.bool b2)), (4, .one (.bool b3)), (10, .one .nils), (11, .one (.str s4)), (12, .one (.pa 1000 65)), (13, .one (.int .i64 x5)), (14, .one (.int .u64 x6)), (15, .one (.int .u64 x7)), (16, .one (.int .u64 x8))] [(1000, .arr (.int .u8) l9 .full)] 1001 102) (kret istrconv_formatBits.C Go.Proofs.Tryd.f132 istrconv_formatBits.sg)
noncomputable def istrconv_formatBits.l3 (k n : Nat) (l0 : (List Int)) (x1 : Int) (b2 : Bool) (b3 : Bool) (s4 : ByteArray) (x5 : Int) (x6 : Int) (l7 : (List Int)) : Option ((List Int) × ByteArray) := vxAt istrconv_formatBits.C k [.b, .b, .b, .b, .b, .a, .b, .els, .b, .a, .blk, .loop n] (bodyOf Go.Proofs.Tryd.f132) istrconv_formatBits.h (st0 [(0, .one (.ro (.int .u8) l0)), (1, .one (.int .u64 x1)), (3, .one (.bool b2)), (4, .one (.bool b3)), (10, .one .nils), (11, .one (.str s4)), (12, .one (.pa 1000 65)), (13, .one (.int .i64 x5)), (17, .one (.int .u64 x6))] [(1000, .arr (.int .u8) l7 .full)] 1001 102) (kret istrconv_formatBits.C Go.Proofs.Tryd.f132 istrconv_formatBits.sg)
noncomputable def istrconv_FormatUint.sg : Sig := ⟨[(false, [.int .u64]), (false, [.int .i64])], [(false, [.str])]⟩
noncomputable def istrconv_FormatUint.C : Ctx := ⟨TTp, [(129, ⟨istrconv_small.sg, istrconv_small⟩), (130, ⟨istrconv_numDigits.sg, istrconv_numDigits⟩), (131, ⟨istrconv_formatBase10.sg, istrconv_formatBase10⟩), (132, ⟨istrconv_formatBits.sg, istrconv_formatBits⟩)], GL⟩
noncomputable def istrconv_FormatUint.h : H := .leaf
noncomputable def istrconv_FormatUint : Nat → Int → Int → Option (ByteArray) := vxFun istrconv_FormatUint.C Go.Proofs.Tryd.f99 istrconv_FormatUint.h istrconv_FormatUint.sg
noncomputable def strconv_FormatUint.sg : Sig := ⟨[(false, [.int .u64]), (false, [.int .i64])], [(false, [.str])]⟩
noncomputable def strconv_FormatUint.C : Ctx := ⟨TT, [(99, ⟨istrconv_FormatUint.sg, istrconv_FormatUint⟩)], GL⟩
noncomputable def strconv_FormatUint.h : H := .leaf
noncomputable def strconv_FormatUint : Nat → Int → Int → Option (ByteArray) := vxFun strconv_FormatUint.C Go.Proofs.Tryd.f51 strconv_FormatUint.h strconv_FormatUint.sg
noncomputable def istrconv_FormatInt.sg : Sig := ⟨[(false, [.int .i64]), (false, [.int .i64])], [(false, [.str])]⟩
noncomputable def istrconv_FormatInt.C : Ctx := ⟨TTp, [(129, ⟨istrconv_small.sg, istrconv_small⟩), (130, ⟨istrconv_numDigits.sg, istrconv_numDigits⟩), (131, ⟨istrconv_formatBase10.sg, istrconv_formatBase10⟩), (132, ⟨istrconv_formatBits.sg, istrconv_formatBits⟩)], GL⟩
noncomputable def istrconv_FormatInt.h : H := (.node none .leaf (.node none (.node none .leaf (.node none (.node none .leaf (.node (some [(0, .any)]) .leaf .leaf)) .leaf)) .leaf))
noncomputable def istrconv_FormatInt : Nat → Int → Int → Option (ByteArray) := vxFun istrconv_FormatInt.C Go.Proofs.Tryd.f133 istrconv_FormatInt.h istrconv_FormatInt.sg
noncomputable def istrconv_FormatInt.j0 (k : Nat) (x0 : Int) : Option (ByteArray) := vxAt istrconv_FormatInt.C k [.b, .a, .b, .thn, .b] (bodyOf Go.Proofs.Tryd.f133) istrconv_FormatInt.h (st0 [(0, .one (.int .i64 x0))] [] 1000 54) (kret istrconv_FormatInt.C Go.Proofs.Tryd.f133 istrconv_FormatInt.sg)
noncomputable def istrconv_Itoa.sg : Sig := ⟨[(false, [.int .i64])], [(false, [.str])]⟩
noncomputable def istrconv_Itoa.C : Ctx := ⟨TT, [(133, ⟨istrconv_FormatInt.sg, istrconv_FormatInt⟩)], GL⟩
noncomputable def istrconv_Itoa.h : H := .leaf
noncomputable def istrconv_Itoa : Nat → Int → Option (ByteArray) := vxFun istrconv_Itoa.C Go.Proofs.Tryd.f100 istrconv_Itoa.h istrconv_Itoa.sg
noncomputable def strconv_Itoa.sg : Sig := ⟨[(false, [.int .i64])], [(false, [.str])]⟩
noncomputable def strconv_Itoa.C : Ctx := ⟨TT, [(100, ⟨istrconv_Itoa.sg, istrconv_Itoa⟩)], GL⟩
noncomputable def strconv_Itoa.h : H := .leaf
noncomputable def strconv_Itoa : Nat → Int → Option (ByteArray) := vxFun strconv_Itoa.C Go.Proofs.Tryd.f52 strconv_Itoa.h strconv_Itoa.sg
def hexes_Print.s0 : ByteArray := ⟨#[]⟩
def hexes_Print.s1 : ByteArray := ⟨#[45]⟩
def hexes_Print.s2 : ByteArray := ⟨#[110, 97, 110]⟩
def hexes_Print.s3 : ByteArray := ⟨#[105, 110, 102]⟩
def hexes_Print.s4 : ByteArray := ⟨#[48, 120, 48, 112, 43, 48]⟩
def hexes_Print.s5 : ByteArray := ⟨#[48, 120, 49]⟩
def hexes_Print.s6 : ByteArray := ⟨#[46]⟩
def hexes_Print.s7 : ByteArray := ⟨#[112, 43]⟩
def hexes_Print.s8 : ByteArray := ⟨#[112]⟩
noncomputable def hexes_Print.sg : Sig := ⟨[(false, [.int .i64]), (false, [.int .u64])], [(false, [.str]), (false, [.int .i64])]⟩
noncomputable def hexes_Print.C : Ctx := ⟨TT, [(48, ⟨format_Class.sg, format_Class⟩), (49, ⟨format_Fields.sg, format_Fields⟩), (50, ⟨format_Params.sg, format_Params⟩), (51, ⟨strconv_FormatUint.sg, strconv_FormatUint⟩), (52, ⟨strconv_Itoa.sg, strconv_Itoa⟩)], GL⟩
noncomputable def hexes_Print.h : H := (.node none .leaf (.node none .leaf (.node none .leaf (.node none .leaf (.node none .leaf (.node none .leaf (.node (some [(0, .any), (6, .any), (9, .any), (10, .any), (12, .any)]) .leaf (.node (some [(0, .any), (9, .any), (10, .any), (12, .any)]) .leaf (.node none .leaf (.node none .leaf (.node none (.node none .leaf (.node none (.node none .leaf (.node none (.node (some [(10, .any), (12, .any), (15, .any), (16, .any)]) .leaf .leaf) .leaf)) .leaf)) (.node (some [(10, .any), (12, .any), (15, .any), (16, .any)]) .leaf (.node none (.node none .leaf (.node none .leaf (.node none (.node none .leaf (.node none .leaf (.node none (.node (some [(16, .any), (17, .any), (18, .any)]) .leaf .leaf) .leaf))) .leaf))) .leaf)))))))))))))
noncomputable def hexes_Print : Nat → Int → Int → Option (ByteArray × Int) := vxFun hexes_Print.C Go.Proofs.Tryd.f16 hexes_Print.h hexes_Print.sg
noncomputable def hexes_Print.j0 (k : Nat) (x0 : Int) (x1 : Int) (x2 : Int) (x3 : Int) (s4 : ByteArray) : Option (ByteArray × Int) := vxAt hexes_Print.C k [.b, .b, .b, .b, .b, .b] (bodyOf Go.Proofs.Tryd.f16) hexes_Print.h (st0 [(0, .one (.int .i64 x0)), (6, .one (.int .i64 x1)), (9, .one (.int .u64 x2)), (10, .one (.int .u64 x3)), (12, .one (.str s4))] [] 1000 113) (kret hexes_Print.C Go.Proofs.Tryd.f16 hexes_Print.sg)
noncomputable def hexes_Print.j1 (k : Nat) (x0 : Int) (x1 : Int) (x2 : Int) (s3 : ByteArray) : Option (ByteArray × Int) := vxAt hexes_Print.C k [.b, .b, .b, .b, .b, .b, .b] (bodyOf Go.Proofs.Tryd.f16) hexes_Print.h (st0 [(0, .one (.int .i64 x0)), (9, .one (.int .u64 x1)), (10, .one (.int .u64 x2)), (12, .one (.str s3))] [] 1000 113) (kret hexes_Print.C Go.Proofs.Tryd.f16 hexes_Print.sg)
noncomputable def hexes_Print.l2 (k n : Nat) (x0 : Int) (s1 : ByteArray) (x2 : Int) (x3 : Int) : Option (ByteArray × Int) := vxAt hexes_Print.C k [.b, .b, .b, .b, .b, .b, .b, .b, .b, .b, .a, .b, .thn, .b, .blk, .loop n] (bodyOf Go.Proofs.Tryd.f16) hexes_Print.h (st0 [(10, .one (.int .u64 x0)), (12, .one (.str s1)), (15, .one (.int .i64 x2)), (16, .one (.int .i64 x3))] [] 1000 113) (kret hexes_Print.C Go.Proofs.Tryd.f16 hexes_Print.sg)
noncomputable def hexes_Print.j3 (k : Nat) (x0 : Int) (s1 : ByteArray) (x2 : Int) (x3 : Int) : Option (ByteArray × Int) := vxAt hexes_Print.C k [.b, .b, .b, .b, .b, .b, .b, .b, .b, .b, .b] (bodyOf Go.Proofs.Tryd.f16) hexes_Print.h (st0 [(10, .one (.int .u64 x0)), (12, .one (.str s1)), (15, .one (.int .i64 x2)), (16, .one (.int .i64 x3))] [] 1000 113) (kret hexes_Print.C Go.Proofs.Tryd.f16 hexes_Print.sg)
noncomputable def hexes_Print.l4 (k n : Nat) (x0 : Int) (s1 : ByteArray) (x2 : Int) : Option (ByteArray × Int) := vxAt hexes_Print.C k [.b, .b, .b, .b, .b, .b, .b, .b, .b, .b, .b, .b, .a, .b, .b, .thn, .b, .b, .blk, .loop n] (bodyOf Go.Proofs.Tryd.f16) hexes_Print.h (st0 [(16, .one (.int .i64 x0)), (17, .one (.str s1)), (18, .one (.int .u64 x2))] [] 1000 113) (kret hexes_Print.C Go.Proofs.Tryd.f16 hexes_Print.sg)
noncomputable def vernierref06_Params.sg : Sig := ⟨[(false, [.int .i64])], [(false, [.int .i64]), (false, [.int .i64]), (false, [.int .i64])]⟩
noncomputable def vernierref06_Params.C : Ctx := ⟨TT, [], GL⟩
noncomputable def vernierref06_Params.h : H := .leaf
noncomputable def vernierref06_Params : Nat → Int → Option (Int × Int × Int) := vxFun vernierref06_Params.C Go.Proofs.Tryd.f22 vernierref06_Params.h vernierref06_Params.sg
noncomputable def vernierref06_Known.sg : Sig := ⟨[(false, [.int .i64]), (false, [.int .i64])], [(false, [.int .i64])]⟩
noncomputable def vernierref06_Known.C : Ctx := ⟨TT, [(22, ⟨vernierref06_Params.sg, vernierref06_Params⟩)], GL⟩
noncomputable def vernierref06_Known.h : H := .leaf
noncomputable def vernierref06_Known : Nat → Int → Int → Option (Int) := vxFun vernierref06_Known.C Go.Proofs.Tryd.f53 vernierref06_Known.h vernierref06_Known.sg
noncomputable def vernierref06_Fits.sg : Sig := ⟨[(false, [.int .i64]), (false, [.int .u64])], [(false, [.bool])]⟩
noncomputable def vernierref06_Fits.C : Ctx := ⟨TT, [(22, ⟨vernierref06_Params.sg, vernierref06_Params⟩)], GL⟩
noncomputable def vernierref06_Fits.h : H := .leaf
noncomputable def vernierref06_Fits : Nat → Int → Int → Option (Bool) := vxFun vernierref06_Fits.C Go.Proofs.Tryd.f54 vernierref06_Fits.h vernierref06_Fits.sg
noncomputable def vernierref03_Trim.sg : Sig := ⟨[(false, [.ro (.int .u64)])], [(false, [.ro (.int .u64)])]⟩
noncomputable def vernierref03_Trim.C : Ctx := ⟨TT, [], GL⟩
noncomputable def vernierref03_Trim.h : H := (.node none .leaf (.node none .leaf (.node none (.node none (.node (some [(0, (.ro (.int .u64))), (3, .any)]) .leaf .leaf) .leaf) .leaf)))
noncomputable def vernierref03_Trim : Nat → List Int → Option ((List Int)) := vxFun vernierref03_Trim.C Go.Proofs.Tryd.f101 vernierref03_Trim.h vernierref03_Trim.sg
noncomputable def vernierref03_Trim.l0 (k n : Nat) (l0 : (List Int)) (x1 : Int) : Option ((List Int)) := vxAt vernierref03_Trim.C k [.b, .b, .a, .blk, .loop n] (bodyOf Go.Proofs.Tryd.f101) vernierref03_Trim.h (st0 [(0, .one (.ro (.int .u64) l0)), (3, .one (.int .i64 x1))] [] 1000 21) (kret vernierref03_Trim.C Go.Proofs.Tryd.f101 vernierref03_Trim.sg)
noncomputable def vernierref03_Digits.sg : Sig := ⟨[(false, [.ro (.int .u64)])], [(false, [.ro (.int .u64)])]⟩
noncomputable def vernierref03_Digits.C : Ctx := ⟨TT, [(101, ⟨vernierref03_Trim.sg, vernierref03_Trim⟩)], GL⟩
noncomputable def vernierref03_Digits.h : H := (.node none .leaf (.node none .leaf (.node none (.node none .leaf (.node none (.node (some [(0, (.ro (.int .u64))), (3, (.rw (.int .u64))), (4, .any)]) .leaf .leaf) .leaf)) .leaf)))
noncomputable def vernierref03_Digits : Nat → List Int → Option ((List Int)) := vxFun vernierref03_Digits.C Go.Proofs.Tryd.f70 vernierref03_Digits.h vernierref03_Digits.sg
noncomputable def vernierref03_Digits.l0 (k n : Nat) (l0 : (List Int)) (x1 : Int) (l2 : (List Int)) : Option ((List Int)) := vxAt vernierref03_Digits.C k [.b, .b, .a, .b, .blk, .loop n] (bodyOf Go.Proofs.Tryd.f70) vernierref03_Digits.h (st0 [(0, .one (.ro (.int .u64) l0)), (3, .one (.sl 1000 0 none)), (4, .one (.int .i64 x1))] [(1000, .arr (.int .u64) l2 .full)] 1001 30) (kret vernierref03_Digits.C Go.Proofs.Tryd.f70 vernierref03_Digits.sg)
noncomputable def vernierref06_Open.sg : Sig := ⟨[(false, [.int .i64]), (false, [.int .u64])], [(true, [.bool, .bool, .bool, .bool, .bool, .ro (.int .u64), .int .i64])]⟩
noncomputable def vernierref06_Open.C : Ctx := ⟨TT, [(22, ⟨vernierref06_Params.sg, vernierref06_Params⟩), (70, ⟨vernierref03_Digits.sg, vernierref03_Digits⟩)], GL⟩
noncomputable def vernierref06_Open.h : H := .leaf
noncomputable def vernierref06_Open : Nat → Int → Int → Option (Bool × Bool × Bool × Bool × Bool × (List Int) × Int) := vxFun vernierref06_Open.C Go.Proofs.Tryd.f23 vernierref06_Open.h vernierref06_Open.sg
noncomputable def vernierref06_Float_Zero.sg : Sig := ⟨[(true, [.bool, .bool, .bool, .bool, .bool, .ro (.int .u64), .int .i64])], [(false, [.bool])]⟩
noncomputable def vernierref06_Float_Zero.C : Ctx := ⟨TT, [], GL⟩
noncomputable def vernierref06_Float_Zero.h : H := .leaf
noncomputable def vernierref06_Float_Zero : Nat → Bool → Bool → Bool → Bool → Bool → List Int → Int → Option (Bool) := vxFun vernierref06_Float_Zero.C Go.Proofs.Tryd.f55 vernierref06_Float_Zero.h vernierref06_Float_Zero.sg
noncomputable def vernierref03_Words.sg : Sig := ⟨[(false, [.ro (.int .u64)])], [(false, [.ro (.int .u64)])]⟩
noncomputable def vernierref03_Words.C : Ctx := ⟨TT, [(101, ⟨vernierref03_Trim.sg, vernierref03_Trim⟩)], GL⟩
noncomputable def vernierref03_Words.h : H := (.node none .leaf (.node none .leaf (.node none (.node none .leaf (.node none (.node (some [(0, (.ro (.int .u64))), (3, (.rw (.int .u64))), (4, .any)]) .leaf .leaf) .leaf)) .leaf)))
noncomputable def vernierref03_Words : Nat → List Int → Option ((List Int)) := vxFun vernierref03_Words.C Go.Proofs.Tryd.f56 vernierref03_Words.h vernierref03_Words.sg
noncomputable def vernierref03_Words.l0 (k n : Nat) (l0 : (List Int)) (x1 : Int) (l2 : (List Int)) : Option ((List Int)) := vxAt vernierref03_Words.C k [.b, .b, .a, .b, .blk, .loop n] (bodyOf Go.Proofs.Tryd.f56) vernierref03_Words.h (st0 [(0, .one (.ro (.int .u64) l0)), (3, .one (.sl 1000 0 none)), (4, .one (.int .i64 x1))] [(1000, .arr (.int .u64) l2 .full)] 1001 41) (kret vernierref03_Words.C Go.Proofs.Tryd.f56 vernierref03_Words.sg)
noncomputable def vernierref03_Bits.sg : Sig := ⟨[(false, [.ro (.int .u64)])], [(false, [.int .i64])]⟩
noncomputable def vernierref03_Bits.C : Ctx := ⟨TT, [(101, ⟨vernierref03_Trim.sg, vernierref03_Trim⟩)], GL⟩
noncomputable def vernierref03_Bits.h : H := (.node none .leaf (.node none .leaf (.node none .leaf (.node none .leaf (.node none (.node none .leaf (.node none (.node (some [(3, .any), (4, .any)]) .leaf .leaf) .leaf)) .leaf)))))
noncomputable def vernierref03_Bits : Nat → List Int → Option (Int) := vxFun vernierref03_Bits.C Go.Proofs.Tryd.f57 vernierref03_Bits.h vernierref03_Bits.sg
noncomputable def vernierref03_Bits.l0 (k n : Nat) (x0 : Int) (x1 : Int) : Option (Int) := vxAt vernierref03_Bits.C k [.b, .b, .b, .b, .a, .b, .blk, .loop n] (bodyOf Go.Proofs.Tryd.f57) vernierref03_Bits.h (st0 [(3, .one (.int .i64 x0)), (4, .one (.int .u64 x1))] [] 1000 27) (kret vernierref03_Bits.C Go.Proofs.Tryd.f57 vernierref03_Bits.sg)
def vernierref15_number.s0 : ByteArray := ⟨#[45]⟩
def vernierref15_number.s1 : ByteArray := ⟨#[43]⟩
def vernierref15_number.s2 : ByteArray := ⟨#[]⟩
def vernierref15_number.s3 : ByteArray := ⟨#[48, 49, 50, 51, 52, 53, 54, 55, 56, 57, 97, 98, 99, 100, 101, 102]⟩
noncomputable def vernierref15_number.sg : Sig := ⟨[(false, [.int .i64])], [(false, [.str])]⟩
noncomputable def vernierref15_number.C : Ctx := ⟨TT, [], GL⟩
noncomputable def vernierref15_number.h : H := (.node none .leaf (.node none .leaf (.node none .leaf (.node (some [(0, .any), (3, .any)]) .leaf (.node none (.node none (.node (some [(0, .any), (3, .any), (4, .any)]) .leaf .leaf) .leaf) .leaf)))))
noncomputable def vernierref15_number : Nat → Int → Option (ByteArray) := vxFun vernierref15_number.C Go.Proofs.Tryd.f58 vernierref15_number.h vernierref15_number.sg
noncomputable def vernierref15_number.j0 (k : Nat) (x0 : Int) (s1 : ByteArray) : Option (ByteArray) := vxAt vernierref15_number.C k [.b, .b, .b] (bodyOf Go.Proofs.Tryd.f58) vernierref15_number.h (st0 [(0, .one (.int .i64 x0)), (3, .one (.str s1))] [] 1000 28) (kret vernierref15_number.C Go.Proofs.Tryd.f58 vernierref15_number.sg)
noncomputable def vernierref15_number.l1 (k n : Nat) (x0 : Int) (s1 : ByteArray) (s2 : ByteArray) : Option (ByteArray) := vxAt vernierref15_number.C k [.b, .b, .b, .b, .a, .blk, .loop n] (bodyOf Go.Proofs.Tryd.f58) vernierref15_number.h (st0 [(0, .one (.int .i64 x0)), (3, .one (.str s1)), (4, .one (.str s2))] [] 1000 28) (kret vernierref15_number.C Go.Proofs.Tryd.f58 vernierref15_number.sg)
def vernierref15_Print.s0 : ByteArray := ⟨#[]⟩
def vernierref15_Print.s1 : ByteArray := ⟨#[110, 97, 110]⟩
def vernierref15_Print.s2 : ByteArray := ⟨#[45]⟩
def vernierref15_Print.s3 : ByteArray := ⟨#[105, 110, 102]⟩
def vernierref15_Print.s4 : ByteArray := ⟨#[48, 120, 48, 112, 43, 48]⟩
def vernierref15_Print.s5 : ByteArray := ⟨#[48, 49, 50, 51, 52, 53, 54, 55, 56, 57, 97, 98, 99, 100, 101, 102]⟩
def vernierref15_Print.s6 : ByteArray := ⟨#[48, 120, 49]⟩
def vernierref15_Print.s7 : ByteArray := ⟨#[46]⟩
def vernierref15_Print.s8 : ByteArray := ⟨#[112]⟩
noncomputable def vernierref15_Print.sg : Sig := ⟨[(false, [.int .i64]), (false, [.int .u64])], [(false, [.str]), (false, [.int .i64])]⟩
noncomputable def vernierref15_Print.C : Ctx := ⟨TT, [(53, ⟨vernierref06_Known.sg, vernierref06_Known⟩), (54, ⟨vernierref06_Fits.sg, vernierref06_Fits⟩), (23, ⟨vernierref06_Open.sg, vernierref06_Open⟩), (55, ⟨vernierref06_Float_Zero.sg, vernierref06_Float_Zero⟩), (56, ⟨vernierref03_Words.sg, vernierref03_Words⟩), (57, ⟨vernierref03_Bits.sg, vernierref03_Bits⟩), (58, ⟨vernierref15_number.sg, vernierref15_number⟩)], GL⟩
noncomputable def vernierref15_Print.h : H := (.node none .leaf (.node none .leaf (.node none .leaf (.node none .leaf (.node none .leaf (.node none .leaf (.node none .leaf (.node none .leaf (.node (some [(7, (.cells [.any, .any, .any, .any, .any, (.ro (.int .u64)), .any])), (8, .any)]) .leaf (.node none .leaf (.node none .leaf (.node none .leaf (.node none .leaf (.node none .leaf (.node none .leaf (.node none (.node none (.node (some [(7, (.cells [.any, .any, .any, .any, .any, (.ro (.int .u64)), .any])), (8, .any), (11, .any), (12, .any), (13, .any)]) .leaf .leaf) .leaf) .leaf))))))))))))))))
noncomputable def vernierref15_Print : Nat → Int → Int → Option (ByteArray × Int) := vxFun vernierref15_Print.C Go.Proofs.Tryd.f17 vernierref15_Print.h vernierref15_Print.sg
noncomputable def vernierref15_Print.j0 (k : Nat) (s0 : ByteArray) (b1 : Bool) (b2 : Bool) (b3 : Bool) (b4 : Bool) (b5 : Bool) (l6 : (List Int)) (x7 : Int) : Option (ByteArray × Int) := vxAt vernierref15_Print.C k [.b, .b, .b, .b, .b, .b, .b, .b] (bodyOf Go.Proofs.Tryd.f17) vernierref15_Print.h (st0 [(7, .one (.ref 1000 0)), (8, .one (.str s0))] [(1000, .loc [(.bool b1), (.bool b2), (.bool b3), (.bool b4), (.bool b5), (.ro (.int .u64) l6), (.int .i64 x7)])] 1001 86) (kret vernierref15_Print.C Go.Proofs.Tryd.f17 vernierref15_Print.sg)
noncomputable def vernierref15_Print.l1 (k n : Nat) (s0 : ByteArray) (x1 : Int) (x2 : Int) (s3 : ByteArray) (b4 : Bool) (b5 : Bool) (b6 : Bool) (b7 : Bool) (b8 : Bool) (l9 : (List Int)) (x10 : Int) : Option (ByteArray × Int) := vxAt vernierref15_Print.C k [.b, .b, .b, .b, .b, .b, .b, .b, .b, .b, .b, .b, .b, .b, .b, .a, .blk, .loop n] (bodyOf Go.Proofs.Tryd.f17) vernierref15_Print.h (st0 [(7, .one (.ref 1000 0)), (8, .one (.str s0)), (11, .one (.int .i64 x1)), (12, .one (.int .u64 x2)), (13, .one (.str s3))] [(1000, .loc [(.bool b4), (.bool b5), (.bool b6), (.bool b7), (.bool b8), (.ro (.int .u64) l9), (.int .i64 x10)])] 1001 86) (kret vernierref15_Print.C Go.Proofs.Tryd.f17 vernierref15_Print.sg)
noncomputable def format_none.sg : Sig := ⟨[(true, [.int .i64, .int .i64, .int .i64, .int .i64])], [(false, [.int .u64])]⟩
noncomputable def format_none.C : Ctx := ⟨TT, [], GL⟩
noncomputable def format_none.h : H := .leaf
noncomputable def format_none : Nat → Int → Int → Int → Int → Option (Int) := vxFun format_none.C Go.Proofs.Tryd.f81 format_none.h format_none.sg
noncomputable def format_top.sg : Sig := ⟨[(true, [.int .i64, .int .i64, .int .i64, .int .i64])], [(false, [.int .u64])]⟩
noncomputable def format_top.C : Ctx := ⟨TT, [], GL⟩
noncomputable def format_top.h : H := .leaf
noncomputable def format_top : Nat → Int → Int → Int → Int → Option (Int) := vxFun format_top.C Go.Proofs.Tryd.f102 format_top.h format_top.sg
noncomputable def format_join.sg : Sig := ⟨[(true, [.int .i64, .int .i64, .int .i64, .int .i64]), (false, [.bool]), (false, [.int .u64]), (false, [.int .u64])], [(false, [.int .u64])]⟩
noncomputable def format_join.C : Ctx := ⟨TT, [], GL⟩
noncomputable def format_join.h : H := .leaf
noncomputable def format_join : Nat → Int → Int → Int → Int → Bool → Int → Int → Option (Int) := vxFun format_join.C Go.Proofs.Tryd.f122 format_join.h format_join.sg
noncomputable def format_special_none_top.sg : Sig := ⟨[(false, [.int .i64]), (false, [.bool]), (false, [.fn 81]), (false, [.fn 102])], [(false, [.int .u64]), (false, [.int .i64])]⟩
noncomputable def format_special_none_top.C : Ctx := ⟨TT, [(50, ⟨format_Params.sg, format_Params⟩), (98, ⟨format_ones.sg, format_ones⟩), (81, ⟨format_none.sg, format_none⟩), (102, ⟨format_top.sg, format_top⟩), (122, ⟨format_join.sg, format_join⟩)], GL⟩
noncomputable def format_special_none_top.h : H := .leaf
noncomputable def format_special_none_top : Nat → Int → Bool → Option (Int × Int) := vxFun format_special_none_top.C Go.Proofs.Tryd.f79 format_special_none_top.h format_special_none_top.sg
noncomputable def format_NaN.sg : Sig := ⟨[(false, [.int .i64])], [(false, [.int .u64]), (false, [.int .i64])]⟩
noncomputable def format_NaN.C : Ctx := ⟨TT, [(79, ⟨format_special_none_top.sg, format_special_none_top⟩)], GL⟩
noncomputable def format_NaN.h : H := .leaf
noncomputable def format_NaN : Nat → Int → Option (Int × Int) := vxFun format_NaN.C Go.Proofs.Tryd.f59 format_NaN.h format_NaN.sg
noncomputable def stringslite_HasPrefix.sg : Sig := ⟨[(false, [.str]), (false, [.str])], [(false, [.bool])]⟩
noncomputable def stringslite_HasPrefix.C : Ctx := ⟨TT, [], GL⟩
noncomputable def stringslite_HasPrefix.h : H := .leaf
noncomputable def stringslite_HasPrefix : Nat → ByteArray → ByteArray → Option (Bool) := vxFun stringslite_HasPrefix.C Go.Proofs.Tryd.f103 stringslite_HasPrefix.h stringslite_HasPrefix.sg
noncomputable def strings_HasPrefix.sg : Sig := ⟨[(false, [.str]), (false, [.str])], [(false, [.bool])]⟩
noncomputable def strings_HasPrefix.C : Ctx := ⟨TT, [(103, ⟨stringslite_HasPrefix.sg, stringslite_HasPrefix⟩)], GL⟩
noncomputable def strings_HasPrefix.h : H := .leaf
noncomputable def strings_HasPrefix : Nat → ByteArray → ByteArray → Option (Bool) := vxFun strings_HasPrefix.C Go.Proofs.Tryd.f60 strings_HasPrefix.h strings_HasPrefix.sg
noncomputable def hexes_letters.sg : Sig := ⟨[(false, [.str]), (false, [.str])], [(false, [.bool])]⟩
noncomputable def hexes_letters.C : Ctx := ⟨TT, [], GL⟩
noncomputable def hexes_letters.h : H := (.node none .leaf (.node none .leaf (.node none (.node none .leaf (.node none (.node (some [(0, .any), (1, .any), (12, .any), (13, .any)]) .leaf .leaf) .leaf)) .leaf)))
noncomputable def hexes_letters : Nat → ByteArray → ByteArray → Option (Bool) := vxFun hexes_letters.C Go.Proofs.Tryd.f61 hexes_letters.h hexes_letters.sg
noncomputable def hexes_letters.l0 (k n : Nat) (s0 : ByteArray) (s1 : ByteArray) (x2 : Int) (x3 : Int) : Option (Bool) := vxAt hexes_letters.C k [.b, .b, .a, .b, .blk, .loop n] (bodyOf Go.Proofs.Tryd.f61) hexes_letters.h (st0 [(0, .one (.str s0)), (1, .one (.str s1)), (12, .one (.int .i64 x2)), (13, .one (.int .i64 x3))] [] 1000 25) (kret hexes_letters.C Go.Proofs.Tryd.f61 hexes_letters.sg)
noncomputable def format_special_none_none.sg : Sig := ⟨[(false, [.int .i64]), (false, [.bool]), (false, [.fn 81]), (false, [.fn 81])], [(false, [.int .u64]), (false, [.int .i64])]⟩
noncomputable def format_special_none_none.C : Ctx := ⟨TT, [(50, ⟨format_Params.sg, format_Params⟩), (98, ⟨format_ones.sg, format_ones⟩), (81, ⟨format_none.sg, format_none⟩), (122, ⟨format_join.sg, format_join⟩)], GL⟩
noncomputable def format_special_none_none.h : H := .leaf
noncomputable def format_special_none_none : Nat → Int → Bool → Option (Int × Int) := vxFun format_special_none_none.C Go.Proofs.Tryd.f79 format_special_none_none.h format_special_none_none.sg
noncomputable def format_Infinity.sg : Sig := ⟨[(false, [.int .i64]), (false, [.bool])], [(false, [.int .u64]), (false, [.int .i64])]⟩
noncomputable def format_Infinity.C : Ctx := ⟨TT, [(79, ⟨format_special_none_none.sg, format_special_none_none⟩)], GL⟩
noncomputable def format_Infinity.h : H := .leaf
noncomputable def format_Infinity : Nat → Int → Bool → Option (Int × Int) := vxFun format_Infinity.C Go.Proofs.Tryd.f62 format_Infinity.h format_Infinity.sg
noncomputable def hexes_digit.sg : Sig := ⟨[(false, [.int .i32])], [(false, [.int .i64])]⟩
noncomputable def hexes_digit.C : Ctx := ⟨TT, [], GL⟩
noncomputable def hexes_digit.h : H := (.node none .leaf (.node none (.node none (.node none .leaf (.node (some [(0, .any), (3, .any)]) .leaf .leaf)) .leaf) .leaf))
noncomputable def hexes_digit : Nat → Int → Option (Int) := vxFun hexes_digit.C Go.Proofs.Tryd.f104 hexes_digit.h hexes_digit.sg
noncomputable def hexes_digit.j0 (k : Nat) (x0 : Int) (b1 : Bool) : Option (Int) := vxAt hexes_digit.C k [.b, .a, .blk, .b] (bodyOf Go.Proofs.Tryd.f104) hexes_digit.h (st0 [(0, .one (.int .i32 x0)), (3, .one (.bool b1))] [] 1000 35) (kret hexes_digit.C Go.Proofs.Tryd.f104 hexes_digit.sg)
def hexes_exponent.s0 : ByteArray := ⟨#[45]⟩
def hexes_exponent.s1 : ByteArray := ⟨#[43]⟩
def hexes_exponent.s2 : ByteArray := ⟨#[]⟩
noncomputable def hexes_exponent.sg : Sig := ⟨[(false, [.str])], [(false, [.int .i64]), (false, [.bool])]⟩
noncomputable def hexes_exponent.C : Ctx := ⟨TT, [(60, ⟨strings_HasPrefix.sg, strings_HasPrefix⟩)], GL⟩
noncomputable def hexes_exponent.h : H := (.node none .leaf (.node none .leaf (.node none .leaf (.node (some [(0, .any), (4, .any)]) .leaf (.node none (.node none .leaf (.node none (.node (some [(0, .any), (4, .any), (5, .any), (18, .it)]) .leaf .leaf) .leaf)) .leaf)))))
noncomputable def hexes_exponent : Nat → ByteArray → Option (Int × Bool) := vxFun hexes_exponent.C Go.Proofs.Tryd.f105 hexes_exponent.h hexes_exponent.sg
noncomputable def hexes_exponent.j0 (k : Nat) (s0 : ByteArray) (b1 : Bool) : Option (Int × Bool) := vxAt hexes_exponent.C k [.b, .b, .b] (bodyOf Go.Proofs.Tryd.f105) hexes_exponent.h (st0 [(0, .one (.str s0)), (4, .one (.bool b1))] [] 1000 41) (kret hexes_exponent.C Go.Proofs.Tryd.f105 hexes_exponent.sg)
noncomputable def hexes_exponent.l1 (k n : Nat) (s0 : ByteArray) (b1 : Bool) (x2 : Int) (s3 : ByteArray) (n4 : Nat) : Option (Int × Bool) := vxAt hexes_exponent.C k [.b, .b, .b, .b, .a, .b, .blk, .loop n] (bodyOf Go.Proofs.Tryd.f105) hexes_exponent.h (st0 [(0, .one (.str s0)), (4, .one (.bool b1)), (5, .one (.int .i64 x2)), (18, .one (.ref 1000 0))] [(1000, .iter s3 n4)] 1001 41) (kret hexes_exponent.C Go.Proofs.Tryd.f105 hexes_exponent.sg)
noncomputable def hexes_read.sg : Sig := ⟨[(false, [.str])], [(true, [.fr (.int .i64), .int .i64]), (false, [.int .i64]), (false, [.bool])]⟩
noncomputable def hexes_read.C : Ctx := ⟨TT, [(104, ⟨hexes_digit.sg, hexes_digit⟩), (105, ⟨hexes_exponent.sg, hexes_exponent⟩)], GL⟩
noncomputable def hexes_read.h : H := (.node none .leaf (.node none .leaf (.node none (.node none .leaf (.node none (.node (some [(0, .any), (2, (.cells [(.rw (.int .i64)), .any])), (5, .any), (10, .it)]) (.node none .leaf (.node none .leaf (.node none (.node none .leaf (.node none .leaf (.node none (.node none .leaf (.node none .leaf (.node none .leaf (.node (some [(0, .any), (2, (.cells [(.rw (.int .i64)), .any])), (6, .any), (7, .any), (10, .it), (32, .any)]) .leaf (.node none .leaf (.node (some [(0, .any), (2, (.cells [(.rw (.int .i64)), .any])), (6, .any), (39, .any)]) .leaf .leaf)))))) .leaf))) .leaf))) .leaf) .leaf)) .leaf)))
noncomputable def hexes_read : Nat → ByteArray → Option ((List Int) × Int × Int × Bool) := vxFun hexes_read.C Go.Proofs.Tryd.f63 hexes_read.h hexes_read.sg
noncomputable def hexes_read.l0 (k n : Nat) (s0 : ByteArray) (b1 : Bool) (l2 : (List Int)) (x3 : Int) (s4 : ByteArray) (n5 : Nat) : Option ((List Int) × Int × Int × Bool) := vxAt hexes_read.C k [.b, .b, .a, .b, .blk, .loop n] (bodyOf Go.Proofs.Tryd.f63) hexes_read.h (st0 [(0, .one (.str s0)), (2, .one (.ref 1000 0)), (5, .one (.bool b1)), (10, .one (.ref 1002 0))] [(1001, .arr (.int .i64) l2 .full), (1000, .loc [(.sl 1001 0 none), (.int .i64 x3)]), (1002, .iter s4 n5)] 1003 68) (kret hexes_read.C Go.Proofs.Tryd.f63 hexes_read.sg)
noncomputable def hexes_read.j1 (k n0 : Nat) (s0 : ByteArray) (x1 : Int) (x2 : Int) (b3 : Bool) (l4 : (List Int)) (x5 : Int) (s6 : ByteArray) (n7 : Nat) : Option ((List Int) × Int × Int × Bool) := vxAt hexes_read.C k [.b, .b, .a, .b, .blk, .loop n0, .b, .b, .blk, .b, .b, .blk, .b, .els, .b] (bodyOf Go.Proofs.Tryd.f63) hexes_read.h (st0 [(0, .one (.str s0)), (2, .one (.ref 1000 0)), (6, .one (.int .i64 x1)), (7, .one (.int .i32 x2)), (10, .one (.ref 1002 0)), (32, .one (.bool b3))] [(1001, .arr (.int .i64) l4 .full), (1000, .loc [(.sl 1001 0 none), (.int .i64 x5)]), (1002, .iter s6 n7)] 1003 68) (kret hexes_read.C Go.Proofs.Tryd.f63 hexes_read.sg)
noncomputable def hexes_read.j2 (k n0 : Nat) (s0 : ByteArray) (x1 : Int) (b2 : Bool) (l3 : (List Int)) (x4 : Int) : Option ((List Int) × Int × Int × Bool) := vxAt hexes_read.C k [.b, .b, .a, .b, .blk, .loop n0, .b, .b, .blk, .b, .b, .blk, .b, .els, .b, .els, .b] (bodyOf Go.Proofs.Tryd.f63) hexes_read.h (st0 [(0, .one (.str s0)), (2, .one (.ref 1000 0)), (6, .one (.int .i64 x1)), (39, .one (.bool b2))] [(1001, .arr (.int .i64) l3 .full), (1000, .loc [(.sl 1001 0 none), (.int .i64 x4)])] 1002 68) (kret hexes_read.C Go.Proofs.Tryd.f63 hexes_read.sg)
noncomputable def hexes_natural.sg : Sig := ⟨[(false, [.ro (.int .i64)])], [(false, [.fr (.int .u64)])]⟩
noncomputable def hexes_natural.C : Ctx := ⟨TT, [], GL⟩
noncomputable def hexes_natural.h : H := (.node none .leaf (.node none .leaf (.node none (.node none .leaf (.node none (.node (some [(0, (.ro (.int .i64))), (3, (.rw (.int .u64))), (12, (.ro (.int .i64))), (13, .any), (14, .any)]) .leaf .leaf) .leaf)) .leaf)))
noncomputable def hexes_natural : Nat → List Int → Option ((List Int)) := vxFun hexes_natural.C Go.Proofs.Tryd.f64 hexes_natural.h hexes_natural.sg
noncomputable def hexes_natural.l0 (k n : Nat) (l0 : (List Int)) (l1 : (List Int)) (x2 : Int) (x3 : Int) (l4 : (List Int)) : Option ((List Int)) := vxAt hexes_natural.C k [.b, .b, .a, .b, .blk, .loop n] (bodyOf Go.Proofs.Tryd.f64) hexes_natural.h (st0 [(0, .one (.ro (.int .i64) l0)), (3, .one (.sl 1000 0 none)), (12, .one (.ro (.int .i64) l1)), (13, .one (.int .i64 x2)), (14, .one (.int .i64 x3))] [(1000, .arr (.int .u64) l4 .full)] 1001 39) (kret hexes_natural.C Go.Proofs.Tryd.f64 hexes_natural.sg)
noncomputable def nat_trim_own.sg : Sig := ⟨[(false, [.own (.int .u64)])], [(false, [.fr (.int .u64)])]⟩
noncomputable def nat_trim_own.C : Ctx := ⟨TT, [], GL⟩
noncomputable def nat_trim_own.h : H := (.node none .leaf (.node none .leaf (.node none (.node none (.node (some [(0, (.rw (.int .u64))), (3, .any)]) .leaf .leaf) .leaf) .leaf)))
noncomputable def nat_trim_own : Nat → List Int → Option ((List Int)) := vxFun nat_trim_own.C Go.Proofs.Tryd.f84 nat_trim_own.h nat_trim_own.sg
noncomputable def nat_trim_own.l0 (k n : Nat) (x0 : Int) (l1 : (List Int)) : Option ((List Int)) := vxAt nat_trim_own.C k [.b, .b, .a, .blk, .loop n] (bodyOf Go.Proofs.Tryd.f84) nat_trim_own.h (st0 [(0, .one (.sl 1000 0 none)), (3, .one (.int .i64 x0))] [(1000, .arr (.int .u64) l1 .full)] 1001 21) (kret nat_trim_own.C Go.Proofs.Tryd.f84 nat_trim_own.sg)
noncomputable def nat_trim.sg : Sig := ⟨[(false, [.ro (.int .u64)])], [(false, [.ro (.int .u64)])]⟩
noncomputable def nat_trim.C : Ctx := ⟨TT, [], GL⟩
noncomputable def nat_trim.h : H := (.node none .leaf (.node none .leaf (.node none (.node none (.node (some [(0, (.ro (.int .u64))), (3, .any)]) .leaf .leaf) .leaf) .leaf)))
noncomputable def nat_trim : Nat → List Int → Option ((List Int)) := vxFun nat_trim.C Go.Proofs.Tryd.f84 nat_trim.h nat_trim.sg
noncomputable def nat_trim.l0 (k n : Nat) (l0 : (List Int)) (x1 : Int) : Option ((List Int)) := vxAt nat_trim.C k [.b, .b, .a, .blk, .loop n] (bodyOf Go.Proofs.Tryd.f84) nat_trim.h (st0 [(0, .one (.ro (.int .u64) l0)), (3, .one (.int .i64 x1))] [] 1000 21) (kret nat_trim.C Go.Proofs.Tryd.f84 nat_trim.sg)
noncomputable def nat_copied.sg : Sig := ⟨[(false, [.ro (.int .u64)])], [(false, [.fr (.int .u64)])]⟩
noncomputable def nat_copied.C : Ctx := ⟨TT, [(84, ⟨nat_trim.sg, nat_trim⟩)], GL⟩
noncomputable def nat_copied.h : H := .leaf
noncomputable def nat_copied : Nat → List Int → Option ((List Int)) := vxFun nat_copied.C Go.Proofs.Tryd.f86 nat_copied.h nat_copied.sg
noncomputable def nat_Trim.sg : Sig := ⟨[(false, [.ro (.int .u64)])], [(false, [.fr (.int .u64)])]⟩
noncomputable def nat_Trim.C : Ctx := ⟨TT, [(86, ⟨nat_copied.sg, nat_copied⟩)], GL⟩
noncomputable def nat_Trim.h : H := .leaf
noncomputable def nat_Trim : Nat → List Int → Option ((List Int)) := vxFun nat_Trim.C Go.Proofs.Tryd.f37 nat_Trim.h nat_Trim.sg
noncomputable def dyad_Sign.sg : Sig := ⟨[(true, [.bool, .ro (.int .u64), .int .i64])], [(false, [.int .i64])]⟩
noncomputable def dyad_Sign.C : Ctx := ⟨TT, [(37, ⟨nat_Trim.sg, nat_Trim⟩)], GL⟩
noncomputable def dyad_Sign.h : H := .leaf
noncomputable def dyad_Sign : Nat → Bool → List Int → Int → Option (Int) := vxFun dyad_Sign.C Go.Proofs.Tryd.f31 dyad_Sign.h dyad_Sign.sg
noncomputable def format_all.sg : Sig := ⟨[(true, [.int .i64, .int .i64, .int .i64, .int .i64])], [(false, [.int .u64])]⟩
noncomputable def format_all.C : Ctx := ⟨TT, [(98, ⟨format_ones.sg, format_ones⟩)], GL⟩
noncomputable def format_all.h : H := .leaf
noncomputable def format_all : Nat → Int → Int → Int → Int → Option (Int) := vxFun format_all.C Go.Proofs.Tryd.f80 format_all.h format_all.sg
noncomputable def format_special_all_none.sg : Sig := ⟨[(false, [.int .i64]), (false, [.bool]), (false, [.fn 80]), (false, [.fn 81])], [(false, [.int .u64]), (false, [.int .i64])]⟩
noncomputable def format_special_all_none.C : Ctx := ⟨TT, [(50, ⟨format_Params.sg, format_Params⟩), (98, ⟨format_ones.sg, format_ones⟩), (80, ⟨format_all.sg, format_all⟩), (81, ⟨format_none.sg, format_none⟩), (122, ⟨format_join.sg, format_join⟩)], GL⟩
noncomputable def format_special_all_none.h : H := .leaf
noncomputable def format_special_all_none : Nat → Int → Bool → Option (Int × Int) := vxFun format_special_all_none.C Go.Proofs.Tryd.f79 format_special_all_none.h format_special_all_none.sg
noncomputable def format_Zero.sg : Sig := ⟨[(false, [.int .i64]), (false, [.bool])], [(false, [.int .u64]), (false, [.int .i64])]⟩
noncomputable def format_Zero.C : Ctx := ⟨TT, [(79, ⟨format_special_all_none.sg, format_special_all_none⟩)], GL⟩
noncomputable def format_Zero.h : H := .leaf
noncomputable def format_Zero : Nat → Int → Bool → Option (Int × Int) := vxFun format_Zero.C Go.Proofs.Tryd.f32 format_Zero.h format_Zero.sg
noncomputable def dyad_refuses.sg : Sig := ⟨[(true, [.bool, .ro (.int .u64), .int .i64])], [(false, [.int .i64])]⟩
noncomputable def dyad_refuses.C : Ctx := ⟨TT, [], GL⟩
noncomputable def dyad_refuses.h : H := .leaf
noncomputable def dyad_refuses : Nat → Bool → List Int → Int → Option (Int) := vxFun dyad_refuses.C Go.Proofs.Tryd.f71 dyad_refuses.h dyad_refuses.sg
noncomputable def nat_Len.sg : Sig := ⟨[(false, [.ro (.int .u64)])], [(false, [.int .i64])]⟩
noncomputable def nat_Len.C : Ctx := ⟨TT, [(84, ⟨nat_trim.sg, nat_trim⟩), (127, ⟨bits_Len64.sg, bits_Len64⟩)], GL⟩
noncomputable def nat_Len.h : H := .leaf
noncomputable def nat_Len : Nat → List Int → Option (Int) := vxFun nat_Len.C Go.Proofs.Tryd.f93 nat_Len.h nat_Len.sg
noncomputable def dyad_Top.sg : Sig := ⟨[(true, [.bool, .ro (.int .u64), .int .i64])], [(false, [.int .i64]), (false, [.int .i64])]⟩
noncomputable def dyad_Top.C : Ctx := ⟨TT, [(71, ⟨dyad_refuses.sg, dyad_refuses⟩), (93, ⟨nat_Len.sg, nat_Len⟩)], GL⟩
noncomputable def dyad_Top.h : H := .leaf
noncomputable def dyad_Top : Nat → Bool → List Int → Int → Option (Int × Int) := vxFun dyad_Top.C Go.Proofs.Tryd.f65 dyad_Top.h dyad_Top.sg
noncomputable def round_modeError.sg : Sig := ⟨[(false, [.int .i64])], [(false, [.int .i64])]⟩
noncomputable def round_modeError.C : Ctx := ⟨TT, [], GL⟩
noncomputable def round_modeError.h : H := .leaf
noncomputable def round_modeError : Nat → Int → Option (Int) := vxFun round_modeError.C Go.Proofs.Tryd.f117 round_modeError.h round_modeError.sg
noncomputable def round_refuses.sg : Sig := ⟨[(false, [.int .i64]), (false, [.int .i64])], [(true, [.int .i64, .int .i64, .int .i64, .int .i64]), (false, [.int .i64])]⟩
noncomputable def round_refuses.C : Ctx := ⟨TT, [(50, ⟨format_Params.sg, format_Params⟩), (117, ⟨round_modeError.sg, round_modeError⟩)], GL⟩
noncomputable def round_refuses.h : H := .leaf
noncomputable def round_refuses : Nat → Int → Int → Option (Int × Int × Int × Int × Int) := vxFun round_refuses.C Go.Proofs.Tryd.f76 round_refuses.h round_refuses.sg
noncomputable def round_zero.sg : Sig := ⟨[(false, [.int .i64]), (false, [.bool])], [(false, [.int .u64]), (false, [.int .i64]), (false, [.int .i64])]⟩
noncomputable def round_zero.C : Ctx := ⟨TT, [(32, ⟨format_Zero.sg, format_Zero⟩)], GL⟩
noncomputable def round_zero.h : H := .leaf
noncomputable def round_zero : Nat → Int → Bool → Option (Int × Int × Int) := vxFun round_zero.C Go.Proofs.Tryd.f106 round_zero.h round_zero.sg
noncomputable def round_number_top.sg : Sig := ⟨[(true, [.bool, .ro (.int .u64), .int .i64, .bool])], [(false, [.int .i64])]⟩
noncomputable def round_number_top.C : Ctx := ⟨TT, [(93, ⟨nat_Len.sg, nat_Len⟩)], GL⟩
noncomputable def round_number_top.h : H := .leaf
noncomputable def round_number_top : Nat → Bool → List Int → Int → Bool → Option (Int) := vxFun round_number_top.C Go.Proofs.Tryd.f118 round_number_top.h round_number_top.sg
noncomputable def format_one.sg : Sig := ⟨[(true, [.int .i64, .int .i64, .int .i64, .int .i64])], [(false, [.int .u64])]⟩
noncomputable def format_one.C : Ctx := ⟨TT, [], GL⟩
noncomputable def format_one.h : H := .leaf
noncomputable def format_one : Nat → Int → Int → Int → Int → Option (Int) := vxFun format_one.C Go.Proofs.Tryd.f148 format_one.h format_one.sg
noncomputable def format_fraction.sg : Sig := ⟨[(true, [.int .i64, .int .i64, .int .i64, .int .i64])], [(false, [.int .u64])]⟩
noncomputable def format_fraction.C : Ctx := ⟨TT, [(98, ⟨format_ones.sg, format_ones⟩)], GL⟩
noncomputable def format_fraction.h : H := .leaf
noncomputable def format_fraction : Nat → Int → Int → Int → Int → Option (Int) := vxFun format_fraction.C Go.Proofs.Tryd.f149 format_fraction.h format_fraction.sg
noncomputable def format_special_one_fraction.sg : Sig := ⟨[(false, [.int .i64]), (false, [.bool]), (false, [.fn 148]), (false, [.fn 149])], [(false, [.int .u64]), (false, [.int .i64])]⟩
noncomputable def format_special_one_fraction.C : Ctx := ⟨TT, [(50, ⟨format_Params.sg, format_Params⟩), (98, ⟨format_ones.sg, format_ones⟩), (148, ⟨format_one.sg, format_one⟩), (149, ⟨format_fraction.sg, format_fraction⟩), (122, ⟨format_join.sg, format_join⟩)], GL⟩
noncomputable def format_special_one_fraction.h : H := .leaf
noncomputable def format_special_one_fraction : Nat → Int → Bool → Option (Int × Int) := vxFun format_special_one_fraction.C Go.Proofs.Tryd.f79 format_special_one_fraction.h format_special_one_fraction.sg
noncomputable def format_Greatest.sg : Sig := ⟨[(false, [.int .i64]), (false, [.bool])], [(false, [.int .u64]), (false, [.int .i64])]⟩
noncomputable def format_Greatest.C : Ctx := ⟨TT, [(79, ⟨format_special_one_fraction.sg, format_special_one_fraction⟩)], GL⟩
noncomputable def format_Greatest.h : H := .leaf
noncomputable def format_Greatest : Nat → Int → Bool → Option (Int × Int) := vxFun format_Greatest.C Go.Proofs.Tryd.f137 format_Greatest.h format_Greatest.sg
noncomputable def round_beyond.sg : Sig := ⟨[(false, [.int .i64]), (false, [.int .i64]), (false, [.bool])], [(false, [.int .u64])]⟩
noncomputable def round_beyond.C : Ctx := ⟨TT, [(62, ⟨format_Infinity.sg, format_Infinity⟩), (137, ⟨format_Greatest.sg, format_Greatest⟩)], GL⟩
noncomputable def round_beyond.h : H := (.node none .leaf (.node none .leaf (.node (some [(0, .any), (2, .any), (7, .any)]) .leaf .leaf)))
noncomputable def round_beyond : Nat → Int → Int → Bool → Option (Int) := vxFun round_beyond.C Go.Proofs.Tryd.f119 round_beyond.h round_beyond.sg
noncomputable def round_beyond.j0 (k : Nat) (x0 : Int) (b1 : Bool) (b2 : Bool) : Option (Int) := vxAt round_beyond.C k [.b, .b] (bodyOf Go.Proofs.Tryd.f119) round_beyond.h (st0 [(0, .one (.int .i64 x0)), (2, .one (.bool b1)), (7, .one (.bool b2))] [] 1000 48) (kret round_beyond.C Go.Proofs.Tryd.f119 round_beyond.sg)
noncomputable def nat_right.sg : Sig := ⟨[(false, [.ro (.int .u64)]), (false, [.int .i64])], [(false, [.fr (.int .u64)])]⟩
noncomputable def nat_right.C : Ctx := ⟨TT, [(84, ⟨nat_trim_own.sg, nat_trim_own⟩), (84, ⟨nat_trim.sg, nat_trim⟩)], GL⟩
noncomputable def nat_right.h : H := (.node none .leaf (.node none .leaf (.node none .leaf (.node none .leaf (.node none .leaf (.node none (.node none .leaf (.node none (.node (some [(0, (.ro (.int .u64))), (5, .any), (6, .any), (7, (.rw (.int .u64))), (25, .any), (26, .any)]) .leaf .leaf) .leaf)) .leaf))))))
noncomputable def nat_right : Nat → List Int → Int → Option ((List Int)) := vxFun nat_right.C Go.Proofs.Tryd.f91 nat_right.h nat_right.sg
noncomputable def nat_right.l0 (k n : Nat) (l0 : (List Int)) (x1 : Int) (x2 : Int) (x3 : Int) (x4 : Int) (l5 : (List Int)) : Option ((List Int)) := vxAt nat_right.C k [.b, .b, .b, .b, .b, .a, .b, .blk, .loop n] (bodyOf Go.Proofs.Tryd.f91) nat_right.h (st0 [(0, .one (.ro (.int .u64) l0)), (5, .one (.int .i64 x1)), (6, .one (.int .i64 x2)), (7, .one (.sl 1000 0 none)), (25, .one (.int .i64 x3)), (26, .one (.int .i64 x4))] [(1000, .arr (.int .u64) l5 .full)] 1001 66) (kret nat_right.C Go.Proofs.Tryd.f91 nat_right.sg)
noncomputable def nat_divides.sg : Sig := ⟨[(false, [.ro (.int .u64)]), (false, [.int .i64])], [(false, [.bool])]⟩
noncomputable def nat_divides.C : Ctx := ⟨TT, [(84, ⟨nat_trim.sg, nat_trim⟩), (115, ⟨bits_TrailingZeros64.sg, bits_TrailingZeros64⟩)], GL⟩
noncomputable def nat_divides.h : H := (.node none .leaf (.node none (.node none .leaf (.node none (.node (some [(1, .any), (8, (.ro (.int .u64))), (9, .any), (10, .any)]) .leaf .leaf) .leaf)) .leaf))
noncomputable def nat_divides : Nat → List Int → Int → Option (Bool) := vxFun nat_divides.C Go.Proofs.Tryd.f92 nat_divides.h nat_divides.sg
noncomputable def nat_divides.l0 (k n : Nat) (x0 : Int) (l1 : (List Int)) (x2 : Int) (x3 : Int) : Option (Bool) := vxAt nat_divides.C k [.b, .a, .b, .blk, .loop n] (bodyOf Go.Proofs.Tryd.f92) nat_divides.h (st0 [(1, .one (.int .i64 x0)), (8, .one (.ro (.int .u64) l1)), (9, .one (.int .i64 x2)), (10, .one (.int .i64 x3))] [] 1000 25) (kret nat_divides.C Go.Proofs.Tryd.f92 nat_divides.sg)
noncomputable def nat_Jam.sg : Sig := ⟨[(false, [.ro (.int .u64)]), (false, [.int .i64])], [(false, [.fr (.int .u64)]), (false, [.int .i64])]⟩
noncomputable def nat_Jam.C : Ctx := ⟨TT, [(91, ⟨nat_right.sg, nat_right⟩), (92, ⟨nat_divides.sg, nat_divides⟩)], GL⟩
noncomputable def nat_Jam.h : H := .leaf
noncomputable def nat_Jam : Nat → List Int → Int → Option ((List Int) × Int) := vxFun nat_Jam.C Go.Proofs.Tryd.f43 nat_Jam.h nat_Jam.sg
noncomputable def nat_great.sg : Sig := ⟨[(false, [.ro (.sl (.int .u64))])], [(false, [.bool])]⟩
noncomputable def nat_great.C : Ctx := ⟨TT, [(84, ⟨nat_trim.sg, nat_trim⟩)], GL⟩
noncomputable def nat_great.h : H := (.node none .leaf (.node none (.node none .leaf (.node none (.node (some [(5, (.ro (.sl (.int .u64)))), (6, .any), (7, .any)]) .leaf .leaf) .leaf)) .leaf))
noncomputable def nat_great : Nat → List (List Int) → Option (Bool) := vxFun nat_great.C Go.Proofs.Tryd.f82 nat_great.h nat_great.sg
noncomputable def nat_great.l0 (k n : Nat) (l0 : (List (List Int))) (x1 : Int) (x2 : Int) : Option (Bool) := vxAt nat_great.C k [.b, .a, .b, .blk, .loop n] (bodyOf Go.Proofs.Tryd.f82) nat_great.h (st0 [(5, .one (.ro (.sl (.int .u64)) l0)), (6, .one (.int .i64 x1)), (7, .one (.int .i64 x2))] [] 1000 16) (kret nat_great.C Go.Proofs.Tryd.f82 nat_great.sg)
noncomputable def nat_left.sg : Sig := ⟨[(false, [.ro (.int .u64)]), (false, [.int .i64])], [(false, [.ro (.int .u64)])]⟩
noncomputable def nat_left.C : Ctx := ⟨TT, [(84, ⟨nat_trim.sg, nat_trim⟩)], GL⟩
noncomputable def nat_left.h : H := (.node none .leaf (.node none .leaf (.node none .leaf (.node none .leaf (.node none .leaf (.node none (.node none .leaf (.node none (.node (some [(5, .any), (6, .any), (7, (.rw (.int .u64))), (25, (.ro (.int .u64))), (26, .any), (27, .any)]) .leaf .leaf) .leaf)) .leaf))))))
noncomputable def nat_left : Nat → List Int → Int → Option ((List Int)) := vxFun nat_left.C Go.Proofs.Tryd.f90 nat_left.h nat_left.sg
noncomputable def nat_left.l0 (k n : Nat) (x0 : Int) (x1 : Int) (l2 : (List Int)) (x3 : Int) (x4 : Int) (l5 : (List Int)) : Option ((List Int)) := vxAt nat_left.C k [.b, .b, .b, .b, .b, .a, .b, .blk, .loop n] (bodyOf Go.Proofs.Tryd.f90) nat_left.h (st0 [(5, .one (.int .i64 x0)), (6, .one (.int .i64 x1)), (7, .one (.sl 1000 0 none)), (25, .one (.ro (.int .u64) l2)), (26, .one (.int .i64 x3)), (27, .one (.int .i64 x4))] [(1000, .arr (.int .u64) l5 .full)] 1001 56) (kret nat_left.C Go.Proofs.Tryd.f90 nat_left.sg)
noncomputable def nat_Shl.sg : Sig := ⟨[(false, [.ro (.int .u64)]), (false, [.int .i64])], [(false, [.ro (.int .u64)]), (false, [.int .i64])]⟩
noncomputable def nat_Shl.C : Ctx := ⟨TT, [(82, ⟨nat_great.sg, nat_great⟩), (90, ⟨nat_left.sg, nat_left⟩)], GL⟩
noncomputable def nat_Shl.h : H := .leaf
noncomputable def nat_Shl : Nat → List Int → Int → Option ((List Int) × Int) := vxFun nat_Shl.C Go.Proofs.Tryd.f41 nat_Shl.h nat_Shl.sg
noncomputable def nat_Shr.sg : Sig := ⟨[(false, [.ro (.int .u64)]), (false, [.int .i64])], [(false, [.fr (.int .u64)]), (false, [.int .i64])]⟩
noncomputable def nat_Shr.C : Ctx := ⟨TT, [(91, ⟨nat_right.sg, nat_right⟩)], GL⟩
noncomputable def nat_Shr.h : H := .leaf
noncomputable def nat_Shr : Nat → List Int → Int → Option ((List Int) × Int) := vxFun nat_Shr.C Go.Proofs.Tryd.f42 nat_Shr.h nat_Shr.sg
noncomputable def round_further.sg : Sig := ⟨[(false, [.int .i64]), (false, [.bool]), (false, [.bool]), (false, [.int .u64])], [(false, [.bool])]⟩
noncomputable def round_further.C : Ctx := ⟨TT, [], GL⟩
noncomputable def round_further.h : H := .leaf
noncomputable def round_further : Nat → Int → Bool → Bool → Int → Option (Bool) := vxFun round_further.C Go.Proofs.Tryd.f138 round_further.h round_further.sg
noncomputable def bits_Add64.sg : Sig := sg332
noncomputable def bits_Add64 (k : Nat) (x y c : Int) : Option (Int × Int) := add64F k x y c
noncomputable def nat_Add.sg : Sig := ⟨[(false, [.ro (.int .u64)]), (false, [.ro (.int .u64)])], [(false, [.ro (.int .u64)])]⟩
noncomputable def nat_Add.C : Ctx := ⟨TT, [(84, ⟨nat_trim.sg, nat_trim⟩), (87, ⟨bits_Add64.sg, bits_Add64⟩)], GL⟩
noncomputable def nat_Add.h : H := (.node none .leaf (.node none .leaf (.node none .leaf (.node (some [(0, (.ro (.int .u64))), (1, (.ro (.int .u64)))]) .leaf (.node none .leaf (.node none .leaf (.node none (.node none .leaf (.node none (.node (some [(0, (.ro (.int .u64))), (1, (.ro (.int .u64))), (5, (.rw (.int .u64))), (6, .any), (28, .any), (29, .any)]) .leaf .leaf) .leaf)) .leaf)))))))
noncomputable def nat_Add : Nat → List Int → List Int → Option ((List Int)) := vxFun nat_Add.C Go.Proofs.Tryd.f38 nat_Add.h nat_Add.sg
noncomputable def nat_Add.j0 (k : Nat) (l0 : (List Int)) (l1 : (List Int)) : Option ((List Int)) := vxAt nat_Add.C k [.b, .b, .b] (bodyOf Go.Proofs.Tryd.f38) nat_Add.h (st0 [(0, .one (.ro (.int .u64) l0)), (1, .one (.ro (.int .u64) l1))] [] 1000 61) (kret nat_Add.C Go.Proofs.Tryd.f38 nat_Add.sg)
noncomputable def nat_Add.l1 (k n : Nat) (l0 : (List Int)) (l1 : (List Int)) (x2 : Int) (x3 : Int) (x4 : Int) (l5 : (List Int)) : Option ((List Int)) := vxAt nat_Add.C k [.b, .b, .b, .b, .b, .b, .a, .b, .blk, .loop n] (bodyOf Go.Proofs.Tryd.f38) nat_Add.h (st0 [(0, .one (.ro (.int .u64) l0)), (1, .one (.ro (.int .u64) l1)), (5, .one (.sl 1000 0 none)), (6, .one (.int .u64 x2)), (28, .one (.int .i64 x3)), (29, .one (.int .i64 x4))] [(1000, .arr (.int .u64) l5 .full)] 1001 61) (kret nat_Add.C Go.Proofs.Tryd.f38 nat_Add.sg)
noncomputable def round_number_cut.sg : Sig := ⟨[(true, [.bool, .ro (.int .u64), .int .i64, .bool]), (false, [.int .i64]), (false, [.int .i64])], [(false, [.ro (.int .u64)]), (false, [.bool])]⟩
noncomputable def round_number_cut.C : Ctx := ⟨TT, [(43, ⟨nat_Jam.sg, nat_Jam⟩), (41, ⟨nat_Shl.sg, nat_Shl⟩), (42, ⟨nat_Shr.sg, nat_Shr⟩), (138, ⟨round_further.sg, round_further⟩), (38, ⟨nat_Add.sg, nat_Add⟩)], GL⟩
noncomputable def round_number_cut.h : H := (.node none .leaf (.node none .leaf (.node none .leaf (.node (some [(1, .any), (3, (.cells [.any, (.ro (.int .u64)), .any, .any])), (8, (.ro (.int .u64)))]) .leaf (.node none .leaf (.node (some [(1, .any), (3, (.cells [.any, (.ro (.int .u64)), .any, .any])), (8, (.ro (.int .u64))), (9, .any)]) .leaf (.node (some [(1, .any), (3, (.cells [.any, (.ro (.int .u64)), .any, .any])), (8, (.ro (.int .u64))), (9, .any)]) .leaf .leaf)))))))
noncomputable def round_number_cut : Nat → Bool → List Int → Int → Bool → Int → Int → Option ((List Int) × Bool) := vxFun round_number_cut.C Go.Proofs.Tryd.f120 round_number_cut.h round_number_cut.sg
noncomputable def round_number_cut.j0 (k : Nat) (x0 : Int) (l1 : (List Int)) (b2 : Bool) (l3 : (List Int)) (x4 : Int) (b5 : Bool) : Option ((List Int) × Bool) := vxAt round_number_cut.C k [.b, .b, .b] (bodyOf Go.Proofs.Tryd.f120) round_number_cut.h (st0 [(1, .one (.int .i64 x0)), (3, .one (.ref 1000 0)), (8, .one (.ro (.int .u64) l1))] [(1000, .loc [(.bool b2), (.ro (.int .u64) l3), (.int .i64 x4), (.bool b5)])] 1001 82) (kret round_number_cut.C Go.Proofs.Tryd.f120 round_number_cut.sg)
noncomputable def round_number_cut.j1 (k : Nat) (x0 : Int) (l1 : (List Int)) (x2 : Int) (b3 : Bool) (l4 : (List Int)) (x5 : Int) (b6 : Bool) : Option ((List Int) × Bool) := vxAt round_number_cut.C k [.b, .b, .b, .b, .b] (bodyOf Go.Proofs.Tryd.f120) round_number_cut.h (st0 [(1, .one (.int .i64 x0)), (3, .one (.ref 1000 0)), (8, .one (.ro (.int .u64) l1)), (9, .one (.int .u64 x2))] [(1000, .loc [(.bool b3), (.ro (.int .u64) l4), (.int .i64 x5), (.bool b6)])] 1001 82) (kret round_number_cut.C Go.Proofs.Tryd.f120 round_number_cut.sg)
noncomputable def round_number_cut.j2 (k : Nat) (x0 : Int) (l1 : (List Int)) (x2 : Int) (b3 : Bool) (l4 : (List Int)) (x5 : Int) (b6 : Bool) : Option ((List Int) × Bool) := vxAt round_number_cut.C k [.b, .b, .b, .b, .b, .b] (bodyOf Go.Proofs.Tryd.f120) round_number_cut.h (st0 [(1, .one (.int .i64 x0)), (3, .one (.ref 1000 0)), (8, .one (.ro (.int .u64) l1)), (9, .one (.int .u64 x2))] [(1000, .loc [(.bool b3), (.ro (.int .u64) l4), (.int .i64 x5), (.bool b6)])] 1001 82) (kret round_number_cut.C Go.Proofs.Tryd.f120 round_number_cut.sg)
noncomputable def round_number_tiny.sg : Sig := ⟨[(true, [.bool, .ro (.int .u64), .int .i64, .bool]), (true, [.int .i64, .int .i64, .int .i64, .int .i64]), (false, [.int .i64]), (false, [.int .i64])], [(false, [.bool])]⟩
noncomputable def round_number_tiny.C : Ctx := ⟨TT, [(120, ⟨round_number_cut.sg, round_number_cut⟩), (93, ⟨nat_Len.sg, nat_Len⟩)], GL⟩
noncomputable def round_number_tiny.h : H := .leaf
noncomputable def round_number_tiny : Nat → Bool → List Int → Int → Bool → Int → Int → Int → Int → Int → Int → Option (Bool) := vxFun round_number_tiny.C Go.Proofs.Tryd.f121 round_number_tiny.h round_number_tiny.sg
noncomputable def round_number_into.sg : Sig := ⟨[(true, [.bool, .ro (.int .u64), .int .i64, .bool]), (false, [.int .i64]), (true, [.int .i64, .int .i64, .int .i64, .int .i64]), (false, [.int .i64])], [(false, [.int .u64]), (false, [.int .i64])]⟩
noncomputable def round_number_into.C : Ctx := ⟨TT, [(118, ⟨round_number_top.sg, round_number_top⟩), (119, ⟨round_beyond.sg, round_beyond⟩), (120, ⟨round_number_cut.sg, round_number_cut⟩), (93, ⟨nat_Len.sg, nat_Len⟩), (121, ⟨round_number_tiny.sg, round_number_tiny⟩)], GL⟩
noncomputable def round_number_into.h : H := (.node none .leaf (.node none .leaf (.node none .leaf (.node none .leaf (.node none .leaf (.node none .leaf (.node none .leaf (.node none .leaf (.node (some [(1, .any), (3, .any), (4, (.cells [.any, (.ro (.int .u64)), .any, .any])), (6, (.cells [.any, .any, .any, .any])), (10, .any), (12, .any), (13, (.ro (.int .u64))), (14, .any), (15, .any)]) .leaf .leaf)))))))))
noncomputable def round_number_into : Nat → Bool → List Int → Int → Bool → Int → Int → Int → Int → Int → Int → Option (Int × Int) := vxFun round_number_into.C Go.Proofs.Tryd.f78 round_number_into.h round_number_into.sg
noncomputable def round_number_into.j0 (k : Nat) (x0 : Int) (x1 : Int) (x2 : Int) (x3 : Int) (l4 : (List Int)) (b5 : Bool) (x6 : Int) (b7 : Bool) (l8 : (List Int)) (x9 : Int) (b10 : Bool) (x11 : Int) (x12 : Int) (x13 : Int) (x14 : Int) : Option (Int × Int) := vxAt round_number_into.C k [.b, .b, .b, .b, .b, .b, .b, .b] (bodyOf Go.Proofs.Tryd.f78) round_number_into.h (st0 [(1, .one (.int .i64 x0)), (3, .one (.int .i64 x1)), (4, .one (.ref 1000 0)), (6, .one (.ref 1001 0)), (10, .one (.int .i64 x2)), (12, .one (.int .i64 x3)), (13, .one (.ro (.int .u64) l4)), (14, .one (.bool b5)), (15, .one (.int .u64 x6))] [(1000, .loc [(.bool b7), (.ro (.int .u64) l8), (.int .i64 x9), (.bool b10)]), (1001, .loc [(.int .i64 x11), (.int .i64 x12), (.int .i64 x13), (.int .i64 x14)])] 1002 95) (kret round_number_into.C Go.Proofs.Tryd.f78 round_number_into.sg)
noncomputable def round_Parts.sg : Sig := ⟨[(false, [.int .i64]), (false, [.int .i64]), (false, [.bool]), (true, [.int .u64, .int .u64]), (false, [.int .i64]), (false, [.bool])], [(false, [.int .u64]), (false, [.int .i64]), (false, [.int .i64])]⟩
noncomputable def round_Parts.C : Ctx := ⟨TT, [(76, ⟨round_refuses.sg, round_refuses⟩), (37, ⟨nat_Trim.sg, nat_Trim⟩), (93, ⟨nat_Len.sg, nat_Len⟩), (106, ⟨round_zero.sg, round_zero⟩), (78, ⟨round_number_into.sg, round_number_into⟩)], GL⟩
noncomputable def round_Parts.h : H := (.node none .leaf (.node none .leaf (.node none .leaf (.node none .leaf (.node none (.node none (.node none .leaf (.node (some [(0, .any), (1, .any), (2, .any), (5, .any), (15, (.cells [.any, .any, .any, .any])), (17, (.cells [.any, (.rw (.int .u64)), .any, .any])), (39, .any)]) .leaf .leaf)) .leaf) (.node (some [(0, .any), (1, .any), (15, (.cells [.any, .any, .any, .any])), (17, (.cells [.any, (.rw (.int .u64)), .any, .any]))]) .leaf .leaf))))))
noncomputable def round_Parts : Nat → Int → Int → Bool → Int → Int → Int → Bool → Option (Int × Int × Int) := vxFun round_Parts.C Go.Proofs.Tryd.f66 round_Parts.h round_Parts.sg
noncomputable def round_Parts.j0 (k : Nat) (x0 : Int) (x1 : Int) (b2 : Bool) (b3 : Bool) (b4 : Bool) (x5 : Int) (x6 : Int) (x7 : Int) (x8 : Int) (l9 : (List Int)) (b10 : Bool) (x11 : Int) (b12 : Bool) : Option (Int × Int × Int) := vxAt round_Parts.C k [.b, .b, .b, .b, .a, .blk, .b] (bodyOf Go.Proofs.Tryd.f66) round_Parts.h (st0 [(0, .one (.int .i64 x0)), (1, .one (.int .i64 x1)), (2, .one (.bool b2)), (5, .one (.bool b3)), (15, .one (.ref 1000 0)), (17, .one (.ref 1001 0)), (39, .one (.bool b4))] [(1000, .loc [(.int .i64 x5), (.int .i64 x6), (.int .i64 x7), (.int .i64 x8)]), (1002, .arr (.int .u64) l9 .full), (1001, .loc [(.bool b10), (.sl 1002 0 none), (.int .i64 x11), (.bool b12)])] 1003 78) (kret round_Parts.C Go.Proofs.Tryd.f66 round_Parts.sg)
noncomputable def round_Parts.j1 (k : Nat) (x0 : Int) (x1 : Int) (x2 : Int) (x3 : Int) (x4 : Int) (x5 : Int) (l6 : (List Int)) (b7 : Bool) (x8 : Int) (b9 : Bool) : Option (Int × Int × Int) := vxAt round_Parts.C k [.b, .b, .b, .b, .b] (bodyOf Go.Proofs.Tryd.f66) round_Parts.h (st0 [(0, .one (.int .i64 x0)), (1, .one (.int .i64 x1)), (15, .one (.ref 1000 0)), (17, .one (.ref 1001 0))] [(1000, .loc [(.int .i64 x2), (.int .i64 x3), (.int .i64 x4), (.int .i64 x5)]), (1002, .arr (.int .u64) l6 .full), (1001, .loc [(.bool b7), (.sl 1002 0 none), (.int .i64 x8), (.bool b9)])] 1003 78) (kret round_Parts.C Go.Proofs.Tryd.f66 round_Parts.sg)
noncomputable def dyad_odd.sg : Sig := ⟨[(true, [.bool, .ro (.int .u64), .int .i64])], [(true, [.bool, .fr (.int .u64), .int .i64])]⟩
noncomputable def dyad_odd.C : Ctx := ⟨TT, [(37, ⟨nat_Trim.sg, nat_Trim⟩), (115, ⟨bits_TrailingZeros64.sg, bits_TrailingZeros64⟩), (42, ⟨nat_Shr.sg, nat_Shr⟩)], GL⟩
noncomputable def dyad_odd.h : H := (.node none .leaf (.node none .leaf (.node none .leaf (.node none .leaf (.node none (.node none (.node (some [(1, (.cells [.any, (.ro (.int .u64)), .any])), (2, (.cells [.any, .any, .any])), (3, (.rw (.int .u64))), (4, .any)]) .leaf .leaf) .leaf) .leaf)))))
noncomputable def dyad_odd : Nat → Bool → List Int → Int → Option (Bool × (List Int) × Int) := vxFun dyad_odd.C Go.Proofs.Tryd.f72 dyad_odd.h dyad_odd.sg
noncomputable def dyad_odd.l0 (k n : Nat) (x0 : Int) (b1 : Bool) (l2 : (List Int)) (x3 : Int) (b4 : Bool) (x5 : Int) (l6 : (List Int)) : Option (Bool × (List Int) × Int) := vxAt dyad_odd.C k [.b, .b, .b, .b, .a, .blk, .loop n] (bodyOf Go.Proofs.Tryd.f72) dyad_odd.h (st0 [(1, .one (.ref 1000 0)), (2, .one (.ref 1001 0)), (3, .one (.sl 1002 0 none)), (4, .one (.int .i64 x0))] [(1000, .loc [(.bool b1), (.ro (.int .u64) l2), (.int .i64 x3)]), (1001, .loc [(.bool b4), .nils, (.int .i64 x5)]), (1002, .arr (.int .u64) l6 .full)] 1003 42) (kret dyad_odd.C Go.Proofs.Tryd.f72 dyad_odd.sg)
noncomputable def dyad_answer.sg : Sig := ⟨[(true, [.bool, .ro (.int .u64), .int .i64])], [(true, [.bool, .fr (.int .u64), .int .i64]), (false, [.int .i64])]⟩
noncomputable def dyad_answer.C : Ctx := ⟨TT, [(72, ⟨dyad_odd.sg, dyad_odd⟩)], GL⟩
noncomputable def dyad_answer.h : H := .leaf
noncomputable def dyad_answer : Nat → Bool → List Int → Int → Option (Bool × (List Int) × Int × Int) := vxFun dyad_answer.C Go.Proofs.Tryd.f73 dyad_answer.h dyad_answer.sg
noncomputable def dyad_Canon.sg : Sig := ⟨[(true, [.bool, .ro (.int .u64), .int .i64])], [(true, [.bool, .fr (.int .u64), .int .i64]), (false, [.int .i64])]⟩
noncomputable def dyad_Canon.C : Ctx := ⟨TT, [(71, ⟨dyad_refuses.sg, dyad_refuses⟩), (73, ⟨dyad_answer.sg, dyad_answer⟩)], GL⟩
noncomputable def dyad_Canon.h : H := .leaf
noncomputable def dyad_Canon : Nat → Bool → List Int → Int → Option (Bool × (List Int) × Int × Int) := vxFun dyad_Canon.C Go.Proofs.Tryd.f77 dyad_Canon.h dyad_Canon.sg
noncomputable def round_Exact.sg : Sig := ⟨[(false, [.int .i64]), (false, [.int .i64]), (true, [.bool, .ro (.int .u64), .int .i64])], [(false, [.int .u64]), (false, [.int .i64]), (false, [.int .i64])]⟩
noncomputable def round_Exact.C : Ctx := ⟨TT, [(76, ⟨round_refuses.sg, round_refuses⟩), (77, ⟨dyad_Canon.sg, dyad_Canon⟩), (78, ⟨round_number_into.sg, round_number_into⟩)], GL⟩
noncomputable def round_Exact.h : H := .leaf
noncomputable def round_Exact : Nat → Int → Int → Bool → List Int → Int → Option (Int × Int × Int) := vxFun round_Exact.C Go.Proofs.Tryd.f30 round_Exact.h round_Exact.sg
def hexes_Parse.s0 : ByteArray := ⟨#[45]⟩
def hexes_Parse.s1 : ByteArray := ⟨#[43]⟩
def hexes_Parse.s2 : ByteArray := ⟨#[110, 97, 110]⟩
def hexes_Parse.s3 : ByteArray := ⟨#[105, 110, 102]⟩
noncomputable def hexes_Parse.sg : Sig := ⟨[(false, [.int .i64]), (false, [.int .i64]), (false, [.str])], [(false, [.int .u64]), (false, [.int .i64]), (false, [.int .i64])]⟩
noncomputable def hexes_Parse.C : Ctx := ⟨TT, [(59, ⟨format_NaN.sg, format_NaN⟩), (60, ⟨strings_HasPrefix.sg, strings_HasPrefix⟩), (61, ⟨hexes_letters.sg, hexes_letters⟩), (62, ⟨format_Infinity.sg, format_Infinity⟩), (63, ⟨hexes_read.sg, hexes_read⟩), (64, ⟨hexes_natural.sg, hexes_natural⟩), (31, ⟨dyad_Sign.sg, dyad_Sign⟩), (32, ⟨format_Zero.sg, format_Zero⟩), (65, ⟨dyad_Top.sg, dyad_Top⟩), (66, ⟨round_Parts.sg, round_Parts⟩), (30, ⟨round_Exact.sg, round_Exact⟩)], GL⟩
noncomputable def hexes_Parse.h : H := (.node none .leaf (.node none .leaf (.node none .leaf (.node (some [(0, .any), (1, .any), (2, .any), (9, .any)]) .leaf (.node none .leaf (.node (some [(0, .any), (1, .any), (2, .any), (9, .any), (11, .any)]) .leaf (.node none .leaf (.node none (.node none .leaf (.node (some [(0, .any), (1, .any), (2, .any), (11, .any), (81, .any)]) .leaf .leaf)) (.node (some [(0, .any), (1, .any), (2, .any), (11, .any)]) .leaf .leaf)))))))))
noncomputable def hexes_Parse : Nat → Int → Int → ByteArray → Option (Int × Int × Int) := vxFun hexes_Parse.C Go.Proofs.Tryd.f19 hexes_Parse.h hexes_Parse.sg
noncomputable def hexes_Parse.j0 (k : Nat) (x0 : Int) (x1 : Int) (s2 : ByteArray) (x3 : Int) : Option (Int × Int × Int) := vxAt hexes_Parse.C k [.b, .b, .b] (bodyOf Go.Proofs.Tryd.f19) hexes_Parse.h (st0 [(0, .one (.int .i64 x0)), (1, .one (.int .i64 x1)), (2, .one (.str s2)), (9, .one (.int .u64 x3))] [] 1000 152) (kret hexes_Parse.C Go.Proofs.Tryd.f19 hexes_Parse.sg)
noncomputable def hexes_Parse.j1 (k : Nat) (x0 : Int) (x1 : Int) (s2 : ByteArray) (x3 : Int) (b4 : Bool) : Option (Int × Int × Int) := vxAt hexes_Parse.C k [.b, .b, .b, .b, .b] (bodyOf Go.Proofs.Tryd.f19) hexes_Parse.h (st0 [(0, .one (.int .i64 x0)), (1, .one (.int .i64 x1)), (2, .one (.str s2)), (9, .one (.int .u64 x3)), (11, .one (.bool b4))] [] 1000 152) (kret hexes_Parse.C Go.Proofs.Tryd.f19 hexes_Parse.sg)
noncomputable def hexes_Parse.j2 (k : Nat) (x0 : Int) (x1 : Int) (s2 : ByteArray) (b3 : Bool) (b4 : Bool) : Option (Int × Int × Int) := vxAt hexes_Parse.C k [.b, .b, .b, .b, .b, .b, .b, .a, .b] (bodyOf Go.Proofs.Tryd.f19) hexes_Parse.h (st0 [(0, .one (.int .i64 x0)), (1, .one (.int .i64 x1)), (2, .one (.str s2)), (11, .one (.bool b3)), (81, .one (.bool b4))] [] 1000 152) (kret hexes_Parse.C Go.Proofs.Tryd.f19 hexes_Parse.sg)
noncomputable def hexes_Parse.j3 (k : Nat) (x0 : Int) (x1 : Int) (s2 : ByteArray) (b3 : Bool) : Option (Int × Int × Int) := vxAt hexes_Parse.C k [.b, .b, .b, .b, .b, .b, .b, .b] (bodyOf Go.Proofs.Tryd.f19) hexes_Parse.h (st0 [(0, .one (.int .i64 x0)), (1, .one (.int .i64 x1)), (2, .one (.str s2)), (11, .one (.bool b3))] [] 1000 152) (kret hexes_Parse.C Go.Proofs.Tryd.f19 hexes_Parse.sg)
def vernierlaw15_awake.s0 : ByteArray := ⟨#[48, 120, 49, 46, 48, 48, 48, 48, 48, 49, 80, 48]⟩
def vernierlaw15_awake.s1 : ByteArray := ⟨#[45, 48, 120, 49, 46, 97, 112, 43, 49]⟩
noncomputable def vernierlaw15_awake.sg : Sig := ⟨[], [(false, [.bool])]⟩
noncomputable def vernierlaw15_awake.C : Ctx := ⟨TT, [(16, ⟨hexes_Print.sg, hexes_Print⟩), (19, ⟨hexes_Parse.sg, hexes_Parse⟩)], GL⟩
noncomputable def vernierlaw15_awake.h : H := .leaf
noncomputable def vernierlaw15_awake : Nat → Option (Bool) := vxFun vernierlaw15_awake.C Go.Proofs.Tryd.f18 vernierlaw15_awake.h vernierlaw15_awake.sg
noncomputable def vernierlaw15_HexesPrints.sg : Sig := ⟨[(false, [.int .i64]), (false, [.int .u64])], [(false, [.bool])]⟩
noncomputable def vernierlaw15_HexesPrints.C : Ctx := ⟨TT, [(16, ⟨hexes_Print.sg, hexes_Print⟩), (17, ⟨vernierref15_Print.sg, vernierref15_Print⟩), (18, ⟨vernierlaw15_awake.sg, vernierlaw15_awake⟩)], GL⟩
noncomputable def vernierlaw15_HexesPrints.h : H := .leaf
noncomputable def vernierlaw15_HexesPrints : Nat → Int → Int → Option (Bool) := vxFun vernierlaw15_HexesPrints.C Go.Proofs.Tryd.f4 vernierlaw15_HexesPrints.h vernierlaw15_HexesPrints.sg
noncomputable def vernierref15_word.sg : Sig := ⟨[(false, [.str]), (false, [.str])], [(false, [.bool])]⟩
noncomputable def vernierref15_word.C : Ctx := ⟨TT, [], GL⟩
noncomputable def vernierref15_word.h : H := (.node none .leaf (.node none .leaf (.node none (.node none .leaf (.node none (.node (some [(0, .any), (1, .any), (5, .any)]) .leaf .leaf) .leaf)) .leaf)))
noncomputable def vernierref15_word : Nat → ByteArray → ByteArray → Option (Bool) := vxFun vernierref15_word.C Go.Proofs.Tryd.f107 vernierref15_word.h vernierref15_word.sg
noncomputable def vernierref15_word.l0 (k n : Nat) (s0 : ByteArray) (s1 : ByteArray) (x2 : Int) : Option (Bool) := vxAt vernierref15_word.C k [.b, .b, .a, .b, .blk, .loop n] (bodyOf Go.Proofs.Tryd.f107) vernierref15_word.h (st0 [(0, .one (.str s0)), (1, .one (.str s1)), (5, .one (.int .i64 x2))] [] 1000 34) (kret vernierref15_word.C Go.Proofs.Tryd.f107 vernierref15_word.sg)
def vernierref15_value.s0 : ByteArray := ⟨#[48, 49, 50, 51, 52, 53, 54, 55, 56, 57, 97, 98, 99, 100, 101, 102]⟩
noncomputable def vernierref15_value.sg : Sig := ⟨[(false, [.int .u8])], [(false, [.int .u64])]⟩
noncomputable def vernierref15_value.C : Ctx := ⟨TT, [], GL⟩
noncomputable def vernierref15_value.h : H := (.node none .leaf (.node none (.node none .leaf (.node none (.node (some [(0, .any), (3, .any)]) (.node none .leaf (.node none (.node none (.node none .leaf (.node (some [(0, .any), (3, .any), (26, .any)]) .leaf .leaf)) .leaf) .leaf)) .leaf) .leaf)) .leaf))
noncomputable def vernierref15_value : Nat → Int → Option (Int) := vxFun vernierref15_value.C Go.Proofs.Tryd.f108 vernierref15_value.h vernierref15_value.sg
noncomputable def vernierref15_value.l0 (k n : Nat) (x0 : Int) (x1 : Int) : Option (Int) := vxAt vernierref15_value.C k [.b, .a, .b, .blk, .loop n] (bodyOf Go.Proofs.Tryd.f108) vernierref15_value.h (st0 [(0, .one (.int .u8 x0)), (3, .one (.int .i64 x1))] [] 1000 29) (kret vernierref15_value.C Go.Proofs.Tryd.f108 vernierref15_value.sg)
noncomputable def vernierref15_value.j1 (k n0 : Nat) (x0 : Int) (x1 : Int) (b2 : Bool) : Option (Int) := vxAt vernierref15_value.C k [.b, .a, .b, .blk, .loop n0, .b, .a, .blk, .b] (bodyOf Go.Proofs.Tryd.f108) vernierref15_value.h (st0 [(0, .one (.int .u8 x0)), (3, .one (.int .i64 x1)), (26, .one (.bool b2))] [] 1000 29) (kret vernierref15_value.C Go.Proofs.Tryd.f108 vernierref15_value.sg)
noncomputable def vernierref03_Left.sg : Sig := ⟨[(false, [.ro (.int .u64)]), (false, [.int .i64])], [(false, [.ro (.int .u64)])]⟩
noncomputable def vernierref03_Left.C : Ctx := ⟨TT, [(101, ⟨vernierref03_Trim.sg, vernierref03_Trim⟩)], GL⟩
noncomputable def vernierref03_Left.h : H := (.node none .leaf (.node none .leaf (.node none .leaf (.node none .leaf (.node none (.node none .leaf (.node none (.node (some [(0, (.ro (.int .u64))), (5, (.rw (.int .u64))), (6, .any), (7, .any), (8, .any)]) .leaf .leaf) .leaf)) .leaf)))))
noncomputable def vernierref03_Left : Nat → List Int → Int → Option ((List Int)) := vxFun vernierref03_Left.C Go.Proofs.Tryd.f109 vernierref03_Left.h vernierref03_Left.sg
noncomputable def vernierref03_Left.l0 (k n : Nat) (l0 : (List Int)) (x1 : Int) (x2 : Int) (x3 : Int) (l4 : (List Int)) : Option ((List Int)) := vxAt vernierref03_Left.C k [.b, .b, .b, .b, .a, .b, .blk, .loop n] (bodyOf Go.Proofs.Tryd.f109) vernierref03_Left.h (st0 [(0, .one (.ro (.int .u64) l0)), (5, .one (.sl 1000 0 none)), (6, .one (.int .u64 x1)), (7, .one (.int .u64 x2)), (8, .one (.int .i64 x3))] [(1000, .arr (.int .u64) l4 .full)] 1001 49) (kret vernierref03_Left.C Go.Proofs.Tryd.f109 vernierref03_Left.sg)
noncomputable def vernierref03_Plus.sg : Sig := ⟨[(false, [.ro (.int .u64)]), (false, [.ro (.int .u64)])], [(false, [.ro (.int .u64)])]⟩
noncomputable def vernierref03_Plus.C : Ctx := ⟨TT, [(101, ⟨vernierref03_Trim.sg, vernierref03_Trim⟩)], GL⟩
noncomputable def vernierref03_Plus.h : H := (.node none .leaf (.node none .leaf (.node none .leaf (.node none .leaf (.node none (.node none .leaf (.node none (.node (some [(0, (.ro (.int .u64))), (1, (.ro (.int .u64))), (5, .any), (6, (.rw (.int .u64))), (7, .any), (8, .any)]) .leaf .leaf) .leaf)) .leaf)))))
noncomputable def vernierref03_Plus : Nat → List Int → List Int → Option ((List Int)) := vxFun vernierref03_Plus.C Go.Proofs.Tryd.f110 vernierref03_Plus.h vernierref03_Plus.sg
noncomputable def vernierref03_Plus.l0 (k n : Nat) (l0 : (List Int)) (l1 : (List Int)) (x2 : Int) (x3 : Int) (x4 : Int) (l5 : (List Int)) : Option ((List Int)) := vxAt vernierref03_Plus.C k [.b, .b, .b, .b, .a, .b, .blk, .loop n] (bodyOf Go.Proofs.Tryd.f110) vernierref03_Plus.h (st0 [(0, .one (.ro (.int .u64) l0)), (1, .one (.ro (.int .u64) l1)), (5, .one (.int .i64 x2)), (6, .one (.sl 1000 0 none)), (7, .one (.int .u64 x3)), (8, .one (.int .i64 x4))] [(1000, .arr (.int .u64) l5 .full)] 1001 56) (kret vernierref03_Plus.C Go.Proofs.Tryd.f110 vernierref03_Plus.sg)
noncomputable def vernierref15_exponent.sg : Sig := ⟨[(false, [.str])], [(false, [.int .i64]), (false, [.bool])]⟩
noncomputable def vernierref15_exponent.C : Ctx := ⟨TT, [], GL⟩
noncomputable def vernierref15_exponent.h : H := (.node none .leaf (.node none .leaf (.node none .leaf (.node (some [(0, .any), (4, .any)]) .leaf (.node none .leaf (.node none (.node none .leaf (.node none (.node (some [(0, .any), (4, .any), (5, .any), (6, .any)]) .leaf .leaf) .leaf)) .leaf))))))
noncomputable def vernierref15_exponent : Nat → ByteArray → Option (Int × Bool) := vxFun vernierref15_exponent.C Go.Proofs.Tryd.f111 vernierref15_exponent.h vernierref15_exponent.sg
noncomputable def vernierref15_exponent.j0 (k : Nat) (s0 : ByteArray) (b1 : Bool) : Option (Int × Bool) := vxAt vernierref15_exponent.C k [.b, .b, .b] (bodyOf Go.Proofs.Tryd.f111) vernierref15_exponent.h (st0 [(0, .one (.str s0)), (4, .one (.bool b1))] [] 1000 57) (kret vernierref15_exponent.C Go.Proofs.Tryd.f111 vernierref15_exponent.sg)
noncomputable def vernierref15_exponent.l1 (k n : Nat) (s0 : ByteArray) (b1 : Bool) (x2 : Int) (x3 : Int) : Option (Int × Bool) := vxAt vernierref15_exponent.C k [.b, .b, .b, .b, .b, .a, .b, .blk, .loop n] (bodyOf Go.Proofs.Tryd.f111) vernierref15_exponent.h (st0 [(0, .one (.str s0)), (4, .one (.bool b1)), (5, .one (.int .i64 x2)), (6, .one (.int .i64 x3))] [] 1000 57) (kret vernierref15_exponent.C Go.Proofs.Tryd.f111 vernierref15_exponent.sg)
def vernierref15_Read.s0 : ByteArray := ⟨#[110, 97, 110]⟩
def vernierref15_Read.s1 : ByteArray := ⟨#[105, 110, 102]⟩
noncomputable def vernierref15_Read.sg : Sig := ⟨[(false, [.str])], [(true, [.bool, .bool, .bool, .bool, .ro (.int .u64), .int .i64]), (false, [.bool])]⟩
noncomputable def vernierref15_Read.C : Ctx := ⟨TT, [(107, ⟨vernierref15_word.sg, vernierref15_word⟩), (108, ⟨vernierref15_value.sg, vernierref15_value⟩), (109, ⟨vernierref03_Left.sg, vernierref03_Left⟩), (110, ⟨vernierref03_Plus.sg, vernierref03_Plus⟩), (111, ⟨vernierref15_exponent.sg, vernierref15_exponent⟩), (101, ⟨vernierref03_Trim.sg, vernierref03_Trim⟩)], GL⟩
noncomputable def vernierref15_Read.h : H := (.node none .leaf (.node none .leaf (.node none (.node none .leaf (.node (some [(0, .any), (2, (.cells [.any, .any, .any, .any, .any, .any])), (4, (.cells [.any, .any, .any, .any, .any, .any])), (27, .any)]) .leaf .leaf)) (.node (some [(0, .any), (2, (.cells [.any, .any, .any, .any, .any, .any])), (4, (.cells [.any, .any, .any, .any, .any, .any]))]) .leaf (.node none .leaf (.node none (.node none .leaf (.node (some [(0, .any), (2, (.cells [.any, .any, .any, .any, .any, .any])), (4, (.cells [.any, .any, .any, .any, .any, .any])), (59, .any)]) .leaf .leaf)) (.node (some [(0, .any), (2, (.cells [.any, .any, .any, .any, .any, .any])), (4, (.cells [.any, .any, .any, .any, .any, .any]))]) .leaf (.node none .leaf (.node none .leaf (.node none .leaf (.node none .leaf (.node none (.node none .leaf (.node none (.node (some [(0, .any), (2, (.cells [.any, .any, .any, .any, .any, .any])), (4, (.cells [.any, .any, .any, .any, .any, .any])), (5, (.ro (.int .u64))), (6, .any), (7, .any), (8, .any), (9, .any), (10, .any)]) (.node none .leaf (.node none (.node none (.node none .leaf (.node none .leaf (.node none (.node none .leaf (.node none .leaf (.node none .leaf (.node (some [(0, .any), (2, (.cells [.any, .any, .any, .any, .any, .any])), (4, (.cells [.any, .any, .any, .any, .any, .any])), (5, (.ro (.int .u64))), (6, .any), (7, .any), (8, .any), (9, .any), (10, .any), (11, .any), (87, .any)]) .leaf (.node none .leaf (.node (some [(0, .any), (2, (.cells [.any, .any, .any, .any, .any, .any])), (4, (.cells [.any, .any, .any, .any, .any, .any])), (5, (.ro (.int .u64))), (6, .any), (7, .any), (8, .any), (10, .any), (94, .any)]) .leaf .leaf)))))) .leaf))) .leaf) .leaf)) .leaf) .leaf)) .leaf))))))))))))
noncomputable def vernierref15_Read : Nat → ByteArray → Option (Bool × Bool × Bool × Bool × (List Int) × Int × Bool) := vxFun vernierref15_Read.C Go.Proofs.Tryd.f67 vernierref15_Read.h vernierref15_Read.sg
noncomputable def vernierref15_Read.j0 (k : Nat) (s0 : ByteArray) (b1 : Bool) (b2 : Bool) (b3 : Bool) (b4 : Bool) (b5 : Bool) (x6 : Int) (b7 : Bool) (b8 : Bool) (b9 : Bool) (b10 : Bool) (x11 : Int) : Option (Bool × Bool × Bool × Bool × (List Int) × Int × Bool) := vxAt vernierref15_Read.C k [.b, .b, .a, .b] (bodyOf Go.Proofs.Tryd.f67) vernierref15_Read.h (st0 [(0, .one (.str s0)), (2, .one (.ref 1000 0)), (4, .one (.ref 1001 0)), (27, .one (.bool b1))] [(1000, .loc [(.bool b2), (.bool b3), (.bool b4), (.bool b5), .nils, (.int .i64 x6)]), (1001, .loc [(.bool b7), (.bool b8), (.bool b9), (.bool b10), .nils, (.int .i64 x11)])] 1002 128) (kret vernierref15_Read.C Go.Proofs.Tryd.f67 vernierref15_Read.sg)
noncomputable def vernierref15_Read.j1 (k : Nat) (s0 : ByteArray) (b1 : Bool) (b2 : Bool) (b3 : Bool) (b4 : Bool) (x5 : Int) (b6 : Bool) (b7 : Bool) (b8 : Bool) (b9 : Bool) (x10 : Int) : Option (Bool × Bool × Bool × Bool × (List Int) × Int × Bool) := vxAt vernierref15_Read.C k [.b, .b, .b] (bodyOf Go.Proofs.Tryd.f67) vernierref15_Read.h (st0 [(0, .one (.str s0)), (2, .one (.ref 1000 0)), (4, .one (.ref 1001 0))] [(1000, .loc [(.bool b1), (.bool b2), (.bool b3), (.bool b4), .nils, (.int .i64 x5)]), (1001, .loc [(.bool b6), (.bool b7), (.bool b8), (.bool b9), .nils, (.int .i64 x10)])] 1002 128) (kret vernierref15_Read.C Go.Proofs.Tryd.f67 vernierref15_Read.sg)
noncomputable def vernierref15_Read.j2 (k : Nat) (s0 : ByteArray) (b1 : Bool) (b2 : Bool) (b3 : Bool) (b4 : Bool) (b5 : Bool) (x6 : Int) (b7 : Bool) (b8 : Bool) (b9 : Bool) (b10 : Bool) (x11 : Int) : Option (Bool × Bool × Bool × Bool × (List Int) × Int × Bool) := vxAt vernierref15_Read.C k [.b, .b, .b, .b, .b, .a, .b] (bodyOf Go.Proofs.Tryd.f67) vernierref15_Read.h (st0 [(0, .one (.str s0)), (2, .one (.ref 1000 0)), (4, .one (.ref 1001 0)), (59, .one (.bool b1))] [(1000, .loc [(.bool b2), (.bool b3), (.bool b4), (.bool b5), .nils, (.int .i64 x6)]), (1001, .loc [(.bool b7), (.bool b8), (.bool b9), (.bool b10), .nils, (.int .i64 x11)])] 1002 128) (kret vernierref15_Read.C Go.Proofs.Tryd.f67 vernierref15_Read.sg)
noncomputable def vernierref15_Read.j3 (k : Nat) (s0 : ByteArray) (b1 : Bool) (b2 : Bool) (b3 : Bool) (b4 : Bool) (x5 : Int) (b6 : Bool) (b7 : Bool) (b8 : Bool) (b9 : Bool) (x10 : Int) : Option (Bool × Bool × Bool × Bool × (List Int) × Int × Bool) := vxAt vernierref15_Read.C k [.b, .b, .b, .b, .b, .b] (bodyOf Go.Proofs.Tryd.f67) vernierref15_Read.h (st0 [(0, .one (.str s0)), (2, .one (.ref 1000 0)), (4, .one (.ref 1001 0))] [(1000, .loc [(.bool b1), (.bool b2), (.bool b3), (.bool b4), .nils, (.int .i64 x5)]), (1001, .loc [(.bool b6), (.bool b7), (.bool b8), (.bool b9), .nils, (.int .i64 x10)])] 1002 128) (kret vernierref15_Read.C Go.Proofs.Tryd.f67 vernierref15_Read.sg)
noncomputable def vernierref15_Read.l4 (k n : Nat) (s0 : ByteArray) (l1 : (List Int)) (x2 : Int) (x3 : Int) (x4 : Int) (x5 : Int) (x6 : Int) (b7 : Bool) (b8 : Bool) (b9 : Bool) (b10 : Bool) (x11 : Int) (b12 : Bool) (b13 : Bool) (b14 : Bool) (b15 : Bool) (x16 : Int) : Option (Bool × Bool × Bool × Bool × (List Int) × Int × Bool) := vxAt vernierref15_Read.C k [.b, .b, .b, .b, .b, .b, .b, .b, .b, .b, .b, .a, .b, .blk, .loop n] (bodyOf Go.Proofs.Tryd.f67) vernierref15_Read.h (st0 [(0, .one (.str s0)), (2, .one (.ref 1000 0)), (4, .one (.ref 1001 0)), (5, .one (.ro (.int .u64) l1)), (6, .one (.int .i64 x2)), (7, .one (.int .i64 x3)), (8, .one (.int .i64 x4)), (9, .one (.int .i64 x5)), (10, .one (.int .i64 x6))] [(1000, .loc [(.bool b7), (.bool b8), (.bool b9), (.bool b10), .nils, (.int .i64 x11)]), (1001, .loc [(.bool b12), (.bool b13), (.bool b14), (.bool b15), .nils, (.int .i64 x16)])] 1002 128) (kret vernierref15_Read.C Go.Proofs.Tryd.f67 vernierref15_Read.sg)
noncomputable def vernierref15_Read.j5 (k n0 : Nat) (s0 : ByteArray) (l1 : (List Int)) (x2 : Int) (x3 : Int) (x4 : Int) (x5 : Int) (x6 : Int) (x7 : Int) (b8 : Bool) (b9 : Bool) (b10 : Bool) (b11 : Bool) (b12 : Bool) (x13 : Int) (b14 : Bool) (b15 : Bool) (b16 : Bool) (b17 : Bool) (x18 : Int) : Option (Bool × Bool × Bool × Bool × (List Int) × Int × Bool) := vxAt vernierref15_Read.C k [.b, .b, .b, .b, .b, .b, .b, .b, .b, .b, .b, .a, .b, .blk, .loop n0, .b, .a, .blk, .b, .b, .blk, .b, .els, .b] (bodyOf Go.Proofs.Tryd.f67) vernierref15_Read.h (st0 [(0, .one (.str s0)), (2, .one (.ref 1000 0)), (4, .one (.ref 1001 0)), (5, .one (.ro (.int .u64) l1)), (6, .one (.int .i64 x2)), (7, .one (.int .i64 x3)), (8, .one (.int .i64 x4)), (9, .one (.int .i64 x5)), (10, .one (.int .i64 x6)), (11, .one (.int .u8 x7)), (87, .one (.bool b8))] [(1000, .loc [(.bool b9), (.bool b10), (.bool b11), (.bool b12), .nils, (.int .i64 x13)]), (1001, .loc [(.bool b14), (.bool b15), (.bool b16), (.bool b17), .nils, (.int .i64 x18)])] 1002 128) (kret vernierref15_Read.C Go.Proofs.Tryd.f67 vernierref15_Read.sg)
noncomputable def vernierref15_Read.j6 (k n0 : Nat) (s0 : ByteArray) (l1 : (List Int)) (x2 : Int) (x3 : Int) (x4 : Int) (x5 : Int) (b6 : Bool) (b7 : Bool) (b8 : Bool) (b9 : Bool) (b10 : Bool) (x11 : Int) (b12 : Bool) (b13 : Bool) (b14 : Bool) (b15 : Bool) (x16 : Int) : Option (Bool × Bool × Bool × Bool × (List Int) × Int × Bool) := vxAt vernierref15_Read.C k [.b, .b, .b, .b, .b, .b, .b, .b, .b, .b, .b, .a, .b, .blk, .loop n0, .b, .a, .blk, .b, .b, .blk, .b, .els, .b, .els, .b] (bodyOf Go.Proofs.Tryd.f67) vernierref15_Read.h (st0 [(0, .one (.str s0)), (2, .one (.ref 1000 0)), (4, .one (.ref 1001 0)), (5, .one (.ro (.int .u64) l1)), (6, .one (.int .i64 x2)), (7, .one (.int .i64 x3)), (8, .one (.int .i64 x4)), (10, .one (.int .i64 x5)), (94, .one (.bool b6))] [(1000, .loc [(.bool b7), (.bool b8), (.bool b9), (.bool b10), .nils, (.int .i64 x11)]), (1001, .loc [(.bool b12), (.bool b13), (.bool b14), (.bool b15), .nils, (.int .i64 x16)])] 1002 128) (kret vernierref15_Read.C Go.Proofs.Tryd.f67 vernierref15_Read.sg)
noncomputable def vernierref06_Quiet.sg : Sig := ⟨[(false, [.int .i64])], [(false, [.int .u64])]⟩
noncomputable def vernierref06_Quiet.C : Ctx := ⟨TT, [(22, ⟨vernierref06_Params.sg, vernierref06_Params⟩)], GL⟩
noncomputable def vernierref06_Quiet.h : H := .leaf
noncomputable def vernierref06_Quiet : Nat → Int → Option (Int) := vxFun vernierref06_Quiet.C Go.Proofs.Tryd.f24 vernierref06_Quiet.h vernierref06_Quiet.sg
noncomputable def vernierref06_sign.sg : Sig := ⟨[(false, [.int .i64]), (false, [.bool])], [(false, [.int .u64])]⟩
noncomputable def vernierref06_sign.C : Ctx := ⟨TT, [(22, ⟨vernierref06_Params.sg, vernierref06_Params⟩)], GL⟩
noncomputable def vernierref06_sign.h : H := .leaf
noncomputable def vernierref06_sign : Nat → Int → Bool → Option (Int) := vxFun vernierref06_sign.C Go.Proofs.Tryd.f112 vernierref06_sign.h vernierref06_sign.sg
noncomputable def vernierref06_Infinity.sg : Sig := ⟨[(false, [.int .i64]), (false, [.bool])], [(false, [.int .u64])]⟩
noncomputable def vernierref06_Infinity.C : Ctx := ⟨TT, [(22, ⟨vernierref06_Params.sg, vernierref06_Params⟩), (112, ⟨vernierref06_sign.sg, vernierref06_sign⟩)], GL⟩
noncomputable def vernierref06_Infinity.h : H := .leaf
noncomputable def vernierref06_Infinity : Nat → Int → Bool → Option (Int) := vxFun vernierref06_Infinity.C Go.Proofs.Tryd.f68 vernierref06_Infinity.h vernierref06_Infinity.sg
noncomputable def vernierref06_Nought.sg : Sig := ⟨[(false, [.int .i64]), (false, [.bool])], [(false, [.int .u64])]⟩
noncomputable def vernierref06_Nought.C : Ctx := ⟨TT, [(112, ⟨vernierref06_sign.sg, vernierref06_sign⟩)], GL⟩
noncomputable def vernierref06_Nought.h : H := .leaf
noncomputable def vernierref06_Nought : Nat → Int → Bool → Option (Int) := vxFun vernierref06_Nought.C Go.Proofs.Tryd.f113 vernierref06_Nought.h vernierref06_Nought.sg
noncomputable def vernierref06_Beyond.sg : Sig := ⟨[(false, [.int .i64]), (false, [.int .i64]), (false, [.bool])], [(false, [.int .u64])]⟩
noncomputable def vernierref06_Beyond.C : Ctx := ⟨TT, [(68, ⟨vernierref06_Infinity.sg, vernierref06_Infinity⟩)], GL⟩
noncomputable def vernierref06_Beyond.h : H := (.node none .leaf (.node none (.node none .leaf (.node (some [(0, .any), (2, .any), (27, .any)]) .leaf .leaf)) (.node (some [(0, .any), (2, .any)]) .leaf .leaf)))
noncomputable def vernierref06_Beyond : Nat → Int → Int → Bool → Option (Int) := vxFun vernierref06_Beyond.C Go.Proofs.Tryd.f134 vernierref06_Beyond.h vernierref06_Beyond.sg
noncomputable def vernierref06_Beyond.j0 (k : Nat) (x0 : Int) (b1 : Bool) (b2 : Bool) : Option (Int) := vxAt vernierref06_Beyond.C k [.b, .a, .b] (bodyOf Go.Proofs.Tryd.f134) vernierref06_Beyond.h (st0 [(0, .one (.int .i64 x0)), (2, .one (.bool b1)), (27, .one (.bool b2))] [] 1000 35) (kret vernierref06_Beyond.C Go.Proofs.Tryd.f134 vernierref06_Beyond.sg)
noncomputable def vernierref06_Beyond.j1 (k : Nat) (x0 : Int) (b1 : Bool) : Option (Int) := vxAt vernierref06_Beyond.C k [.b, .b] (bodyOf Go.Proofs.Tryd.f134) vernierref06_Beyond.h (st0 [(0, .one (.int .i64 x0)), (2, .one (.bool b1))] [] 1000 35) (kret vernierref06_Beyond.C Go.Proofs.Tryd.f134 vernierref06_Beyond.sg)
noncomputable def vernierref03_Right.sg : Sig := ⟨[(false, [.ro (.int .u64)]), (false, [.int .i64])], [(false, [.ro (.int .u64)])]⟩
noncomputable def vernierref03_Right.C : Ctx := ⟨TT, [(101, ⟨vernierref03_Trim.sg, vernierref03_Trim⟩)], GL⟩
noncomputable def vernierref03_Right.h : H := (.node none .leaf (.node none .leaf (.node none .leaf (.node none (.node none .leaf (.node none (.node (some [(0, (.ro (.int .u64))), (5, (.rw (.int .u64))), (6, .any), (7, .any)]) .leaf .leaf) .leaf)) .leaf))))
noncomputable def vernierref03_Right : Nat → List Int → Int → Option ((List Int)) := vxFun vernierref03_Right.C Go.Proofs.Tryd.f145 vernierref03_Right.h vernierref03_Right.sg
noncomputable def vernierref03_Right.l0 (k n : Nat) (l0 : (List Int)) (x1 : Int) (x2 : Int) (l3 : (List Int)) : Option ((List Int)) := vxAt vernierref03_Right.C k [.b, .b, .b, .a, .b, .blk, .loop n] (bodyOf Go.Proofs.Tryd.f145) vernierref03_Right.h (st0 [(0, .one (.ro (.int .u64) l0)), (5, .one (.sl 1000 0 none)), (6, .one (.int .u64 x1)), (7, .one (.int .i64 x2))] [(1000, .arr (.int .u64) l3 .full)] 1001 47) (kret vernierref03_Right.C Go.Proofs.Tryd.f145 vernierref03_Right.sg)
noncomputable def vernierref03_Minus.sg : Sig := ⟨[(false, [.ro (.int .u64)]), (false, [.ro (.int .u64)])], [(false, [.ro (.int .u64)])]⟩
noncomputable def vernierref03_Minus.C : Ctx := ⟨TT, [(101, ⟨vernierref03_Trim.sg, vernierref03_Trim⟩)], GL⟩
noncomputable def vernierref03_Minus.h : H := (.node none .leaf (.node none .leaf (.node none .leaf (.node none (.node none .leaf (.node none (.node (some [(0, (.ro (.int .u64))), (1, (.ro (.int .u64))), (5, (.rw (.int .u64))), (6, .any), (7, .any)]) .leaf .leaf) .leaf)) .leaf))))
noncomputable def vernierref03_Minus : Nat → List Int → List Int → Option ((List Int)) := vxFun vernierref03_Minus.C Go.Proofs.Tryd.f146 vernierref03_Minus.h vernierref03_Minus.sg
noncomputable def vernierref03_Minus.l0 (k n : Nat) (l0 : (List Int)) (l1 : (List Int)) (x2 : Int) (x3 : Int) (l4 : (List Int)) : Option ((List Int)) := vxAt vernierref03_Minus.C k [.b, .b, .b, .a, .b, .blk, .loop n] (bodyOf Go.Proofs.Tryd.f146) vernierref03_Minus.h (st0 [(0, .one (.ro (.int .u64) l0)), (1, .one (.ro (.int .u64) l1)), (5, .one (.sl 1000 0 none)), (6, .one (.int .u64 x2)), (7, .one (.int .i64 x3))] [(1000, .arr (.int .u64) l4 .full)] 1001 47) (kret vernierref03_Minus.C Go.Proofs.Tryd.f146 vernierref03_Minus.sg)
noncomputable def vernierref03_Cmp.sg : Sig := ⟨[(false, [.ro (.int .u64)]), (false, [.ro (.int .u64)])], [(false, [.int .i64])]⟩
noncomputable def vernierref03_Cmp.C : Ctx := ⟨TT, [], GL⟩
noncomputable def vernierref03_Cmp.h : H := (.node none .leaf (.node none .leaf (.node none (.node none .leaf (.node none (.node (some [(0, (.ro (.int .u64))), (1, (.ro (.int .u64))), (5, .any)]) .leaf .leaf) .leaf)) .leaf)))
noncomputable def vernierref03_Cmp : Nat → List Int → List Int → Option (Int) := vxFun vernierref03_Cmp.C Go.Proofs.Tryd.f147 vernierref03_Cmp.h vernierref03_Cmp.sg
noncomputable def vernierref03_Cmp.l0 (k n : Nat) (l0 : (List Int)) (l1 : (List Int)) (x2 : Int) : Option (Int) := vxAt vernierref03_Cmp.C k [.b, .b, .a, .b, .blk, .loop n] (bodyOf Go.Proofs.Tryd.f147) vernierref03_Cmp.h (st0 [(0, .one (.ro (.int .u64) l0)), (1, .one (.ro (.int .u64) l1)), (5, .one (.int .i64 x2))] [] 1000 41) (kret vernierref03_Cmp.C Go.Proofs.Tryd.f147 vernierref03_Cmp.sg)
noncomputable def vernierref06_Whole.sg : Sig := ⟨[(false, [.int .i64]), (true, [.bool, .ro (.int .u64), .int .i64]), (false, [.int .i64])], [(false, [.ro (.int .u64)]), (false, [.bool])]⟩
noncomputable def vernierref06_Whole.C : Ctx := ⟨TT, [(109, ⟨vernierref03_Left.sg, vernierref03_Left⟩), (145, ⟨vernierref03_Right.sg, vernierref03_Right⟩), (146, ⟨vernierref03_Minus.sg, vernierref03_Minus⟩), (147, ⟨vernierref03_Cmp.sg, vernierref03_Cmp⟩), (110, ⟨vernierref03_Plus.sg, vernierref03_Plus⟩)], GL⟩
noncomputable def vernierref06_Whole.h : H := (.node none .leaf (.node none .leaf (.node none .leaf (.node none .leaf (.node none .leaf (.node none .leaf (.node none .leaf (.node none .leaf (.node (some [(0, .any), (4, (.cells [.any, (.ro (.int .u64)), .any])), (9, (.ro (.int .u64))), (11, .any), (12, .any)]) .leaf (.node none .leaf (.node (some [(9, (.ro (.int .u64))), (13, .any)]) .leaf .leaf)))))))))))
noncomputable def vernierref06_Whole : Nat → Int → Bool → List Int → Int → Int → Option ((List Int) × Bool) := vxFun vernierref06_Whole.C Go.Proofs.Tryd.f135 vernierref06_Whole.h vernierref06_Whole.sg
noncomputable def vernierref06_Whole.j0 (k : Nat) (x0 : Int) (l1 : (List Int)) (x2 : Int) (b3 : Bool) (b4 : Bool) (l5 : (List Int)) (x6 : Int) : Option ((List Int) × Bool) := vxAt vernierref06_Whole.C k [.b, .b, .b, .b, .b, .b, .b, .b] (bodyOf Go.Proofs.Tryd.f135) vernierref06_Whole.h (st0 [(0, .one (.int .i64 x0)), (4, .one (.ref 1000 0)), (9, .one (.ro (.int .u64) l1)), (11, .one (.int .i64 x2)), (12, .one (.bool b3))] [(1000, .loc [(.bool b4), (.ro (.int .u64) l5), (.int .i64 x6)])] 1001 93) (kret vernierref06_Whole.C Go.Proofs.Tryd.f135 vernierref06_Whole.sg)
noncomputable def vernierref06_Whole.j1 (k : Nat) (l0 : (List Int)) (b1 : Bool) : Option ((List Int) × Bool) := vxAt vernierref06_Whole.C k [.b, .b, .b, .b, .b, .b, .b, .b, .b, .b] (bodyOf Go.Proofs.Tryd.f135) vernierref06_Whole.h (st0 [(9, .one (.ro (.int .u64) l0)), (13, .one (.bool b1))] [] 1000 93) (kret vernierref06_Whole.C Go.Proofs.Tryd.f135 vernierref06_Whole.sg)
noncomputable def vernierref06_Round.sg : Sig := ⟨[(false, [.int .i64]), (false, [.int .i64]), (true, [.bool, .ro (.int .u64), .int .i64])], [(false, [.int .u64]), (false, [.int .i64])]⟩
noncomputable def vernierref06_Round.C : Ctx := ⟨TT, [(22, ⟨vernierref06_Params.sg, vernierref06_Params⟩), (57, ⟨vernierref03_Bits.sg, vernierref03_Bits⟩), (134, ⟨vernierref06_Beyond.sg, vernierref06_Beyond⟩), (135, ⟨vernierref06_Whole.sg, vernierref06_Whole⟩), (112, ⟨vernierref06_sign.sg, vernierref06_sign⟩), (56, ⟨vernierref03_Words.sg, vernierref03_Words⟩)], GL⟩
noncomputable def vernierref06_Round.h : H := (.node none .leaf (.node none .leaf (.node none .leaf (.node none .leaf (.node none .leaf (.node none .leaf (.node none .leaf (.node none .leaf (.node none .leaf (.node none .leaf (.node none .leaf (.node (some [(1, .any), (5, (.cells [.any, (.ro (.int .u64)), .any])), (9, .any), (10, .any), (12, .any), (15, .any), (16, .any)]) .leaf .leaf))))))))))))
noncomputable def vernierref06_Round : Nat → Int → Int → Bool → List Int → Int → Option (Int × Int) := vxFun vernierref06_Round.C Go.Proofs.Tryd.f114 vernierref06_Round.h vernierref06_Round.sg
noncomputable def vernierref06_Round.j0 (k : Nat) (x0 : Int) (x1 : Int) (x2 : Int) (x3 : Int) (b4 : Bool) (x5 : Int) (b6 : Bool) (l7 : (List Int)) (x8 : Int) : Option (Int × Int) := vxAt vernierref06_Round.C k [.b, .b, .b, .b, .b, .b, .b, .b, .b, .b, .b] (bodyOf Go.Proofs.Tryd.f114) vernierref06_Round.h (st0 [(1, .one (.int .i64 x0)), (5, .one (.ref 1000 0)), (9, .one (.int .i64 x1)), (10, .one (.int .i64 x2)), (12, .one (.int .i64 x3)), (15, .one (.bool b4)), (16, .one (.int .u64 x5))] [(1000, .loc [(.bool b6), (.ro (.int .u64) l7), (.int .i64 x8)])] 1001 123) (kret vernierref06_Round.C Go.Proofs.Tryd.f114 vernierref06_Round.sg)
noncomputable def vernierref06_Final.sg : Sig := ⟨[(false, [.int .i64]), (false, [.int .i64]), (true, [.bool, .ro (.int .u64), .int .i64]), (false, [.bool])], [(false, [.int .u64]), (false, [.int .i64])]⟩
noncomputable def vernierref06_Final.C : Ctx := ⟨TT, [(113, ⟨vernierref06_Nought.sg, vernierref06_Nought⟩), (114, ⟨vernierref06_Round.sg, vernierref06_Round⟩)], GL⟩
noncomputable def vernierref06_Final.h : H := .leaf
noncomputable def vernierref06_Final : Nat → Int → Int → Bool → List Int → Int → Bool → Option (Int × Int) := vxFun vernierref06_Final.C Go.Proofs.Tryd.f69 vernierref06_Final.h vernierref06_Final.sg
noncomputable def vernierref15_Parse.sg : Sig := ⟨[(false, [.int .i64]), (false, [.int .i64]), (false, [.str])], [(false, [.int .u64]), (false, [.int .i64]), (false, [.int .i64])]⟩
noncomputable def vernierref15_Parse.C : Ctx := ⟨TT, [(53, ⟨vernierref06_Known.sg, vernierref06_Known⟩), (67, ⟨vernierref15_Read.sg, vernierref15_Read⟩), (24, ⟨vernierref06_Quiet.sg, vernierref06_Quiet⟩), (68, ⟨vernierref06_Infinity.sg, vernierref06_Infinity⟩), (69, ⟨vernierref06_Final.sg, vernierref06_Final⟩)], GL⟩
noncomputable def vernierref15_Parse.h : H := .leaf
noncomputable def vernierref15_Parse : Nat → Int → Int → ByteArray → Option (Int × Int × Int) := vxFun vernierref15_Parse.C Go.Proofs.Tryd.f20 vernierref15_Parse.h vernierref15_Parse.sg
noncomputable def vernierlaw15_HexesParses.sg : Sig := ⟨[(false, [.int .i64]), (false, [.int .i64]), (false, [.str])], [(false, [.bool])]⟩
noncomputable def vernierlaw15_HexesParses.C : Ctx := ⟨TT, [(18, ⟨vernierlaw15_awake.sg, vernierlaw15_awake⟩), (19, ⟨hexes_Parse.sg, hexes_Parse⟩), (20, ⟨vernierref15_Parse.sg, vernierref15_Parse⟩)], GL⟩
noncomputable def vernierlaw15_HexesParses.h : H := (.node none .leaf (.node none .leaf (.node none .leaf (.node none .leaf (.node none .leaf (.node (some [(2, .any)]) .leaf .leaf))))))
noncomputable def vernierlaw15_HexesParses : Nat → Int → Int → ByteArray → Option (Bool) := vxFun vernierlaw15_HexesParses.C Go.Proofs.Tryd.f5 vernierlaw15_HexesParses.h vernierlaw15_HexesParses.sg
noncomputable def vernierlaw15_HexesParses.j0 (k : Nat) (s0 : ByteArray) : Option (Bool) := vxAt vernierlaw15_HexesParses.C k [.b, .b, .b, .b, .b] (bodyOf Go.Proofs.Tryd.f5) vernierlaw15_HexesParses.h (st0 [(2, .one (.str s0))] [] 1000 69) (kret vernierlaw15_HexesParses.C Go.Proofs.Tryd.f5 vernierlaw15_HexesParses.sg)
noncomputable def vernierlaw15_into.sg : Sig := ⟨[(false, [.int .i64]), (false, [.int .i64])], [(false, [.int .i64])]⟩
noncomputable def vernierlaw15_into.C : Ctx := ⟨TT, [], GL⟩
noncomputable def vernierlaw15_into.h : H := .leaf
noncomputable def vernierlaw15_into : Nat → Int → Int → Option (Int) := vxFun vernierlaw15_into.C Go.Proofs.Tryd.f21 vernierlaw15_into.h vernierlaw15_into.sg
def vernierlaw15_upper.s0 : ByteArray := ⟨#[65, 66, 67, 68, 69, 70, 71, 72, 73, 74, 75, 76, 77, 78, 79, 80, 81, 82, 83, 84, 85, 86, 87, 88, 89, 90]⟩
noncomputable def vernierlaw15_upper.sg : Sig := ⟨[(false, [.int .u8])], [(false, [.str])]⟩
noncomputable def vernierlaw15_upper.C : Ctx := ⟨TT, [], GL⟩
noncomputable def vernierlaw15_upper.h : H := .leaf
noncomputable def vernierlaw15_upper : Nat → Int → Option (ByteArray) := vxFun vernierlaw15_upper.C Go.Proofs.Tryd.f25 vernierlaw15_upper.h vernierlaw15_upper.sg
def vernierlaw15_HexesBack.s0 : ByteArray := ⟨#[43]⟩
def vernierlaw15_HexesBack.s1 : ByteArray := ⟨#[]⟩
noncomputable def vernierlaw15_HexesBack.sg : Sig := ⟨[(false, [.int .i64]), (false, [.int .i64]), (false, [.int .u64])], [(false, [.bool])]⟩
noncomputable def vernierlaw15_HexesBack.C : Ctx := ⟨TT, [(18, ⟨vernierlaw15_awake.sg, vernierlaw15_awake⟩), (21, ⟨vernierlaw15_into.sg, vernierlaw15_into⟩), (22, ⟨vernierref06_Params.sg, vernierref06_Params⟩), (16, ⟨hexes_Print.sg, hexes_Print⟩), (23, ⟨vernierref06_Open.sg, vernierref06_Open⟩), (24, ⟨vernierref06_Quiet.sg, vernierref06_Quiet⟩), (19, ⟨hexes_Parse.sg, hexes_Parse⟩), (25, ⟨vernierlaw15_upper.sg, vernierlaw15_upper⟩)], GL⟩
noncomputable def vernierlaw15_HexesBack.h : H := (.node none .leaf (.node none .leaf (.node none .leaf (.node none .leaf (.node none .leaf (.node none .leaf (.node none .leaf (.node none .leaf (.node none .leaf (.node (some [(0, .any), (1, .any), (2, .any), (11, .any)]) .leaf (.node none .leaf (.node none .leaf (.node (some [(0, .any), (1, .any), (11, .any), (13, .any), (14, (.cells [.any, .any, .any, .any, .any, (.ro (.int .u64)), .any]))]) .leaf (.node none .leaf (.node (some [(0, .any), (1, .any), (11, .any), (13, .any), (14, (.cells [.any, .any, .any, .any, .any, (.ro (.int .u64)), .any]))]) .leaf (.node none .leaf (.node (some [(0, .any), (1, .any), (11, .any), (13, .any), (17, .any)]) (.node none .leaf (.node none (.node (some [(0, .any), (1, .any), (11, .any), (13, .any), (17, .any), (18, .any)]) .leaf .leaf) .leaf)) .leaf)))))))))))))))))
noncomputable def vernierlaw15_HexesBack : Nat → Int → Int → Int → Option (Bool) := vxFun vernierlaw15_HexesBack.C Go.Proofs.Tryd.f6 vernierlaw15_HexesBack.h vernierlaw15_HexesBack.sg
noncomputable def vernierlaw15_HexesBack.j0 (k : Nat) (x0 : Int) (x1 : Int) (x2 : Int) (s3 : ByteArray) : Option (Bool) := vxAt vernierlaw15_HexesBack.C k [.b, .b, .b, .b, .b, .b, .b, .b, .b] (bodyOf Go.Proofs.Tryd.f6) vernierlaw15_HexesBack.h (st0 [(0, .one (.int .i64 x0)), (1, .one (.int .i64 x1)), (2, .one (.int .u64 x2)), (11, .one (.str s3))] [] 1000 135) (kret vernierlaw15_HexesBack.C Go.Proofs.Tryd.f6 vernierlaw15_HexesBack.sg)
noncomputable def vernierlaw15_HexesBack.j1 (k : Nat) (x0 : Int) (x1 : Int) (s2 : ByteArray) (x3 : Int) (b4 : Bool) (b5 : Bool) (b6 : Bool) (b7 : Bool) (b8 : Bool) (l9 : (List Int)) (x10 : Int) : Option (Bool) := vxAt vernierlaw15_HexesBack.C k [.b, .b, .b, .b, .b, .b, .b, .b, .b, .b, .b, .b] (bodyOf Go.Proofs.Tryd.f6) vernierlaw15_HexesBack.h (st0 [(0, .one (.int .i64 x0)), (1, .one (.int .i64 x1)), (11, .one (.str s2)), (13, .one (.int .u64 x3)), (14, .one (.ref 1000 0))] [(1000, .loc [(.bool b4), (.bool b5), (.bool b6), (.bool b7), (.bool b8), (.ro (.int .u64) l9), (.int .i64 x10)])] 1001 135) (kret vernierlaw15_HexesBack.C Go.Proofs.Tryd.f6 vernierlaw15_HexesBack.sg)
noncomputable def vernierlaw15_HexesBack.j2 (k : Nat) (x0 : Int) (x1 : Int) (s2 : ByteArray) (x3 : Int) (b4 : Bool) (b5 : Bool) (b6 : Bool) (b7 : Bool) (b8 : Bool) (l9 : (List Int)) (x10 : Int) : Option (Bool) := vxAt vernierlaw15_HexesBack.C k [.b, .b, .b, .b, .b, .b, .b, .b, .b, .b, .b, .b, .b, .b] (bodyOf Go.Proofs.Tryd.f6) vernierlaw15_HexesBack.h (st0 [(0, .one (.int .i64 x0)), (1, .one (.int .i64 x1)), (11, .one (.str s2)), (13, .one (.int .u64 x3)), (14, .one (.ref 1000 0))] [(1000, .loc [(.bool b4), (.bool b5), (.bool b6), (.bool b7), (.bool b8), (.ro (.int .u64) l9), (.int .i64 x10)])] 1001 135) (kret vernierlaw15_HexesBack.C Go.Proofs.Tryd.f6 vernierlaw15_HexesBack.sg)
noncomputable def vernierlaw15_HexesBack.j3 (k : Nat) (x0 : Int) (x1 : Int) (s2 : ByteArray) (x3 : Int) (s4 : ByteArray) : Option (Bool) := vxAt vernierlaw15_HexesBack.C k [.b, .b, .b, .b, .b, .b, .b, .b, .b, .b, .b, .b, .b, .b, .b, .b] (bodyOf Go.Proofs.Tryd.f6) vernierlaw15_HexesBack.h (st0 [(0, .one (.int .i64 x0)), (1, .one (.int .i64 x1)), (11, .one (.str s2)), (13, .one (.int .u64 x3)), (17, .one (.str s4))] [] 1000 135) (kret vernierlaw15_HexesBack.C Go.Proofs.Tryd.f6 vernierlaw15_HexesBack.sg)
noncomputable def vernierlaw15_HexesBack.l4 (k n : Nat) (x0 : Int) (x1 : Int) (s2 : ByteArray) (x3 : Int) (s4 : ByteArray) (x5 : Int) : Option (Bool) := vxAt vernierlaw15_HexesBack.C k [.b, .b, .b, .b, .b, .b, .b, .b, .b, .b, .b, .b, .b, .b, .b, .b, .a, .b, .blk, .loop n] (bodyOf Go.Proofs.Tryd.f6) vernierlaw15_HexesBack.h (st0 [(0, .one (.int .i64 x0)), (1, .one (.int .i64 x1)), (11, .one (.str s2)), (13, .one (.int .u64 x3)), (17, .one (.str s4)), (18, .one (.int .i64 x5))] [] 1000 135) (kret vernierlaw15_HexesBack.C Go.Proofs.Tryd.f6 vernierlaw15_HexesBack.sg)
def vernierlaw15_HexesWrong.s0 : ByteArray := ⟨#[32]⟩
def vernierlaw15_HexesWrong.s1 : ByteArray := ⟨#[46]⟩
def vernierlaw15_HexesWrong.s2 : ByteArray := ⟨#[112]⟩
def vernierlaw15_HexesWrong.s3 : ByteArray := ⟨#[45, 45]⟩
def vernierlaw15_HexesWrong.s4 : ByteArray := ⟨#[43, 45]⟩
def vernierlaw15_HexesWrong.s5 : ByteArray := ⟨#[48, 120]⟩
def vernierlaw15_HexesWrong.s6 : ByteArray := ⟨#[0]⟩
def vernierlaw15_HexesWrong.s7 : ByteArray := ⟨#[120]⟩
def vernierlaw15_HexesWrong.s8 : ByteArray := ⟨#[195, 169]⟩
def vernierlaw15_HexesWrong.s9 : ByteArray := ⟨#[48, 120, 112, 49]⟩
def vernierlaw15_HexesWrong.s10 : ByteArray := ⟨#[48, 120, 46, 112, 49]⟩
def vernierlaw15_HexesWrong.s11 : ByteArray := ⟨#[48, 120, 49, 112, 43]⟩
def vernierlaw15_HexesWrong.s12 : ByteArray := ⟨#[48, 120, 49, 112, 49, 112, 49]⟩
def vernierlaw15_HexesWrong.s13 : ByteArray := ⟨#[48, 120, 49, 46, 49, 46, 49]⟩
def vernierlaw15_HexesWrong.s14 : ByteArray := ⟨#[48, 120, 48, 48, 48, 48, 48, 48, 48, 48, 48]⟩
noncomputable def vernierlaw15_HexesWrong.sg : Sig := ⟨[(false, [.int .i64]), (false, [.int .u64]), (false, [.str])], [(false, [.bool])]⟩
noncomputable def vernierlaw15_HexesWrong.C : Ctx := ⟨TT, [(18, ⟨vernierlaw15_awake.sg, vernierlaw15_awake⟩), (21, ⟨vernierlaw15_into.sg, vernierlaw15_into⟩), (22, ⟨vernierref06_Params.sg, vernierref06_Params⟩), (16, ⟨hexes_Print.sg, hexes_Print⟩), (19, ⟨hexes_Parse.sg, hexes_Parse⟩)], GL⟩
noncomputable def vernierlaw15_HexesWrong.h : H := (.node none .leaf (.node none .leaf (.node none .leaf (.node none .leaf (.node none .leaf (.node none .leaf (.node none .leaf (.node none (.node none .leaf (.node none (.node (some [(0, .any), (2, .any), (66, (.rw .str)), (67, .any), (68, .any)]) .leaf .leaf) .leaf)) (.node none .leaf (.node none (.node none (.node (some [(0, .any), (18, .any)]) .leaf .leaf) .leaf) .leaf))))))))))
noncomputable def vernierlaw15_HexesWrong : Nat → Int → Int → ByteArray → Option (Bool) := vxFun vernierlaw15_HexesWrong.C Go.Proofs.Tryd.f7 vernierlaw15_HexesWrong.h vernierlaw15_HexesWrong.sg
noncomputable def vernierlaw15_HexesWrong.l0 (k n : Nat) (x0 : Int) (s1 : ByteArray) (x2 : Int) (x3 : Int) (l4 : (List ByteArray)) : Option (Bool) := vxAt vernierlaw15_HexesWrong.C k [.b, .b, .b, .b, .b, .b, .b, .a, .b, .blk, .loop n] (bodyOf Go.Proofs.Tryd.f7) vernierlaw15_HexesWrong.h (st0 [(0, .one (.int .i64 x0)), (2, .one (.str s1)), (66, .one (.sl 1000 0 none)), (67, .one (.int .i64 x2)), (68, .one (.int .i64 x3))] [(1000, .arr .str l4 .full)] 1001 113) (kret vernierlaw15_HexesWrong.C Go.Proofs.Tryd.f7 vernierlaw15_HexesWrong.sg)
noncomputable def vernierlaw15_HexesWrong.l1 (k n : Nat) (x0 : Int) (s1 : ByteArray) : Option (Bool) := vxAt vernierlaw15_HexesWrong.C k [.b, .b, .b, .b, .b, .b, .b, .b, .b, .a, .blk, .loop n] (bodyOf Go.Proofs.Tryd.f7) vernierlaw15_HexesWrong.h (st0 [(0, .one (.int .i64 x0)), (18, .one (.str s1))] [] 1000 113) (kret vernierlaw15_HexesWrong.C Go.Proofs.Tryd.f7 vernierlaw15_HexesWrong.sg)
noncomputable def dyad_Scale.sg : Sig := ⟨[(true, [.bool, .ro (.int .u64), .int .i64]), (false, [.int .i64])], [(true, [.bool, .fr (.int .u64), .int .i64]), (false, [.int .i64])]⟩
noncomputable def dyad_Scale.C : Ctx := ⟨TT, [(71, ⟨dyad_refuses.sg, dyad_refuses⟩), (72, ⟨dyad_odd.sg, dyad_odd⟩), (73, ⟨dyad_answer.sg, dyad_answer⟩)], GL⟩
noncomputable def dyad_Scale.h : H := .leaf
noncomputable def dyad_Scale : Nat → Bool → List Int → Int → Int → Option (Bool × (List Int) × Int × Int) := vxFun dyad_Scale.C Go.Proofs.Tryd.f26 dyad_Scale.h dyad_Scale.sg
noncomputable def dyad_FromInt.sg : Sig := ⟨[(false, [.int .i64])], [(true, [.bool, .fr (.int .u64), .int .i64])]⟩
noncomputable def dyad_FromInt.C : Ctx := ⟨TT, [(72, ⟨dyad_odd.sg, dyad_odd⟩)], GL⟩
noncomputable def dyad_FromInt.h : H := .leaf
noncomputable def dyad_FromInt : Nat → Int → Option (Bool × (List Int) × Int) := vxFun dyad_FromInt.C Go.Proofs.Tryd.f28 dyad_FromInt.h dyad_FromInt.sg
noncomputable def dyad_two.sg : Sig := ⟨[(true, [.bool, .ro (.int .u64), .int .i64]), (true, [.bool, .ro (.int .u64), .int .i64])], [(false, [.int .i64])]⟩
noncomputable def dyad_two.C : Ctx := ⟨TT, [(71, ⟨dyad_refuses.sg, dyad_refuses⟩)], GL⟩
noncomputable def dyad_two.h : H := .leaf
noncomputable def dyad_two : Nat → Bool → List Int → Int → Bool → List Int → Int → Option (Int) := vxFun dyad_two.C Go.Proofs.Tryd.f74 dyad_two.h dyad_two.sg
noncomputable def dyad_raised.sg : Sig := ⟨[(false, [.ro (.int .u64)]), (false, [.int .i64])], [(false, [.fr (.int .u64)])]⟩
noncomputable def dyad_raised.C : Ctx := ⟨TT, [(37, ⟨nat_Trim.sg, nat_Trim⟩)], GL⟩
noncomputable def dyad_raised.h : H := (.node none .leaf (.node none .leaf (.node none .leaf (.node none .leaf (.node none (.node none .leaf (.node none (.node (some [(5, .any), (6, .any), (7, (.rw (.int .u64))), (24, (.ro (.int .u64))), (25, .any), (26, .any)]) .leaf .leaf) .leaf)) .leaf)))))
noncomputable def dyad_raised : Nat → List Int → Int → Option ((List Int)) := vxFun dyad_raised.C Go.Proofs.Tryd.f136 dyad_raised.h dyad_raised.sg
noncomputable def dyad_raised.l0 (k n : Nat) (x0 : Int) (x1 : Int) (l2 : (List Int)) (x3 : Int) (x4 : Int) (l5 : (List Int)) : Option ((List Int)) := vxAt dyad_raised.C k [.b, .b, .b, .b, .a, .b, .blk, .loop n] (bodyOf Go.Proofs.Tryd.f136) dyad_raised.h (st0 [(5, .one (.int .i64 x0)), (6, .one (.int .u64 x1)), (7, .one (.sl 1000 0 none)), (24, .one (.ro (.int .u64) l2)), (25, .one (.int .i64 x3)), (26, .one (.int .i64 x4))] [(1000, .arr (.int .u64) l5 .full)] 1001 57) (kret dyad_raised.C Go.Proofs.Tryd.f136 dyad_raised.sg)
noncomputable def dyad_aligned.sg : Sig := ⟨[(true, [.bool, .ro (.int .u64), .int .i64]), (true, [.bool, .ro (.int .u64), .int .i64])], [(false, [.fr (.int .u64)]), (false, [.fr (.int .u64)]), (false, [.int .i64])]⟩
noncomputable def dyad_aligned.C : Ctx := ⟨TT, [(136, ⟨dyad_raised.sg, dyad_raised⟩)], GL⟩
noncomputable def dyad_aligned.h : H := .leaf
noncomputable def dyad_aligned : Nat → Bool → List Int → Int → Bool → List Int → Int → Option ((List Int) × (List Int) × Int) := vxFun dyad_aligned.C Go.Proofs.Tryd.f116 dyad_aligned.h dyad_aligned.sg
noncomputable def nat_Cmp.sg : Sig := ⟨[(false, [.ro (.int .u64)]), (false, [.ro (.int .u64)])], [(false, [.int .i64])]⟩
noncomputable def nat_Cmp.C : Ctx := ⟨TT, [(84, ⟨nat_trim.sg, nat_trim⟩)], GL⟩
noncomputable def nat_Cmp.h : H := (.node none .leaf (.node none .leaf (.node none .leaf (.node none (.node none .leaf (.node none (.node (some [(0, (.ro (.int .u64))), (1, (.ro (.int .u64))), (5, .any)]) .leaf .leaf) .leaf)) .leaf))))
noncomputable def nat_Cmp : Nat → List Int → List Int → Option (Int) := vxFun nat_Cmp.C Go.Proofs.Tryd.f88 nat_Cmp.h nat_Cmp.sg
noncomputable def nat_Cmp.l0 (k n : Nat) (l0 : (List Int)) (l1 : (List Int)) (x2 : Int) : Option (Int) := vxAt nat_Cmp.C k [.b, .b, .b, .a, .b, .blk, .loop n] (bodyOf Go.Proofs.Tryd.f88) nat_Cmp.h (st0 [(0, .one (.ro (.int .u64) l0)), (1, .one (.ro (.int .u64) l1)), (5, .one (.int .i64 x2))] [] 1000 49) (kret nat_Cmp.C Go.Proofs.Tryd.f88 nat_Cmp.sg)
noncomputable def bits_Sub64.sg : Sig := sg332
noncomputable def bits_Sub64 (k : Nat) (x y c : Int) : Option (Int × Int) := sub64F k x y c
noncomputable def nat_less.sg : Sig := ⟨[(false, [.own (.int .u64)]), (false, [.ro (.int .u64)])], [(false, [.ro (.int .u64)])]⟩
noncomputable def nat_less.C : Ctx := ⟨TT, [(126, ⟨bits_Sub64.sg, bits_Sub64⟩), (84, ⟨nat_trim.sg, nat_trim⟩)], GL⟩
noncomputable def nat_less.h : H := (.node none .leaf (.node none .leaf (.node none (.node none .leaf (.node none (.node (some [(0, (.rw (.int .u64))), (1, (.ro (.int .u64))), (5, .any), (9, .any), (10, .any)]) .leaf .leaf) .leaf)) .leaf)))
noncomputable def nat_less : Nat → List Int → List Int → Option ((List Int)) := vxFun nat_less.C Go.Proofs.Tryd.f89 nat_less.h nat_less.sg
noncomputable def nat_less.l0 (k n : Nat) (l0 : (List Int)) (x1 : Int) (x2 : Int) (x3 : Int) (l4 : (List Int)) : Option ((List Int)) := vxAt nat_less.C k [.b, .b, .a, .b, .blk, .loop n] (bodyOf Go.Proofs.Tryd.f89) nat_less.h (st0 [(0, .one (.sl 1000 0 none)), (1, .one (.ro (.int .u64) l0)), (5, .one (.int .u64 x1)), (9, .one (.int .i64 x2)), (10, .one (.int .i64 x3))] [(1000, .arr (.int .u64) l4 .full)] 1001 37) (kret nat_less.C Go.Proofs.Tryd.f89 nat_less.sg)
noncomputable def nat_Sub.sg : Sig := ⟨[(false, [.ro (.int .u64)]), (false, [.ro (.int .u64)])], [(false, [.ro (.int .u64)]), (false, [.int .i64])]⟩
noncomputable def nat_Sub.C : Ctx := ⟨TT, [(88, ⟨nat_Cmp.sg, nat_Cmp⟩), (86, ⟨nat_copied.sg, nat_copied⟩), (84, ⟨nat_trim.sg, nat_trim⟩), (89, ⟨nat_less.sg, nat_less⟩)], GL⟩
noncomputable def nat_Sub.h : H := .leaf
noncomputable def nat_Sub : Nat → List Int → List Int → Option ((List Int) × Int) := vxFun nat_Sub.C Go.Proofs.Tryd.f39 nat_Sub.h nat_Sub.sg
noncomputable def dyad_sum.sg : Sig := ⟨[(true, [.bool, .ro (.int .u64), .int .i64]), (true, [.bool, .ro (.int .u64), .int .i64])], [(true, [.bool, .ro (.int .u64), .int .i64])]⟩
noncomputable def dyad_sum.C : Ctx := ⟨TT, [(116, ⟨dyad_aligned.sg, dyad_aligned⟩), (38, ⟨nat_Add.sg, nat_Add⟩), (72, ⟨dyad_odd.sg, dyad_odd⟩), (88, ⟨nat_Cmp.sg, nat_Cmp⟩), (39, ⟨nat_Sub.sg, nat_Sub⟩)], GL⟩
noncomputable def dyad_sum.h : H := .leaf
noncomputable def dyad_sum : Nat → Bool → List Int → Int → Bool → List Int → Int → Option (Bool × (List Int) × Int) := vxFun dyad_sum.C Go.Proofs.Tryd.f75 dyad_sum.h dyad_sum.sg
noncomputable def dyad_Add.sg : Sig := ⟨[(true, [.bool, .ro (.int .u64), .int .i64]), (true, [.bool, .ro (.int .u64), .int .i64])], [(true, [.bool, .fr (.int .u64), .int .i64]), (false, [.int .i64])]⟩
noncomputable def dyad_Add.C : Ctx := ⟨TT, [(74, ⟨dyad_two.sg, dyad_two⟩), (72, ⟨dyad_odd.sg, dyad_odd⟩), (75, ⟨dyad_sum.sg, dyad_sum⟩), (73, ⟨dyad_answer.sg, dyad_answer⟩)], GL⟩
noncomputable def dyad_Add.h : H := .leaf
noncomputable def dyad_Add : Nat → Bool → List Int → Int → Bool → List Int → Int → Option (Bool × (List Int) × Int × Int) := vxFun dyad_Add.C Go.Proofs.Tryd.f27 dyad_Add.h dyad_Add.sg
noncomputable def dyad_Neg.sg : Sig := ⟨[(true, [.bool, .ro (.int .u64), .int .i64])], [(true, [.bool, .fr (.int .u64), .int .i64]), (false, [.int .i64])]⟩
noncomputable def dyad_Neg.C : Ctx := ⟨TT, [(71, ⟨dyad_refuses.sg, dyad_refuses⟩), (73, ⟨dyad_answer.sg, dyad_answer⟩)], GL⟩
noncomputable def dyad_Neg.h : H := .leaf
noncomputable def dyad_Neg : Nat → Bool → List Int → Int → Option (Bool × (List Int) × Int × Int) := vxFun dyad_Neg.C Go.Proofs.Tryd.f29 dyad_Neg.h dyad_Neg.sg
def vernierlaw15_number.s0 : ByteArray := ⟨#[45]⟩
def vernierlaw15_number.s1 : ByteArray := ⟨#[43]⟩
def vernierlaw15_number.s2 : ByteArray := ⟨#[]⟩
def vernierlaw15_number.s3 : ByteArray := ⟨#[48, 49, 50, 51, 52, 53, 54, 55, 56, 57]⟩
noncomputable def vernierlaw15_number.sg : Sig := ⟨[(false, [.int .i64])], [(false, [.str])]⟩
noncomputable def vernierlaw15_number.C : Ctx := ⟨TT, [], GL⟩
noncomputable def vernierlaw15_number.h : H := (.node none .leaf (.node none .leaf (.node none .leaf (.node (some [(0, .any), (3, .any)]) .leaf (.node none (.node none (.node (some [(0, .any), (3, .any), (4, .any)]) .leaf .leaf) .leaf) .leaf)))))
noncomputable def vernierlaw15_number : Nat → Int → Option (ByteArray) := vxFun vernierlaw15_number.C Go.Proofs.Tryd.f33 vernierlaw15_number.h vernierlaw15_number.sg
noncomputable def vernierlaw15_number.j0 (k : Nat) (x0 : Int) (s1 : ByteArray) : Option (ByteArray) := vxAt vernierlaw15_number.C k [.b, .b, .b] (bodyOf Go.Proofs.Tryd.f33) vernierlaw15_number.h (st0 [(0, .one (.int .i64 x0)), (3, .one (.str s1))] [] 1000 28) (kret vernierlaw15_number.C Go.Proofs.Tryd.f33 vernierlaw15_number.sg)
noncomputable def vernierlaw15_number.l1 (k n : Nat) (x0 : Int) (s1 : ByteArray) (s2 : ByteArray) : Option (ByteArray) := vxAt vernierlaw15_number.C k [.b, .b, .b, .b, .a, .blk, .loop n] (bodyOf Go.Proofs.Tryd.f33) vernierlaw15_number.h (st0 [(0, .one (.int .i64 x0)), (3, .one (.str s1)), (4, .one (.str s2))] [] 1000 28) (kret vernierlaw15_number.C Go.Proofs.Tryd.f33 vernierlaw15_number.sg)
/-- From a place in the code on, without the name of the cut: the kernel runs it at once. -/
def vxIn {ρ : Type} (C : Ctx) (fuel : Nat) : List Dir → Code → H → St → (EX → St → Option ρ) → Option ρ
  | [], c, h, S, K => vx C fuel c h S K
  | .a :: p, .seq x y, h, S, K => vxIn C fuel p x h.l S (kseq (fun S' => jnH h.r (vx C fuel y h.r) S' K) K)
  | .b :: p, .seq _ y, h, S, K => vxIn C fuel p y h.r S K
  | .thn :: p, .cond _ x _, h, S, K => vxIn C fuel p x h.l S K
  | .els :: p, .cond _ _ y, h, S, K => vxIn C fuel p y h.r S K
  | .blk :: p, .block id b, h, S, K => vxIn C fuel p b h.l S (kblock id K)
  | .loop n :: d :: p, .loop b, h, S, K => vxIn C fuel (d :: p) b h.l S (kseq (fun S' => iter (vx C fuel b h.l) h.st K n (h.st S')) K)
  | p, c, h, S, K => vxAt C fuel p c h S K
theorem vxAt_in {ρ : Type} (C : Ctx) (fuel : Nat) : ∀ (p : List Dir) (c : Code) (h : H) (S : St) (K : EX → St → Option ρ), vxAt C fuel p c h S K = vxIn C fuel p c h S K := by
  intro p
  induction p with
  | nil => intro c h S K; rfl
  | cons d p ih =>
    intro c h S K
    cases d with
    | loop n => cases p with
      | nil => cases c <;> rfl
      | cons e p => cases c <;> first | rfl | exact ih ..
    | _ => cases c <;> first | rfl | exact ih ..

end Go.Proofs.YtmoeaeflljpboaaDoor.X
