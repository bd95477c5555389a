/- The tables of this translation for the plain evaluator: types, functions, the slots that live at a loop's head. No condition. -/
import Derived.Test.YtjhbfeeaehaniaaDoorProg
import Derived.Test.YtjhbfeeaehaniaaDoorV21
namespace Go.Proofs.YtjhbfeeaehaniaaDoor.V
open Go
def tabL : List TyR := [
  ⟨.other, [], 0, false⟩,
  ⟨.func, [.func], 8, false⟩,
  ⟨.int .i64, [.int .i64], 8, false⟩,
  ⟨.int .i64, [.int .i64], 8, false⟩,
  ⟨.bool, [.bool], 1, false⟩,
  ⟨.int .u8, [.int .u8], 1, false⟩,
  ⟨.int .u8, [.int .u8], 1, false⟩,
  ⟨.struct [(0, 2), (1, 3), (2, 4), (3, 6)], [.int .i64, .int .i64, .bool, .int .u8], 24, false⟩,
  ⟨.struct [(0, 2), (1, 3), (2, 4), (3, 6)], [.int .i64, .int .i64, .bool, .int .u8], 24, false⟩,
  ⟨.str, [.str], 16, false⟩,
  ⟨.str, [.str], 16, false⟩,
  ⟨.str, [.str], 16, false⟩,
  ⟨.int .u64, [.int .u64], 8, false⟩,
  ⟨.struct [(0, 9), (1, 12)], [.str, .int .u64], 24, false⟩,
  ⟨.struct [(0, 9), (1, 12)], [.str, .int .u64], 24, false⟩,
  ⟨.ptr 115, [.ptr 115], 8, false⟩,
  ⟨.ptr 118, [.ptr 118], 8, false⟩,
  ⟨.ptr 126, [.ptr 126], 8, false⟩,
  ⟨.struct [(0, 17)], [.ptr 126], 8, false⟩,
  ⟨.struct [(0, 17)], [.ptr 126], 8, false⟩,
  ⟨.other, [], 0, false⟩,
  ⟨.int .i32, [.int .i32], 4, false⟩,
  ⟨.slice 2, [.slice 2], 24, false⟩,
  ⟨.slice 56, [.slice 56], 24, false⟩,
  ⟨.struct [(0, 2), (1, 22), (2, 22), (3, 22), (4, 22), (5, 23)], [.int .i64, .slice 2, .slice 2, .slice 2, .slice 2, .slice 56], 128, false⟩,
  ⟨.struct [(0, 2), (1, 22), (2, 22), (3, 22), (4, 22), (5, 23)], [.int .i64, .slice 2, .slice 2, .slice 2, .slice 2, .slice 56], 128, false⟩,
  ⟨.struct [(0, 9), (1, 25), (7, 25)], [.str, .int .i64, .slice 2, .slice 2, .slice 2, .slice 2, .slice 56, .int .i64, .slice 2, .slice 2, .slice 2, .slice 2, .slice 56], 272, false⟩,
  ⟨.struct [(0, 9), (1, 25), (7, 25)], [.str, .int .i64, .slice 2, .slice 2, .slice 2, .slice 2, .slice 56, .int .i64, .slice 2, .slice 2, .slice 2, .slice 2, .slice 56], 272, false⟩,
  ⟨.func, [.func], 8, false⟩,
  ⟨.func, [.func], 8, false⟩,
  ⟨.slice 62, [.slice 62], 24, false⟩,
  ⟨.struct [(0, 2), (1, 22), (2, 22), (3, 22), (4, 22), (5, 30)], [.int .i64, .slice 2, .slice 2, .slice 2, .slice 2, .slice 62], 128, false⟩,
  ⟨.struct [(0, 2), (1, 22), (2, 22), (3, 22), (4, 22), (5, 30)], [.int .i64, .slice 2, .slice 2, .slice 2, .slice 2, .slice 62], 128, false⟩,
  ⟨.struct [(0, 9), (1, 32), (7, 32)], [.str, .int .i64, .slice 2, .slice 2, .slice 2, .slice 2, .slice 62, .int .i64, .slice 2, .slice 2, .slice 2, .slice 2, .slice 62], 272, false⟩,
  ⟨.struct [(0, 9), (1, 32), (7, 32)], [.str, .int .i64, .slice 2, .slice 2, .slice 2, .slice 2, .slice 62, .int .i64, .slice 2, .slice 2, .slice 2, .slice 2, .slice 62], 272, false⟩,
  ⟨.func, [.func], 8, false⟩,
  ⟨.func, [.func], 8, false⟩,
  ⟨.func, [.func], 8, false⟩,
  ⟨.func, [.func], 8, false⟩,
  ⟨.func, [.func], 8, false⟩,
  ⟨.func, [.func], 8, false⟩,
  ⟨.func, [.func], 8, false⟩,
  ⟨.func, [.func], 8, false⟩,
  ⟨.func, [.func], 8, false⟩,
  ⟨.func, [.func], 8, false⟩,
  ⟨.func, [.func], 8, false⟩,
  ⟨.func, [.func], 8, false⟩,
  ⟨.func, [.func], 8, false⟩,
  ⟨.func, [.func], 8, false⟩,
  ⟨.func, [.func], 8, false⟩,
  ⟨.func, [.func], 8, false⟩,
  ⟨.func, [.func], 8, false⟩,
  ⟨.func, [.func], 8, false⟩,
  ⟨.func, [.func], 8, false⟩,
  ⟨.func, [.func], 8, false⟩,
  ⟨.struct [(0, 22)], [.slice 2], 24, false⟩,
  ⟨.struct [(0, 22)], [.slice 2], 24, false⟩,
  ⟨.slice 9, [.slice 9], 24, false⟩,
  ⟨.other, [], 0, false⟩,
  ⟨.func, [.func], 8, false⟩,
  ⟨.func, [.func], 8, false⟩,
  ⟨.slice 5, [.slice 5], 24, false⟩,
  ⟨.struct [(0, 22)], [.slice 2], 24, false⟩,
  ⟨.func, [.func], 8, false⟩,
  ⟨.func, [.func], 8, false⟩,
  ⟨.func, [.func], 8, false⟩,
  ⟨.slice 22, [.slice 22], 24, false⟩,
  ⟨.func, [.func], 8, false⟩,
  ⟨.func, [.func], 8, false⟩,
  ⟨.func, [.func], 8, false⟩,
  ⟨.func, [.func], 8, false⟩,
  ⟨.other, [], 0, false⟩,
  ⟨.func, [.func], 8, false⟩,
  ⟨.func, [.func], 8, false⟩,
  ⟨.func, [.func], 8, false⟩,
  ⟨.func, [.func], 8, false⟩,
  ⟨.func, [.func], 8, false⟩,
  ⟨.func, [.func], 8, false⟩,
  ⟨.func, [.func], 8, false⟩,
  ⟨.func, [.func], 8, false⟩,
  ⟨.func, [.func], 8, false⟩,
  ⟨.ptr 83, [.ptr 83], 8, false⟩,
  ⟨.struct [(0, 81), (1, 61)], [.ptr 83, .slice 5], 32, false⟩,
  ⟨.bld 5, [], 0, false⟩,
  ⟨.other, [], 0, false⟩,
  ⟨.other, [], 0, false⟩,
  ⟨.other, [], 0, false⟩,
  ⟨.func, [.func], 8, false⟩,
  ⟨.func, [.func], 8, false⟩,
  ⟨.func, [.func], 8, false⟩,
  ⟨.func, [.func], 8, false⟩,
  ⟨.func, [.func], 8, false⟩,
  ⟨.func, [.func], 8, false⟩,
  ⟨.func, [.func], 8, false⟩,
  ⟨.ptr 5, [.ptr 5], 8, false⟩,
  ⟨.func, [.func], 8, false⟩,
  ⟨.func, [.func], 8, false⟩,
  ⟨.func, [.func], 8, false⟩,
  ⟨.func, [.func], 8, false⟩,
  ⟨.other, [], 0, false⟩,
  ⟨.func, [.func], 8, false⟩,
  ⟨.func, [.func], 8, false⟩,
  ⟨.other, [], 0, false⟩,
  ⟨.func, [.func], 8, false⟩,
  ⟨.func, [.func], 8, false⟩,
  ⟨.func, [.func], 8, false⟩,
  ⟨.int .u64, [.int .u64], 8, false⟩,
  ⟨.other, [], 0, false⟩,
  ⟨.struct [(0, 5), (1, 5)], [.int .u8, .int .u8], 2, false⟩,
  ⟨.struct [(0, 5), (1, 5)], [.int .u8, .int .u8], 2, false⟩,
  ⟨.other, [], 0, false⟩,
  ⟨.int .u32, [.int .u32], 4, false⟩,
  ⟨.other, [], 0, false⟩,
  ⟨.func, [.func], 8, false⟩,
  ⟨.struct [(0, 17), (1, 17), (2, 17), (3, 9)], [.ptr 126, .ptr 126, .ptr 126, .str], 40, false⟩,
  ⟨.struct [(0, 17), (1, 17), (2, 17), (3, 9)], [.ptr 126, .ptr 126, .ptr 126, .str], 40, false⟩,
  ⟨.other, [], 0, false⟩,
  ⟨.other, [], 0, false⟩,
  ⟨.other, [], 0, false⟩,
  ⟨.func, [.func], 8, false⟩,
  ⟨.int .u8, [.int .u8], 1, false⟩,
  ⟨.int .u8, [.int .u8], 1, false⟩,
  ⟨.func, [.func], 8, false⟩,
  ⟨.int .i32, [.int .i32], 4, false⟩,
  ⟨.int .i32, [.int .i32], 4, false⟩,
  ⟨.other, [], 0, false⟩,
  ⟨.other, [], 0, false⟩]
def methL : List (Nat × Nat) := [(61, 1), (62, 2), (600000, 10)]
def tab : Tab := mkTab tabL methL
def live : FuncId → Nat → Live × Live
  | 17, 5 => ([(0, .any), (1, .any), (5, .any)], [(1, .any), (4, .any)])
  | 20, 3 => ([(0, .any), (3, .any), (4, .any)], [(2, .any), (3, .any)])
  | 21, 9 => ([(1, .any), (3, .any), (4, .any)], [(2, .any), (3, .any)])
  | 22, 3 => ([(0, .any), (3, .any), (4, .any)], [(2, .ownSlice 2), (3, .any)])
  | 23, 3 => ([(0, .any), (3, .any), (4, .any)], [(2, .ownSlice 62), (3, .any)])
  | 27, 6 => ([(3, .any), (22, .any), (23, .any), (24, .any)], [(2, .any), (3, .any)])
  | 27, 13 => ([(1, .any), (3, .any), (50, .any), (51, .any), (52, .any)], [(2, .any), (3, .any)])
  | 28, 4 => ([(0, .any), (1, .any), (5, .any)], [(4, .any)])
  | 29, 4 => ([(0, .any), (1, .any), (5, .any)], [(4, .any)])
  | 31, 8 => ([(0, .any), (4, .any), (5, .any), (6, .any)], [(2, .ownSlice 9), (3, .any), (4, .any)])
  | 33, 5 => ([(1, .any), (3, .any), (4, .any)], [(2, .any)])
  | 34, 4 => ([(0, .any), (3, .any)], [(2, .any)])
  | 34, 9 => ([(0, .any), (3, .any), (4, .any)], [(0, .any), (2, .any), (3, .any)])
  | 38, 5 => ([(1, .any), (31, .any), (32, .any)], [(2, .any)])
  | 40, 3 => ([(0, .any), (5, .any), (10, .any), (11, .any)], [(4, .any), (5, .any)])
  | 42, 3 => ([(3, .any), (6, .any), (7, .any), (8, .any)], [(2, .any), (3, .any)])
  | 44, 4 => ([(0, .any), (3, .any)], [(2, .any)])
  | 51, 2 => ([(0, .any), (7, .any), (8, .any)], [(0, .any), (2, .any)])
  | 52, 4 => ([(1, .any), (2, .any), (15, .any), (16, .any), (17, .any)], [(6, .any)])
  | 53, 4 => ([(0, .any), (1, .any), (12, .any), (13, .any)], [(4, .any)])
  | 54, 4 => ([(1, .any), (2, .any), (15, .any), (16, .any), (17, .any)], [(6, .any)])
  | 65, 11 => ([(0, .any), (1, .any), (2, .any), (3, .any), (9, .any), (10, .any)], [(0, .any), (8, .ownSlice 9), (9, .any), (10, .any)])
  | 66, 2 => ([(0, .any), (1, .any), (7, .any), (8, .any)], [(4, .any)])
  | 67, 2 => ([(0, .any), (1, .any), (7, .any), (8, .any)], [(4, .any)])
  | 72, 6 => ([(0, .any), (1, .any), (6, .any), (7, .any)], [(0, .any), (1, .any), (4, .ownSlice 9), (6, .any)])
  | 73, 6 => ([(0, .any), (1, .any), (5, .any)], [(4, .any)])
  | 75, 2 => ([(0, .any), (1, .any), (7, .any), (8, .any)], [(4, .any)])
  | 77, 2 => ([(2, .any), (4, .any)], [(2, .any)])
  | 80, 15 => ([(0, .any), (1, .any), (5, .any), (6, .any), (7, .any), (8, .any), (9, .any), (10, .any)], [(4, .any)])
  | 85, 5 => ([(0, .any), (1, .any), (5, .any), (6, .any), (7, .any), (8, .any), (9, .any)], [(0, .any), (1, .any), (4, .any), (5, .any), (6, .any), (7, .any), (8, .any)])
  | 85, 11 => ([(0, .any), (1, .any), (5, .any), (6, .any), (7, .any), (8, .any), (10, .any)], [(4, .any)])
  | 87, 3 => ([(0, .any), (4, .any), (5, .any)], [(0, .any), (2, .any), (3, .any), (4, .any)])
  | 87, 8 => ([(4, .any), (6, .any), (7, .any), (8, .any)], [(2, .any), (3, .any), (4, .any), (6, .any)])
  | _, _ => ([], [])
noncomputable def FT : FuncId → Option Func := fun f => Go.Proofs.Tryd.prog.funcs[f]?
end Go.Proofs.YtjhbfeeaehaniaaDoor.V
