/- The tables of this translation for the plain evaluator: types, functions, the slots that live at a loop's head. No condition. -/
import Derived.Test.YtabdjbkbfilhkaaProg
import Derived.Test.YtabdjbkbfilhkaaV21
namespace Go.Proofs.Ytabdjbkbfilhkaa.V
open Go
def tabL : List TyR := [
  ⟨.other, [], 0, false⟩,
  ⟨.func, [.func], 8, false⟩,
  ⟨.int .i64, [.int .i64], 8, false⟩,
  ⟨.int .i64, [.int .i64], 8, false⟩,
  ⟨.bool, [.bool], 1, false⟩,
  ⟨.int .u8, [.int .u8], 1, false⟩,
  ⟨.int .u8, [.int .u8], 1, false⟩,
  ⟨.struct [(0, 2), (1, 3), (2, 4), (3, 6)], [.int .i64, .int .i64, .bool, .int .u8], 24, false⟩,
  ⟨.struct [(0, 2), (1, 3), (2, 4), (3, 6)], [.int .i64, .int .i64, .bool, .int .u8], 24, false⟩,
  ⟨.str, [.str], 16, false⟩,
  ⟨.str, [.str], 16, false⟩,
  ⟨.str, [.str], 16, false⟩,
  ⟨.int .u64, [.int .u64], 8, false⟩,
  ⟨.struct [(0, 9), (1, 12)], [.str, .int .u64], 24, false⟩,
  ⟨.struct [(0, 9), (1, 12)], [.str, .int .u64], 24, false⟩,
  ⟨.ptr 105, [.ptr 105], 8, false⟩,
  ⟨.ptr 108, [.ptr 108], 8, false⟩,
  ⟨.ptr 117, [.ptr 117], 8, false⟩,
  ⟨.struct [(0, 17)], [.ptr 117], 8, false⟩,
  ⟨.struct [(0, 17)], [.ptr 117], 8, false⟩,
  ⟨.other, [], 0, false⟩,
  ⟨.int .i32, [.int .i32], 4, false⟩,
  ⟨.slice 25, [.slice 25], 24, false⟩,
  ⟨.slice 61, [.slice 61], 24, false⟩,
  ⟨.struct [(0, 2), (1, 2), (2, 9), (3, 22), (4, 23)], [.int .i64, .int .i64, .str, .slice 25, .slice 61], 80, false⟩,
  ⟨.struct [(0, 2), (1, 2), (2, 9), (3, 22), (4, 23)], [.int .i64, .int .i64, .str, .slice 25, .slice 61], 80, false⟩,
  ⟨.func, [.func], 8, false⟩,
  ⟨.func, [.func], 8, false⟩,
  ⟨.slice 31, [.slice 31], 24, false⟩,
  ⟨.slice 59, [.slice 59], 24, false⟩,
  ⟨.struct [(0, 2), (1, 2), (2, 9), (3, 28), (4, 29)], [.int .i64, .int .i64, .str, .slice 31, .slice 59], 80, false⟩,
  ⟨.struct [(0, 2), (1, 2), (2, 9), (3, 28), (4, 29)], [.int .i64, .int .i64, .str, .slice 31, .slice 59], 80, false⟩,
  ⟨.func, [.func], 8, false⟩,
  ⟨.func, [.func], 8, false⟩,
  ⟨.func, [.func], 8, false⟩,
  ⟨.slice 9, [.slice 9], 24, false⟩,
  ⟨.func, [.func], 8, false⟩,
  ⟨.func, [.func], 8, false⟩,
  ⟨.func, [.func], 8, false⟩,
  ⟨.func, [.func], 8, false⟩,
  ⟨.func, [.func], 8, false⟩,
  ⟨.func, [.func], 8, false⟩,
  ⟨.func, [.func], 8, false⟩,
  ⟨.ptr 31, [.ptr 31], 8, false⟩,
  ⟨.func, [.func], 8, false⟩,
  ⟨.func, [.func], 8, false⟩,
  ⟨.other, [], 0, false⟩,
  ⟨.func, [.func], 8, false⟩,
  ⟨.func, [.func], 8, false⟩,
  ⟨.func, [.func], 8, false⟩,
  ⟨.func, [.func], 8, false⟩,
  ⟨.func, [.func], 8, false⟩,
  ⟨.func, [.func], 8, false⟩,
  ⟨.func, [.func], 8, false⟩,
  ⟨.func, [.func], 8, false⟩,
  ⟨.func, [.func], 8, false⟩,
  ⟨.func, [.func], 8, false⟩,
  ⟨.func, [.func], 8, false⟩,
  ⟨.struct [(0, 2), (1, 2), (2, 4)], [.int .i64, .int .i64, .bool], 24, false⟩,
  ⟨.struct [(0, 2), (1, 2), (2, 4)], [.int .i64, .int .i64, .bool], 24, false⟩,
  ⟨.func, [.func], 8, false⟩,
  ⟨.struct [(0, 2), (1, 2), (2, 4)], [.int .i64, .int .i64, .bool], 24, false⟩,
  ⟨.func, [.func], 8, false⟩,
  ⟨.func, [.func], 8, false⟩,
  ⟨.func, [.func], 8, false⟩,
  ⟨.func, [.func], 8, false⟩,
  ⟨.func, [.func], 8, false⟩,
  ⟨.int .u64, [.int .u64], 8, false⟩,
  ⟨.slice 5, [.slice 5], 24, false⟩,
  ⟨.func, [.func], 8, false⟩,
  ⟨.func, [.func], 8, false⟩,
  ⟨.other, [], 0, false⟩,
  ⟨.func, [.func], 8, false⟩,
  ⟨.func, [.func], 8, false⟩,
  ⟨.func, [.func], 8, false⟩,
  ⟨.func, [.func], 8, false⟩,
  ⟨.func, [.func], 8, false⟩,
  ⟨.func, [.func], 8, false⟩,
  ⟨.func, [.func], 8, false⟩,
  ⟨.int .i64, [.int .i64], 8, false⟩,
  ⟨.other, [], 0, false⟩,
  ⟨.func, [.func], 8, false⟩,
  ⟨.func, [.func], 8, false⟩,
  ⟨.func, [.func], 8, false⟩,
  ⟨.func, [.func], 8, false⟩,
  ⟨.func, [.func], 8, false⟩,
  ⟨.func, [.func], 8, false⟩,
  ⟨.int .u32, [.int .u32], 4, false⟩,
  ⟨.func, [.func], 8, false⟩,
  ⟨.int .u64, [.int .u64], 8, false⟩,
  ⟨.func, [.func], 8, false⟩,
  ⟨.other, [], 0, false⟩,
  ⟨.func, [.func], 8, false⟩,
  ⟨.int .u64, [.int .u64], 8, false⟩,
  ⟨.func, [.func], 8, false⟩,
  ⟨.func, [.func], 8, false⟩,
  ⟨.func, [.func], 8, false⟩,
  ⟨.ptr 3, [.ptr 3], 8, false⟩,
  ⟨.func, [.func], 8, false⟩,
  ⟨.func, [.func], 8, false⟩,
  ⟨.ptr 93, [.ptr 93], 8, false⟩,
  ⟨.func, [.func], 8, false⟩,
  ⟨.func, [.func], 8, false⟩,
  ⟨.func, [.func], 8, false⟩,
  ⟨.struct [(0, 17), (1, 17), (2, 17), (3, 9)], [.ptr 117, .ptr 117, .ptr 117, .str], 40, false⟩,
  ⟨.struct [(0, 17), (1, 17), (2, 17), (3, 9)], [.ptr 117, .ptr 117, .ptr 117, .str], 40, false⟩,
  ⟨.other, [], 0, false⟩,
  ⟨.other, [], 0, false⟩,
  ⟨.other, [], 0, false⟩,
  ⟨.func, [.func], 8, false⟩,
  ⟨.int .u8, [.int .u8], 1, false⟩,
  ⟨.int .u8, [.int .u8], 1, false⟩,
  ⟨.func, [.func], 8, false⟩,
  ⟨.ptr 5, [.ptr 5], 8, false⟩,
  ⟨.int .i32, [.int .i32], 4, false⟩,
  ⟨.int .i32, [.int .i32], 4, false⟩,
  ⟨.other, [], 0, false⟩,
  ⟨.other, [], 0, false⟩,
  ⟨.other, [], 0, false⟩]
def methL : List (Nat × Nat) := [(13, 0), (14, 0), (24, 0), (26, 0), (27, 0), (28, 0), (29, 0)]
def tab : Tab := mkTab tabL methL
def live : FuncId → Nat → Live × Live
  | 12, 4 => ([(0, .any), (1, .any), (5, .any)], [(4, .any)])
  | 14, 2 => ([(0, .any), (1, .any), (5, .any), (1000000, .any)], [(1, .any), (4, .any), (1000000, .any)])
  | 15, 2 => ([(0, .any), (1, .any), (5, .any)], [(1, .any), (4, .any)])
  | 16, 5 => ([(0, .any), (1, .any), (5, .any)], [(1, .any), (4, .any)])
  | 18, 5 => ([(0, .any), (3, .any), (4, .any)], [(2, .any), (3, .any)])
  | 19, 3 => ([(0, .any), (3, .any), (4, .any)], [(2, .ownSlice 31), (3, .any)])
  | 20, 3 => ([(0, .any), (3, .any), (4, .any)], [(2, .ownSlice 59), (3, .any)])
  | 21, 6 => ([(1, .any), (2, .any), (19, .any), (20, .any), (21, .any)], [(1, .any), (4, .any), (5, .any)])
  | 22, 4 => ([(0, .any), (1, .any), (5, .any)], [(4, .any)])
  | 23, 4 => ([(0, .any), (1, .any), (5, .any)], [(4, .any)])
  | 24, 4 => ([(0, .any), (1, .any), (5, .any), (1000000, .any)], [(0, .any), (4, .ownSlice 9), (1000000, .any)])
  | 25, 5 => ([(1, .any), (3, .ownSlice 9), (13, .any), (14, .any), (15, .any)], [(2, .ownSlice 9), (3, .ownSlice 9)])
  | 27, 4 => ([(0, .any), (3, .any), (1000000, .any)], [(0, .any), (2, .ownSlice 9), (1000000, .any)])
  | 27, 9 => ([(0, .any), (3, .any), (4, .any), (5, .any), (1000000, .any)], [(0, .any), (2, .ownSlice 9), (3, .any), (1000000, .any)])
  | 28, 2 => ([(0, .any), (1, .any), (5, .any), (1000000, .any)], [(1, .any), (4, .any), (1000000, .any)])
  | 29, 2 => ([(0, .any), (1, .any), (5, .any), (1000000, .any)], [(1, .any), (4, .any), (1000000, .any)])
  | 30, 4 => ([(0, .any), (3, .any)], [(2, .any), (3, .any)])
  | 31, 15 => ([(0, .any), (5, .any)], [(0, .any), (2, .any)])
  | 35, 4 => ([(0, .any), (1, .any), (5, .any), (6, .any), (7, .any)], [(1, .any), (4, .ownSlice 9), (5, .any), (6, .any)])
  | 36, 2 => ([(0, .any), (1, .any), (2, .any), (3, .any), (8, .any), (9, .any)], [])
  | 39, 4 => ([(0, .any), (3, .any)], [(2, .any)])
  | 45, 2 => ([(0, .any), (7, .any), (8, .any)], [(0, .any), (2, .any)])
  | 50, 1 => ([(0, .any), (1, .any), (2, .any), (6, .any)], [])
  | 50, 4 => ([(0, .any), (1, .any), (2, .any), (6, .any), (7, .any)], [(0, .any), (1, .any), (2, .any), (6, .any)])
  | 51, 4 => ([(0, .any), (6, .any), (7, .any), (8, .any), (9, .any)], [(0, .any), (6, .any), (7, .any), (8, .any)])
  | 51, 8 => ([(0, .any), (6, .any), (7, .any), (10, .any)], [])
  | 52, 5 => ([(0, .any), (1, .any), (6, .any), (7, .any), (8, .any), (9, .any)], [])
  | 54, 2 => ([(0, .any), (6, .any), (7, .any)], [])
  | 55, 3 => ([(0, .any), (1, .any), (2, .any), (7, .any), (8, .any)], [(6, .any)])
  | 55, 5 => ([(0, .any), (1, .any), (2, .any), (7, .any), (8, .any)], [(0, .any), (1, .any), (2, .any), (6, .any), (7, .any), (8, .any)])
  | 55, 14 => ([(0, .any), (1, .any), (2, .any), (7, .any), (8, .any), (9, .any)], [(0, .any), (1, .any), (2, .any), (6, .any), (7, .any), (8, .any)])
  | 55, 20 => ([(0, .any), (1, .any), (2, .any), (7, .any), (8, .any), (10, .any)], [(0, .any), (1, .any), (2, .any), (6, .any), (7, .any), (8, .any)])
  | 57, 3 => ([(0, .any), (1, .any), (9, .any), (10, .any)], [(8, .any), (9, .any)])
  | 57, 5 => ([(0, .any), (1, .any), (9, .any), (10, .any)], [(0, .any), (1, .any), (8, .any), (9, .any), (10, .any)])
  | 58, 3 => ([(0, .any), (1, .any), (10, .any), (11, .any)], [(0, .any), (1, .any), (8, .any), (9, .any), (10, .any), (11, .any)])
  | 58, 5 => ([(0, .any), (1, .any), (10, .any), (11, .any)], [(0, .any), (1, .any), (8, .any), (9, .any), (10, .any), (11, .any)])
  | 58, 13 => ([(0, .any), (1, .any), (10, .any), (11, .any)], [(0, .any), (1, .any), (8, .any), (9, .any), (11, .any)])
  | 58, 15 => ([(0, .any), (1, .any), (10, .any), (11, .any)], [(0, .any), (1, .any), (8, .any), (9, .any), (10, .any), (11, .any)])
  | 63, 2 => ([(0, .any), (1, .any), (7, .any), (8, .any)], [(4, .any)])
  | 64, 1 => ([(0, .any), (2, .any), (3, .any), (8, .any)], [])
  | 72, 2 => ([(0, .any), (1, .any), (7, .any), (8, .any)], [(4, .any)])
  | _, _ => ([], [])
noncomputable def FT : FuncId → Option Func := fun f => Go.Proofs.Try.prog.funcs[f]?
end Go.Proofs.Ytabdjbkbfilhkaa.V
