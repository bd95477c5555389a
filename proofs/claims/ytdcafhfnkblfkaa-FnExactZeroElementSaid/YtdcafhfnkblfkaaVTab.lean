/- The tables of this translation for the plain evaluator: types, functions, the slots that live at a loop's head. No condition. -/
import Derived.Test.YtdcafhfnkblfkaaProg
import Derived.Test.YtdcafhfnkblfkaaV21
namespace Go.Proofs.Ytdcafhfnkblfkaa.V
open Go
def tabL : List TyR := [
  ⟨.other, [], 0, false⟩,
  ⟨.func, [.func], 8, false⟩,
  ⟨.int .i64, [.int .i64], 8, false⟩,
  ⟨.int .i64, [.int .i64], 8, false⟩,
  ⟨.bool, [.bool], 1, false⟩,
  ⟨.int .u8, [.int .u8], 1, false⟩,
  ⟨.int .u8, [.int .u8], 1, false⟩,
  ⟨.struct [(0, 2), (1, 3), (2, 4), (3, 6)], [.int .i64, .int .i64, .bool, .int .u8], 24, false⟩,
  ⟨.struct [(0, 2), (1, 3), (2, 4), (3, 6)], [.int .i64, .int .i64, .bool, .int .u8], 24, false⟩,
  ⟨.str, [.str], 16, false⟩,
  ⟨.str, [.str], 16, false⟩,
  ⟨.str, [.str], 16, false⟩,
  ⟨.int .u64, [.int .u64], 8, false⟩,
  ⟨.struct [(0, 9), (1, 12)], [.str, .int .u64], 24, false⟩,
  ⟨.struct [(0, 9), (1, 12)], [.str, .int .u64], 24, false⟩,
  ⟨.ptr 137, [.ptr 137], 8, false⟩,
  ⟨.ptr 140, [.ptr 140], 8, false⟩,
  ⟨.ptr 147, [.ptr 147], 8, false⟩,
  ⟨.struct [(0, 17)], [.ptr 147], 8, false⟩,
  ⟨.struct [(0, 17)], [.ptr 147], 8, false⟩,
  ⟨.other, [], 0, false⟩,
  ⟨.int .i32, [.int .i32], 4, false⟩,
  ⟨.slice 9, [.slice 9], 24, false⟩,
  ⟨.slice 2, [.slice 2], 24, false⟩,
  ⟨.slice 67, [.slice 67], 24, false⟩,
  ⟨.slice 27, [.slice 27], 24, false⟩,
  ⟨.struct [(0, 2), (1, 2), (2, 4), (3, 4), (4, 22), (5, 23), (6, 24), (7, 25), (8, 2)], [.int .i64, .int .i64, .bool, .bool, .slice 9, .slice 2, .slice 67, .slice 27, .int .i64], 128, false⟩,
  ⟨.struct [(0, 2), (1, 2), (2, 4), (3, 4), (4, 22), (5, 23), (6, 24), (7, 25), (8, 2)], [.int .i64, .int .i64, .bool, .bool, .slice 9, .slice 2, .slice 67, .slice 27, .int .i64], 128, false⟩,
  ⟨.func, [.func], 8, false⟩,
  ⟨.slice 71, [.slice 71], 24, false⟩,
  ⟨.slice 32, [.slice 32], 24, false⟩,
  ⟨.struct [(0, 2), (1, 2), (2, 4), (3, 4), (4, 22), (5, 23), (6, 29), (7, 30), (8, 2)], [.int .i64, .int .i64, .bool, .bool, .slice 9, .slice 2, .slice 71, .slice 32, .int .i64], 128, false⟩,
  ⟨.struct [(0, 2), (1, 2), (2, 4), (3, 4), (4, 22), (5, 23), (6, 29), (7, 30), (8, 2)], [.int .i64, .int .i64, .bool, .bool, .slice 9, .slice 2, .slice 71, .slice 32, .int .i64], 128, false⟩,
  ⟨.func, [.func], 8, false⟩,
  ⟨.func, [.func], 8, false⟩,
  ⟨.func, [.func], 8, false⟩,
  ⟨.func, [.func], 8, false⟩,
  ⟨.func, [.func], 8, false⟩,
  ⟨.func, [.func], 8, false⟩,
  ⟨.func, [.func], 8, false⟩,
  ⟨.other, [], 0, false⟩,
  ⟨.func, [.func], 8, false⟩,
  ⟨.func, [.func], 8, false⟩,
  ⟨.func, [.func], 8, false⟩,
  ⟨.func, [.func], 8, false⟩,
  ⟨.func, [.func], 8, false⟩,
  ⟨.func, [.func], 8, false⟩,
  ⟨.func, [.func], 8, false⟩,
  ⟨.func, [.func], 8, false⟩,
  ⟨.func, [.func], 8, false⟩,
  ⟨.func, [.func], 8, false⟩,
  ⟨.func, [.func], 8, false⟩,
  ⟨.func, [.func], 8, false⟩,
  ⟨.func, [.func], 8, false⟩,
  ⟨.func, [.func], 8, false⟩,
  ⟨.func, [.func], 8, false⟩,
  ⟨.func, [.func], 8, false⟩,
  ⟨.func, [.func], 8, false⟩,
  ⟨.func, [.func], 8, false⟩,
  ⟨.func, [.func], 8, false⟩,
  ⟨.other, [], 0, false⟩,
  ⟨.func, [.func], 8, false⟩,
  ⟨.func, [.func], 8, false⟩,
  ⟨.func, [.func], 8, false⟩,
  ⟨.func, [.func], 8, false⟩,
  ⟨.func, [.func], 8, false⟩,
  ⟨.struct [(0, 9), (1, 2), (2, 27)], [.str, .int .i64, .int .i64, .int .i64, .bool, .bool, .slice 9, .slice 2, .slice 67, .slice 27, .int .i64], 152, false⟩,
  ⟨.struct [(0, 9), (1, 2), (2, 27)], [.str, .int .i64, .int .i64, .int .i64, .bool, .bool, .slice 9, .slice 2, .slice 67, .slice 27, .int .i64], 152, false⟩,
  ⟨.func, [.func], 8, false⟩,
  ⟨.func, [.func], 8, false⟩,
  ⟨.struct [(0, 9), (1, 2), (2, 32)], [.str, .int .i64, .int .i64, .int .i64, .bool, .bool, .slice 9, .slice 2, .slice 71, .slice 32, .int .i64], 152, false⟩,
  ⟨.struct [(0, 9), (1, 2), (2, 32)], [.str, .int .i64, .int .i64, .int .i64, .bool, .bool, .slice 9, .slice 2, .slice 71, .slice 32, .int .i64], 152, false⟩,
  ⟨.func, [.func], 8, false⟩,
  ⟨.func, [.func], 8, false⟩,
  ⟨.func, [.func], 8, false⟩,
  ⟨.func, [.func], 8, false⟩,
  ⟨.func, [.func], 8, false⟩,
  ⟨.func, [.func], 8, false⟩,
  ⟨.func, [.func], 8, false⟩,
  ⟨.func, [.func], 8, false⟩,
  ⟨.func, [.func], 8, false⟩,
  ⟨.func, [.func], 8, false⟩,
  ⟨.func, [.func], 8, false⟩,
  ⟨.func, [.func], 8, false⟩,
  ⟨.func, [.func], 8, false⟩,
  ⟨.other, [], 0, false⟩,
  ⟨.func, [.func], 8, false⟩,
  ⟨.func, [.func], 8, false⟩,
  ⟨.int .u64, [.int .u64], 8, false⟩,
  ⟨.func, [.func], 8, false⟩,
  ⟨.other, [], 0, false⟩,
  ⟨.func, [.func], 8, false⟩,
  ⟨.func, [.func], 8, false⟩,
  ⟨.slice 5, [.slice 5], 24, false⟩,
  ⟨.func, [.func], 8, false⟩,
  ⟨.func, [.func], 8, false⟩,
  ⟨.func, [.func], 8, false⟩,
  ⟨.other, [], 0, false⟩,
  ⟨.func, [.func], 8, false⟩,
  ⟨.func, [.func], 8, false⟩,
  ⟨.int .u64, [.int .u64], 8, false⟩,
  ⟨.func, [.func], 8, false⟩,
  ⟨.func, [.func], 8, false⟩,
  ⟨.func, [.func], 8, false⟩,
  ⟨.func, [.func], 8, false⟩,
  ⟨.other, [], 0, false⟩,
  ⟨.func, [.func], 8, false⟩,
  ⟨.func, [.func], 8, false⟩,
  ⟨.ptr 110, [.ptr 110], 8, false⟩,
  ⟨.struct [(0, 108), (1, 93)], [.ptr 110, .slice 5], 32, false⟩,
  ⟨.bld 5, [], 0, false⟩,
  ⟨.func, [.func], 8, false⟩,
  ⟨.other, [], 0, false⟩,
  ⟨.other, [], 0, false⟩,
  ⟨.other, [], 0, false⟩,
  ⟨.func, [.func], 8, false⟩,
  ⟨.func, [.func], 8, false⟩,
  ⟨.func, [.func], 8, false⟩,
  ⟨.func, [.func], 8, false⟩,
  ⟨.func, [.func], 8, false⟩,
  ⟨.func, [.func], 8, false⟩,
  ⟨.func, [.func], 8, false⟩,
  ⟨.func, [.func], 8, false⟩,
  ⟨.func, [.func], 8, false⟩,
  ⟨.func, [.func], 8, false⟩,
  ⟨.func, [.func], 8, false⟩,
  ⟨.int .u32, [.int .u32], 4, false⟩,
  ⟨.other, [], 0, false⟩,
  ⟨.func, [.func], 8, false⟩,
  ⟨.other, [], 0, false⟩,
  ⟨.func, [.func], 8, false⟩,
  ⟨.ptr 5, [.ptr 5], 8, false⟩,
  ⟨.func, [.func], 8, false⟩,
  ⟨.other, [], 0, false⟩,
  ⟨.func, [.func], 8, false⟩,
  ⟨.func, [.func], 8, false⟩,
  ⟨.struct [(0, 17), (1, 17), (2, 17), (3, 9)], [.ptr 147, .ptr 147, .ptr 147, .str], 40, false⟩,
  ⟨.struct [(0, 17), (1, 17), (2, 17), (3, 9)], [.ptr 147, .ptr 147, .ptr 147, .str], 40, false⟩,
  ⟨.other, [], 0, false⟩,
  ⟨.other, [], 0, false⟩,
  ⟨.other, [], 0, false⟩,
  ⟨.int .u8, [.int .u8], 1, false⟩,
  ⟨.int .u8, [.int .u8], 1, false⟩,
  ⟨.func, [.func], 8, false⟩,
  ⟨.int .i32, [.int .i32], 4, false⟩,
  ⟨.int .i32, [.int .i32], 4, false⟩,
  ⟨.other, [], 0, false⟩,
  ⟨.other, [], 0, false⟩]
def methL : List (Nat × Nat) := [(14, 0), (42, 0), (43, 0), (44, 0), (45, 0), (127, 1), (128, 3), (129, 2), (144, 0), (500032, 0), (500071, 0)]
def tab : Tab := mkTab tabL methL
def live : FuncId → Nat → Live × Live
  | 26, 5 => ([(0, .any), (1, .any), (5, .any)], [(1, .any), (4, .any)])
  | 28, 5 => ([(0, .any), (1, .any), (5, .any)], [(1, .any), (4, .any)])
  | 29, 5 => ([(0, .any), (1, .any), (5, .any)], [(1, .any), (4, .any)])
  | 31, 3 => ([(1, .any), (2, .any), (3, .any), (4, .any)], [(1, .any), (2, .any), (3, .any)])
  | 31, 8 => ([(1, .any), (2, .any), (3, .any), (5, .any), (6, .any)], [(1, .any), (2, .any), (3, .any), (5, .any)])
  | 32, 3 => ([(0, .any), (3, .any), (4, .any)], [(2, .ownSlice 9), (3, .any)])
  | 33, 3 => ([(0, .any), (3, .any), (4, .any)], [(2, .ownSlice 2), (3, .any)])
  | 34, 3 => ([(0, .any), (3, .any), (4, .any)], [(2, .ownSlice 71), (3, .any)])
  | 35, 3 => ([(0, .any), (3, .any), (4, .any)], [(2, .ownSlice 32), (3, .any)])
  | 37, 5 => ([(2, .any), (3, .any), (13, .any), (14, .any), (15, .any)], [(2, .any), (3, .any)])
  | 38, 4 => ([(0, .any), (1, .any), (5, .any)], [(4, .any)])
  | 39, 4 => ([(0, .any), (1, .any), (5, .any)], [(4, .any)])
  | 40, 4 => ([(0, .any), (1, .any), (5, .any)], [(4, .any)])
  | 41, 4 => ([(0, .any), (1, .any), (5, .any)], [(4, .any)])
  | 42, 2 => ([(0, .any), (1, .any), (5, .any), (1000000, .any)], [(1, .any), (4, .any), (1000000, .any)])
  | 43, 2 => ([(0, .any), (1, .any), (5, .any), (1000000, .any)], [(1, .any), (4, .any), (1000000, .any)])
  | 44, 2 => ([(0, .any), (1, .any), (5, .any), (1000000, .any)], [(1, .any), (4, .any), (1000000, .any)])
  | 45, 2 => ([(0, .any), (1, .any), (5, .any), (1000000, .any)], [(1, .any), (4, .any), (1000000, .any)])
  | 46, 2 => ([(0, .any), (1, .any), (5, .any)], [(1, .any), (4, .any)])
  | 47, 2 => ([(0, .any), (1, .any), (5, .any)], [(1, .any), (4, .any)])
  | 48, 2 => ([(0, .any), (1, .any), (5, .any)], [(1, .any), (4, .any)])
  | 49, 2 => ([(0, .any), (1, .any), (5, .any)], [(1, .any), (4, .any)])
  | 50, 8 => ([(2, .any), (3, .any), (5, .any)], [(4, .any)])
  | 52, 15 => ([(1, .any), (3, .any), (5, .any)], [(2, .any), (3, .any)])
  | 52, 21 => ([(1, .any), (3, .any), (6, .any)], [(2, .any), (3, .any)])
  | 53, 10 => ([(1, .any), (3, .any), (52, .any), (53, .any), (54, .any)], [(2, .any), (3, .any)])
  | 53, 17 => ([(1, .any), (3, .any), (84, .any), (85, .any), (86, .any)], [(2, .any), (3, .any)])
  | 55, 7 => ([(1, .any), (2, .any), (7, .any), (8, .any)], [(2, .any), (4, .any), (7, .any)])
  | 58, 14 => ([(2, .any), (3, .any), (9, .any)], [(4, .any)])
  | 60, 7 => ([(1, .any), (3, .any), (4, .any)], [(1, .any), (2, .any), (3, .any)])
  | 60, 15 => ([(1, .any), (6, .any), (7, .any)], [(1, .any), (2, .any), (6, .any)])
  | 61, 9 => ([(1, .any), (3, .any), (33, .any), (34, .any), (35, .any)], [(1, .any), (2, .any), (3, .any)])
  | 65, 7 => ([(1, .any), (3, .any), (4, .any), (5, .any)], [(2, .any)])
  | 65, 12 => ([(1, .any), (3, .any), (4, .any), (5, .any), (6, .any)], [(1, .any), (2, .any), (3, .any), (4, .any), (5, .any)])
  | 66, 7 => ([(1, .any), (3, .any), (4, .any)], [(1, .any), (2, .any), (3, .any)])
  | 66, 13 => ([(1, .any), (3, .any), (4, .any), (5, .any), (6, .any)], [(1, .any), (2, .any), (3, .any), (4, .any), (5, .any)])
  | 70, 5 => ([(1, .any), (3, .any), (4, .any)], [(2, .any), (3, .any)])
  | 71, 6 => ([(1, .any), (2, .any), (3, .any), (4, .any)], [(1, .any), (2, .any), (3, .any)])
  | 71, 13 => ([(1, .any), (2, .any), (3, .any), (6, .any)], [(2, .any), (3, .any)])
  | 74, 5 => ([(1, .any), (2, .any), (4, .any), (5, .any), (22, .any), (23, .any), (24, .any)], [(1, .any), (2, .any), (4, .any), (5, .any)])
  | 74, 10 => ([(1, .any), (2, .any), (4, .any), (5, .any), (44, .any), (45, .any), (46, .any)], [(4, .any), (5, .any)])
  | 77, 4 => ([(0, .any), (3, .any)], [(2, .any), (3, .any)])
  | 79, 2 => ([(1, .any), (2, .any), (5, .any)], [(4, .any)])
  | 82, 3 => ([(0, .any), (1, .any), (2, .any), (7, .any), (8, .any)], [(6, .any), (7, .any)])
  | 83, 3 => ([(0, .any), (5, .any), (10, .any), (11, .any)], [(4, .any), (5, .any)])
  | 90, 3 => ([(0, .any), (1, .any), (6, .any), (7, .any), (8, .any)], [(0, .any), (1, .any), (4, .any), (5, .any), (6, .any), (7, .any)])
  | 91, 2 => ([(2, .any), (3, .any), (5, .any)], [(4, .any)])
  | 96, 38 => ([(7, .any), (8, .any), (9, .any)], [(4, .any), (9, .any)])
  | 98, 2 => ([(0, .any), (1, .any), (5, .any)], [(4, .any)])
  | 100, 4 => ([(0, .any), (3, .any)], [(2, .any)])
  | 106, 5 => ([(1, .any), (3, .any), (4, .any), (36, .any), (37, .any), (38, .any)], [(1, .any), (2, .any)])
  | 107, 6 => ([(1, .any), (2, .any), (5, .any), (6, .ownSlice 9), (21, .any), (22, .any), (23, .any)], [(2, .any), (4, .any), (5, .any), (6, .ownSlice 9)])
  | 116, 2 => ([(1, .any), (2, .any), (5, .any)], [(4, .any)])
  | 131, 4 => ([(0, .any), (1, .any), (12, .any), (13, .any)], [(4, .any)])
  | 132, 4 => ([(0, .any), (1, .any), (12, .any), (13, .any)], [(4, .any)])
  | 133, 4 => ([(1, .any), (2, .any), (15, .any), (16, .any), (17, .any)], [(6, .any)])
  | 135, 4 => ([(1, .any), (2, .any), (15, .any), (16, .any), (17, .any)], [(6, .any)])
  | 137, 2 => ([(0, .any), (5, .any), (6, .any), (7, .any)], [(2, .any)])
  | 138, 2 => ([(0, .any), (1, .any), (7, .any), (8, .any)], [(4, .any)])
  | 141, 2 => ([(0, .any), (1, .any), (7, .any), (8, .any)], [(4, .any)])
  | 142, 2 => ([(0, .any), (1, .any), (7, .any), (8, .any)], [(4, .any)])
  | 143, 2 => ([(0, .any), (1, .any), (7, .any), (8, .any)], [(4, .any)])
  | 144, 1 => ([(0, .any), (2, .any), (3, .any), (1000000, .any)], [(1000000, .any)])
  | 150, 2 => ([(0, .any), (1, .any), (7, .any), (8, .any)], [(4, .any)])
  | 151, 2 => ([(0, .any), (7, .any), (8, .any)], [(0, .any), (2, .any)])
  | _, _ => ([], [])
noncomputable def FT : FuncId → Option Func := fun f => Go.Proofs.Try.prog.funcs[f]?
end Go.Proofs.Ytdcafhfnkblfkaa.V
