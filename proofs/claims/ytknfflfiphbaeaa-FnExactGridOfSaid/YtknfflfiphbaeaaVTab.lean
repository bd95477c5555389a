/- The tables of this translation for the plain evaluator: types, functions, the slots that live at a loop's head. No condition. -/
import Derived.Test.YtknfflfiphbaeaaProg
import Derived.Test.YtknfflfiphbaeaaV21
namespace Go.Proofs.Ytknfflfiphbaeaa.V
open Go
def tabL : List TyR := [
  ⟨.other, [], 0, false⟩,
  ⟨.func, [.func], 8, false⟩,
  ⟨.int .i64, [.int .i64], 8, false⟩,
  ⟨.int .i64, [.int .i64], 8, false⟩,
  ⟨.bool, [.bool], 1, false⟩,
  ⟨.int .u8, [.int .u8], 1, false⟩,
  ⟨.int .u8, [.int .u8], 1, false⟩,
  ⟨.struct [(0, 2), (1, 3), (2, 4), (3, 6)], [.int .i64, .int .i64, .bool, .int .u8], 24, false⟩,
  ⟨.struct [(0, 2), (1, 3), (2, 4), (3, 6)], [.int .i64, .int .i64, .bool, .int .u8], 24, false⟩,
  ⟨.str, [.str], 16, false⟩,
  ⟨.str, [.str], 16, false⟩,
  ⟨.str, [.str], 16, false⟩,
  ⟨.int .u64, [.int .u64], 8, false⟩,
  ⟨.struct [(0, 9), (1, 12)], [.str, .int .u64], 24, false⟩,
  ⟨.struct [(0, 9), (1, 12)], [.str, .int .u64], 24, false⟩,
  ⟨.ptr 164, [.ptr 164], 8, false⟩,
  ⟨.ptr 167, [.ptr 167], 8, false⟩,
  ⟨.ptr 176, [.ptr 176], 8, false⟩,
  ⟨.struct [(0, 17)], [.ptr 176], 8, false⟩,
  ⟨.struct [(0, 17)], [.ptr 176], 8, false⟩,
  ⟨.other, [], 0, false⟩,
  ⟨.int .i32, [.int .i32], 4, false⟩,
  ⟨.slice 2, [.slice 2], 24, false⟩,
  ⟨.func, [.func], 8, false⟩,
  ⟨.func, [.func], 8, false⟩,
  ⟨.func, [.func], 8, false⟩,
  ⟨.slice 95, [.slice 95], 24, false⟩,
  ⟨.struct [(0, 2), (1, 22), (2, 22), (3, 22), (4, 22), (5, 26)], [.int .i64, .slice 2, .slice 2, .slice 2, .slice 2, .slice 95], 128, false⟩,
  ⟨.struct [(0, 2), (1, 22), (2, 22), (3, 22), (4, 22), (5, 26)], [.int .i64, .slice 2, .slice 2, .slice 2, .slice 2, .slice 95], 128, false⟩,
  ⟨.func, [.func], 8, false⟩,
  ⟨.slice 71, [.slice 71], 24, false⟩,
  ⟨.other, [], 0, false⟩,
  ⟨.func, [.func], 8, false⟩,
  ⟨.slice 98, [.slice 98], 24, false⟩,
  ⟨.struct [(0, 2), (1, 22), (2, 22), (3, 22), (4, 22), (5, 33)], [.int .i64, .slice 2, .slice 2, .slice 2, .slice 2, .slice 98], 128, false⟩,
  ⟨.struct [(0, 2), (1, 22), (2, 22), (3, 22), (4, 22), (5, 33)], [.int .i64, .slice 2, .slice 2, .slice 2, .slice 2, .slice 98], 128, false⟩,
  ⟨.func, [.func], 8, false⟩,
  ⟨.func, [.func], 8, false⟩,
  ⟨.func, [.func], 8, false⟩,
  ⟨.func, [.func], 8, false⟩,
  ⟨.func, [.func], 8, false⟩,
  ⟨.func, [.func], 8, false⟩,
  ⟨.func, [.func], 8, false⟩,
  ⟨.func, [.func], 8, false⟩,
  ⟨.other, [], 0, false⟩,
  ⟨.func, [.func], 8, false⟩,
  ⟨.func, [.func], 8, false⟩,
  ⟨.func, [.func], 8, false⟩,
  ⟨.struct [(0, 22), (1, 22)], [.slice 2, .slice 2], 48, false⟩,
  ⟨.struct [(0, 22), (1, 22)], [.slice 2, .slice 2], 48, false⟩,
  ⟨.other, [], 0, false⟩,
  ⟨.func, [.func], 8, false⟩,
  ⟨.func, [.func], 8, false⟩,
  ⟨.func, [.func], 8, false⟩,
  ⟨.func, [.func], 8, false⟩,
  ⟨.slice 5, [.slice 5], 24, false⟩,
  ⟨.other, [], 0, false⟩,
  ⟨.func, [.func], 8, false⟩,
  ⟨.func, [.func], 8, false⟩,
  ⟨.func, [.func], 8, false⟩,
  ⟨.func, [.func], 8, false⟩,
  ⟨.func, [.func], 8, false⟩,
  ⟨.func, [.func], 8, false⟩,
  ⟨.slice 49, [.slice 49], 24, false⟩,
  ⟨.func, [.func], 8, false⟩,
  ⟨.func, [.func], 8, false⟩,
  ⟨.func, [.func], 8, false⟩,
  ⟨.func, [.func], 8, false⟩,
  ⟨.func, [.func], 8, false⟩,
  ⟨.slice 4, [.slice 4], 24, false⟩,
  ⟨.struct [(0, 2), (1, 22), (2, 22)], [.int .i64, .slice 2, .slice 2], 56, false⟩,
  ⟨.struct [(0, 2), (1, 22), (2, 22)], [.int .i64, .slice 2, .slice 2], 56, false⟩,
  ⟨.other, [], 0, false⟩,
  ⟨.func, [.func], 8, false⟩,
  ⟨.func, [.func], 8, false⟩,
  ⟨.func, [.func], 8, false⟩,
  ⟨.func, [.func], 8, false⟩,
  ⟨.func, [.func], 8, false⟩,
  ⟨.func, [.func], 8, false⟩,
  ⟨.func, [.func], 8, false⟩,
  ⟨.func, [.func], 8, false⟩,
  ⟨.func, [.func], 8, false⟩,
  ⟨.func, [.func], 8, false⟩,
  ⟨.func, [.func], 8, false⟩,
  ⟨.ptr 112, [.ptr 112], 8, false⟩,
  ⟨.func, [.func], 8, false⟩,
  ⟨.other, [], 0, false⟩,
  ⟨.func, [.func], 8, false⟩,
  ⟨.func, [.func], 8, false⟩,
  ⟨.func, [.func], 8, false⟩,
  ⟨.func, [.func], 8, false⟩,
  ⟨.func, [.func], 8, false⟩,
  ⟨.func, [.func], 8, false⟩,
  ⟨.func, [.func], 8, false⟩,
  ⟨.struct [(0, 22)], [.slice 2], 24, false⟩,
  ⟨.struct [(0, 22)], [.slice 2], 24, false⟩,
  ⟨.func, [.func], 8, false⟩,
  ⟨.func, [.func], 8, false⟩,
  ⟨.struct [(0, 22)], [.slice 2], 24, false⟩,
  ⟨.func, [.func], 8, false⟩,
  ⟨.other, [], 0, false⟩,
  ⟨.func, [.func], 8, false⟩,
  ⟨.func, [.func], 8, false⟩,
  ⟨.func, [.func], 8, false⟩,
  ⟨.func, [.func], 8, false⟩,
  ⟨.func, [.func], 8, false⟩,
  ⟨.func, [.func], 8, false⟩,
  ⟨.func, [.func], 8, false⟩,
  ⟨.func, [.func], 8, false⟩,
  ⟨.func, [.func], 8, false⟩,
  ⟨.int .u64, [.int .u64], 8, false⟩,
  ⟨.struct [(0, 55), (1, 3), (2, 110)], [.slice 5, .int .i64, .int .u64], 40, false⟩,
  ⟨.struct [(0, 55), (1, 3), (2, 110)], [.slice 5, .int .i64, .int .u64], 40, false⟩,
  ⟨.func, [.func], 8, false⟩,
  ⟨.func, [.func], 8, false⟩,
  ⟨.func, [.func], 8, false⟩,
  ⟨.func, [.func], 8, false⟩,
  ⟨.func, [.func], 8, false⟩,
  ⟨.func, [.func], 8, false⟩,
  ⟨.func, [.func], 8, false⟩,
  ⟨.func, [.func], 8, false⟩,
  ⟨.func, [.func], 8, false⟩,
  ⟨.func, [.func], 8, false⟩,
  ⟨.func, [.func], 8, false⟩,
  ⟨.func, [.func], 8, false⟩,
  ⟨.func, [.func], 8, false⟩,
  ⟨.func, [.func], 8, false⟩,
  ⟨.int .u64, [.int .u64], 8, false⟩,
  ⟨.func, [.func], 8, false⟩,
  ⟨.func, [.func], 8, false⟩,
  ⟨.func, [.func], 8, false⟩,
  ⟨.func, [.func], 8, false⟩,
  ⟨.func, [.func], 8, false⟩,
  ⟨.func, [.func], 8, false⟩,
  ⟨.func, [.func], 8, false⟩,
  ⟨.slice 22, [.slice 22], 24, false⟩,
  ⟨.func, [.func], 8, false⟩,
  ⟨.func, [.func], 8, false⟩,
  ⟨.func, [.func], 8, false⟩,
  ⟨.func, [.func], 8, false⟩,
  ⟨.func, [.func], 8, false⟩,
  ⟨.func, [.func], 8, false⟩,
  ⟨.int .i64, [.int .i64], 8, false⟩,
  ⟨.other, [], 0, false⟩,
  ⟨.func, [.func], 8, false⟩,
  ⟨.func, [.func], 8, false⟩,
  ⟨.func, [.func], 8, false⟩,
  ⟨.func, [.func], 8, false⟩,
  ⟨.func, [.func], 8, false⟩,
  ⟨.func, [.func], 8, false⟩,
  ⟨.int .u32, [.int .u32], 4, false⟩,
  ⟨.func, [.func], 8, false⟩,
  ⟨.func, [.func], 8, false⟩,
  ⟨.int .u64, [.int .u64], 8, false⟩,
  ⟨.func, [.func], 8, false⟩,
  ⟨.func, [.func], 8, false⟩,
  ⟨.func, [.func], 8, false⟩,
  ⟨.ptr 3, [.ptr 3], 8, false⟩,
  ⟨.func, [.func], 8, false⟩,
  ⟨.ptr 153, [.ptr 153], 8, false⟩,
  ⟨.other, [], 0, false⟩,
  ⟨.func, [.func], 8, false⟩,
  ⟨.func, [.func], 8, false⟩,
  ⟨.struct [(0, 17), (1, 17), (2, 17), (3, 9)], [.ptr 176, .ptr 176, .ptr 176, .str], 40, false⟩,
  ⟨.struct [(0, 17), (1, 17), (2, 17), (3, 9)], [.ptr 176, .ptr 176, .ptr 176, .str], 40, false⟩,
  ⟨.other, [], 0, false⟩,
  ⟨.other, [], 0, false⟩,
  ⟨.other, [], 0, false⟩,
  ⟨.func, [.func], 8, false⟩,
  ⟨.int .u8, [.int .u8], 1, false⟩,
  ⟨.int .u8, [.int .u8], 1, false⟩,
  ⟨.func, [.func], 8, false⟩,
  ⟨.ptr 5, [.ptr 5], 8, false⟩,
  ⟨.int .i32, [.int .i32], 4, false⟩,
  ⟨.int .i32, [.int .i32], 4, false⟩,
  ⟨.other, [], 0, false⟩,
  ⟨.other, [], 0, false⟩,
  ⟨.other, [], 0, false⟩]
def methL : List (Nat × Nat) := [(25, 0), (26, 0), (27, 0), (41, 0), (72, 0)]
def tab : Tab := mkTab tabL methL
def live : FuncId → Nat → Live × Live
  | 10, 11 => ([(3, .any), (4, .any), (7, .any), (8, .any), (9, .any)], [(2, .any), (3, .any), (4, .any), (8, .any)])
  | 10, 18 => ([(3, .any), (4, .any), (8, .any), (12, .any)], [(2, .any), (3, .any), (8, .any)])
  | 12, 8 => ([(3, .any), (4, .any), (6, .any), (7, .any), (8, .any)], [(2, .any)])
  | 13, 11 => ([(3, .any), (4, .any), (7, .any), (11, .any), (12, .any), (13, .any)], [(2, .any), (12, .any)])
  | 13, 17 => ([(3, .any), (4, .any), (7, .any), (11, .any), (12, .any), (13, .any), (14, .any), (15, .any)], [(2, .any), (3, .any), (4, .any), (7, .any), (11, .any), (12, .any), (13, .any)])
  | 13, 27 => ([(12, .any), (19, .any)], [(2, .any)])
  | 16, 3 => ([(0, .any), (3, .any), (4, .any)], [(2, .ownSlice 2), (3, .any)])
  | 18, 4 => ([(0, .any), (1, .any), (5, .any)], [(4, .any)])
  | 23, 4 => ([(0, .any), (1, .any), (5, .any)], [(4, .any)])
  | 25, 2 => ([(0, .any), (1, .any), (5, .any), (1000000, .any)], [(1, .any), (4, .any), (1000000, .any)])
  | 27, 2 => ([(0, .any), (1, .any), (5, .any), (1000000, .any)], [(1, .any), (4, .any), (1000000, .any)])
  | 28, 2 => ([(0, .any), (1, .any), (5, .any)], [(1, .any), (4, .any)])
  | 31, 2 => ([(0, .any), (1, .any), (5, .any)], [(1, .any), (4, .any)])
  | 36, 7 => ([(7, .any), (8, .any), (9, .any), (10, .any)], [(6, .ownSlice 2), (7, .any)])
  | 39, 8 => ([(0, .any), (1, .any), (6, .any), (10, .any), (28, .any), (29, .any), (30, .any)], [(6, .any), (7, .any), (10, .any)])
  | 43, 6 => ([(4, .any), (6, .any), (7, .any), (8, .any), (9, .any), (10, .any), (11, .any)], [(2, .ownSlice 2), (3, .ownSlice 2), (4, .any), (5, .ownSlice 2), (7, .any), (8, .any), (9, .any), (10, .any)])
  | 50, 2 => ([(0, .any), (1, .any), (5, .any)], [(4, .any)])
  | 50, 6 => ([(0, .any), (1, .any), (5, .any), (6, .any), (7, .any)], [(0, .any), (1, .any), (4, .any), (5, .any), (6, .any)])
  | 51, 6 => ([(0, .any), (1, .any), (2, .any), (9, .any), (10, .any), (11, .any)], [(8, .ownSlice 2), (9, .any)])
  | 51, 10 => ([(0, .any), (1, .any), (2, .any), (9, .any), (10, .any), (11, .any), (12, .any), (13, .any)], [(0, .any), (1, .any), (2, .any), (8, .ownSlice 2), (9, .any), (10, .any), (11, .any), (12, .any)])
  | 54, 2 => ([(0, .any), (1, .any), (5, .any)], [(4, .any)])
  | 58, 5 => ([(0, .any), (1, .any), (5, .any), (6, .any)], [(0, .any), (1, .any), (4, .any), (5, .any)])
  | 58, 12 => ([(5, .any), (7, .any), (8, .any)], [(4, .any), (5, .any), (7, .any)])
  | 59, 3 => ([(0, .any), (3, .any), (4, .any)], [(2, .any), (3, .any)])
  | 60, 3 => ([(0, .any), (1, .any), (5, .any), (6, .any)], [(4, .ownSlice 2), (5, .any)])
  | 61, 3 => ([(3, .any), (6, .any), (7, .any), (8, .any)], [(2, .any), (3, .any)])
  | 62, 3 => ([(1, .any), (5, .ownSlice 2), (8, .any), (9, .any), (10, .any)], [(4, .ownSlice 2), (5, .ownSlice 2)])
  | 64, 5 => ([(0, .any), (1, .any), (5, .any)], [(1, .any), (4, .any)])
  | 65, 8 => ([(0, .any), (3, .any), (5, .any)], [(4, .any)])
  | 65, 14 => ([(0, .any), (3, .any), (6, .any)], [(4, .any)])
  | 66, 6 => ([(0, .any), (1, .any), (7, .any), (8, .any), (9, .any), (10, .any), (11, .any)], [(6, .ownSlice 71), (8, .any), (9, .any), (10, .any)])
  | 66, 14 => ([(8, .any), (9, .any), (10, .any), (14, .any), (15, .any)], [(6, .ownSlice 71), (14, .any)])
  | 66, 18 => ([(8, .any), (9, .any), (10, .any), (14, .any), (15, .any), (16, .any), (17, .any)], [(6, .ownSlice 71), (8, .any), (9, .any), (10, .any), (14, .any), (15, .any), (16, .any)])
  | 67, 3 => ([(0, .any), (3, .any), (4, .any)], [(2, .ownSlice 98), (3, .any)])
  | 69, 3 => ([(0, .any), (1, .any), (7, .ownSlice 71), (16, .any), (17, .any), (18, .any)], [(6, .ownSlice 71), (7, .ownSlice 71)])
  | 71, 4 => ([(0, .any), (1, .any), (5, .any)], [(4, .any)])
  | 72, 2 => ([(0, .any), (1, .any), (5, .any), (1000000, .any)], [(1, .any), (4, .any), (1000000, .any)])
  | 73, 4 => ([(0, .any), (1, .any), (5, .any)], [(4, .any)])
  | 74, 4 => ([(0, .any), (1, .any), (6, .any), (7, .any), (8, .any)], [(0, .any), (4, .any), (5, .any), (6, .any), (7, .any)])
  | 75, 4 => ([(0, .any), (12, .any), (13, .any), (14, .any)], [(4, .any)])
  | 76, 3 => ([(0, .any), (6, .ownSlice 2), (7, .ownSlice 2), (10, .any), (11, .any), (12, .any)], [(0, .any), (4, .any), (5, .any), (6, .ownSlice 2), (7, .ownSlice 2)])
  | 77, 4 => ([(5, .any), (6, .any), (7, .any)], [(4, .ownSlice 2), (6, .any)])
  | 78, 4 => ([(5, .any), (6, .ownSlice 2), (12, .any), (13, .any)], [(4, .ownSlice 2), (6, .ownSlice 2)])
  | 80, 2 => ([(0, .any), (1, .any), (5, .any)], [(4, .any)])
  | 83, 4 => ([(0, .any), (1, .any), (6, .any), (7, .any), (8, .any), (9, .any)], [(6, .any), (8, .any)])
  | 84, 3 => ([(2, .any), (8, .any), (15, .any), (16, .any)], [(6, .ownSlice 2), (7, .any)])
  | 86, 5 => ([(0, .any), (4, .any), (5, .any), (6, .any), (7, .any)], [(2, .ownSlice 2), (3, .ownSlice 2), (4, .any), (5, .any)])
  | 87, 12 => ([(0, .any), (1, .any), (4, .any), (5, .any), (6, .any)], [(0, .any), (1, .any), (4, .any), (5, .any)])
  | 87, 16 => ([(0, .any), (1, .any), (4, .any), (5, .any), (6, .any), (7, .any), (8, .any)], [(0, .any), (1, .any), (4, .any), (5, .any), (6, .any), (7, .any)])
  | 92, 4 => ([(1, .any), (3, .any)], [(2, .any)])
  | 93, 3 => ([(1, .any), (3, .any), (4, .any)], [(2, .any), (3, .any)])
  | 94, 5 => ([(0, .any), (3, .any), (4, .any)], [(2, .any), (3, .any)])
  | 96, 3 => ([(0, .any), (1, .any), (5, .any), (6, .any)], [(4, .ownSlice 2), (5, .any)])
  | 97, 3 => ([(0, .any), (1, .any), (2, .any), (3, .any), (9, .ownSlice 2), (15, .any), (16, .any)], [(8, .ownSlice 2), (9, .ownSlice 2)])
  | 98, 3 => ([(0, .any), (1, .any), (5, .any), (6, .any)], [(4, .any), (5, .any)])
  | 99, 5 => ([(0, .any), (5, .any), (6, .any)], [(4, .ownSlice 2), (5, .any)])
  | 99, 10 => ([(0, .any), (3, .any), (5, .any), (7, .any)], [(4, .ownSlice 2), (5, .any)])
  | 99, 16 => ([(0, .any), (3, .any), (5, .any), (8, .any)], [(4, .ownSlice 2), (5, .any)])
  | 99, 21 => ([(0, .any), (3, .any), (5, .any), (8, .any), (9, .any), (10, .any), (11, .any)], [(0, .any), (3, .any), (4, .ownSlice 2), (5, .any), (8, .any), (10, .any)])
  | 99, 24 => ([(0, .any), (3, .any), (5, .any), (8, .any), (9, .any), (10, .any), (11, .any), (12, .any)], [(0, .any), (3, .any), (4, .ownSlice 2), (5, .any), (8, .any), (9, .any), (10, .any), (11, .any)])
  | 100, 6 => ([(0, .any), (1, .any), (6, .any), (7, .any), (8, .any)], [(4, .ownSlice 2), (5, .any), (7, .any)])
  | 101, 6 => ([(6, .any), (7, .any), (24, .any), (25, .any), (26, .any)], [(4, .ownSlice 2), (5, .any), (6, .any)])
  | 105, 4 => ([(0, .any), (1, .any), (5, .any), (6, .any), (7, .any)], [(1, .any), (4, .ownSlice 2), (5, .any), (6, .any)])
  | 108, 6 => ([(2, .any), (3, .any), (17, .any), (18, .any), (19, .any)], [(4, .any)])
  | 109, 5 => ([(5, .ownSlice 2), (14, .any), (15, .any)], [(4, .ownSlice 2), (5, .ownSlice 2)])
  | 109, 13 => ([(1, .any), (2, .any), (5, .ownSlice 2), (31, .any), (32, .any), (33, .any)], [(4, .ownSlice 2), (5, .ownSlice 2)])
  | 111, 3 => ([(0, .any), (1, .any), (2, .any), (8, .any), (9, .any), (10, .any)], [(0, .any), (1, .any), (2, .any), (6, .any), (7, .any), (8, .any), (9, .any)])
  | 116, 3 => ([(0, .any), (3, .any), (4, .any)], [(2, .any), (3, .any)])
  | 118, 3 => ([(3, .any), (6, .any), (7, .any), (8, .any)], [(2, .any), (3, .any)])
  | 119, 3 => ([(0, .any), (5, .any), (8, .any), (9, .any), (10, .any)], [(4, .any), (5, .any)])
  | 120, 5 => ([(0, .any), (1, .any), (5, .any), (6, .any)], [(0, .any), (4, .ownSlice 2), (5, .any)])
  | 123, 3 => ([(1, .any), (5, .any), (6, .any)], [(4, .ownSlice 2), (5, .any)])
  | 127, 3 => ([(0, .any), (1, .any), (4, .any), (5, .any), (6, .any)], [(4, .any), (5, .any)])
  | 132, 3 => ([(1, .any), (2, .any), (5, .any), (6, .any)], [(4, .ownSlice 2), (5, .any)])
  | 132, 6 => ([(1, .any), (2, .any), (5, .any), (6, .any), (7, .any)], [(1, .any), (2, .any), (4, .ownSlice 2), (5, .any), (6, .any)])
  | 136, 5 => ([(1, .any), (3, .any), (4, .any)], [(2, .any)])
  | 137, 4 => ([(0, .any), (3, .any)], [(2, .any)])
  | 137, 9 => ([(0, .any), (3, .any), (4, .any)], [(0, .any), (2, .any), (3, .any)])
  | 139, 5 => ([(1, .any), (31, .any), (32, .any)], [(2, .any)])
  | 144, 3 => ([(2, .any), (5, .any), (14, .any), (15, .any), (16, .any)], [(4, .ownSlice 2), (5, .any)])
  | 144, 7 => ([(2, .any), (6, .any), (7, .any), (8, .ownSlice 2), (14, .any), (15, .any), (16, .any), (21, .any), (22, .any), (23, .any)], [(2, .any), (4, .ownSlice 2), (5, .any), (8, .ownSlice 2), (14, .any), (15, .any), (16, .any)])
  | 144, 10 => ([(2, .any), (6, .any), (7, .any), (8, .ownSlice 2), (10, .any), (14, .any), (15, .any), (16, .any), (21, .any), (22, .any), (23, .any), (29, .any), (30, .any), (31, .any)], [(2, .any), (4, .ownSlice 2), (5, .any), (6, .any), (7, .any), (8, .ownSlice 2), (14, .any), (15, .any), (16, .any), (21, .any), (22, .any), (23, .any)])
  | 149, 2 => ([(0, .any), (1, .any), (7, .any), (8, .any)], [(4, .any)])
  | 150, 2 => ([(0, .any), (1, .any), (7, .any), (8, .any)], [(4, .any)])
  | 152, 2 => ([(0, .any), (1, .any), (5, .any)], [(0, .any), (4, .ownSlice 2), (5, .any)])
  | 153, 2 => ([(0, .any), (1, .any), (2, .any), (3, .any), (8, .any), (9, .any)], [])
  | 155, 4 => ([(1, .any), (2, .any), (15, .any), (16, .any), (17, .any)], [(6, .any)])
  | 157, 4 => ([(0, .any), (1, .any), (12, .any), (13, .any)], [(4, .any)])
  | 158, 4 => ([(1, .any), (2, .any), (15, .any), (16, .any), (17, .any)], [(6, .any)])
  | 161, 2 => ([(0, .any), (1, .any), (7, .any), (8, .any)], [(4, .any)])
  | 162, 3 => ([(1, .any), (2, .any), (5, .ownSlice 2), (12, .any), (13, .any)], [(4, .ownSlice 2), (5, .ownSlice 2)])
  | 162, 6 => ([(1, .any), (2, .any), (5, .ownSlice 2), (6, .any), (12, .any), (13, .any), (20, .any), (21, .any)], [(1, .any), (2, .any), (4, .ownSlice 2), (5, .ownSlice 2), (12, .any), (13, .any)])
  | 163, 1 => ([(0, .any), (1, .any), (3, .any)], [])
  | 166, 1 => ([(0, .any), (1, .any), (2, .any), (6, .any)], [])
  | 166, 4 => ([(0, .any), (1, .any), (2, .any), (6, .any), (7, .any)], [(0, .any), (1, .any), (2, .any), (6, .any)])
  | 167, 4 => ([(0, .any), (6, .any), (7, .any), (8, .any), (9, .any)], [(0, .any), (6, .any), (7, .any), (8, .any)])
  | 167, 8 => ([(0, .any), (6, .any), (7, .any), (10, .any)], [])
  | 168, 5 => ([(0, .any), (1, .any), (6, .any), (7, .any), (8, .any), (9, .any)], [])
  | 170, 2 => ([(0, .any), (6, .any), (7, .any)], [])
  | 171, 3 => ([(0, .any), (1, .any), (2, .any), (7, .any), (8, .any)], [(6, .any)])
  | 171, 5 => ([(0, .any), (1, .any), (2, .any), (7, .any), (8, .any)], [(0, .any), (1, .any), (2, .any), (6, .any), (7, .any), (8, .any)])
  | 171, 14 => ([(0, .any), (1, .any), (2, .any), (7, .any), (8, .any), (9, .any)], [(0, .any), (1, .any), (2, .any), (6, .any), (7, .any), (8, .any)])
  | 171, 20 => ([(0, .any), (1, .any), (2, .any), (7, .any), (8, .any), (10, .any)], [(0, .any), (1, .any), (2, .any), (6, .any), (7, .any), (8, .any)])
  | 173, 3 => ([(0, .any), (1, .any), (9, .any), (10, .any)], [(8, .any), (9, .any)])
  | 173, 5 => ([(0, .any), (1, .any), (9, .any), (10, .any)], [(0, .any), (1, .any), (8, .any), (9, .any), (10, .any)])
  | 174, 3 => ([(0, .any), (1, .any), (10, .any), (11, .any)], [(0, .any), (1, .any), (8, .any), (9, .any), (10, .any), (11, .any)])
  | 174, 5 => ([(0, .any), (1, .any), (10, .any), (11, .any)], [(0, .any), (1, .any), (8, .any), (9, .any), (10, .any), (11, .any)])
  | 174, 13 => ([(0, .any), (1, .any), (10, .any), (11, .any)], [(0, .any), (1, .any), (8, .any), (9, .any), (11, .any)])
  | 174, 15 => ([(0, .any), (1, .any), (10, .any), (11, .any)], [(0, .any), (1, .any), (8, .any), (9, .any), (10, .any), (11, .any)])
  | 177, 1 => ([(0, .any), (2, .any), (3, .any)], [])
  | 178, 1 => ([(0, .any), (2, .any), (3, .any), (8, .any)], [])
  | _, _ => ([], [])
noncomputable def FT : FuncId → Option Func := fun f => Go.Proofs.Try.prog.funcs[f]?
end Go.Proofs.Ytknfflfiphbaeaa.V
