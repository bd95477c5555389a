/- The tables of this translation for the plain evaluator: types, functions, the slots that live at a loop's head. No condition. -/
import Derived.Test.YtplgngimjncpnaaProg
import Derived.Test.YtplgngimjncpnaaV21
namespace Go.Proofs.Ytplgngimjncpnaa.V
open Go
def tabL : List TyR := [
  ⟨.other, [], 0, false⟩,
  ⟨.func, [.func], 8, false⟩,
  ⟨.int .i64, [.int .i64], 8, false⟩,
  ⟨.int .i64, [.int .i64], 8, false⟩,
  ⟨.bool, [.bool], 1, false⟩,
  ⟨.int .u8, [.int .u8], 1, false⟩,
  ⟨.int .u8, [.int .u8], 1, false⟩,
  ⟨.struct [(0, 2), (1, 3), (2, 4), (3, 6)], [.int .i64, .int .i64, .bool, .int .u8], 24, false⟩,
  ⟨.struct [(0, 2), (1, 3), (2, 4), (3, 6)], [.int .i64, .int .i64, .bool, .int .u8], 24, false⟩,
  ⟨.str, [.str], 16, false⟩,
  ⟨.str, [.str], 16, false⟩,
  ⟨.str, [.str], 16, false⟩,
  ⟨.int .u64, [.int .u64], 8, false⟩,
  ⟨.struct [(0, 9), (1, 12)], [.str, .int .u64], 24, false⟩,
  ⟨.struct [(0, 9), (1, 12)], [.str, .int .u64], 24, false⟩,
  ⟨.ptr 164, [.ptr 164], 8, false⟩,
  ⟨.ptr 167, [.ptr 167], 8, false⟩,
  ⟨.ptr 176, [.ptr 176], 8, false⟩,
  ⟨.struct [(0, 17)], [.ptr 176], 8, false⟩,
  ⟨.struct [(0, 17)], [.ptr 176], 8, false⟩,
  ⟨.other, [], 0, false⟩,
  ⟨.int .i32, [.int .i32], 4, false⟩,
  ⟨.slice 2, [.slice 2], 24, false⟩,
  ⟨.slice 95, [.slice 95], 24, false⟩,
  ⟨.struct [(0, 2), (1, 22), (2, 22), (3, 22), (4, 22), (5, 23)], [.int .i64, .slice 2, .slice 2, .slice 2, .slice 2, .slice 95], 128, false⟩,
  ⟨.struct [(0, 2), (1, 22), (2, 22), (3, 22), (4, 22), (5, 23)], [.int .i64, .slice 2, .slice 2, .slice 2, .slice 2, .slice 95], 128, false⟩,
  ⟨.func, [.func], 8, false⟩,
  ⟨.slice 71, [.slice 71], 24, false⟩,
  ⟨.other, [], 0, false⟩,
  ⟨.func, [.func], 8, false⟩,
  ⟨.func, [.func], 8, false⟩,
  ⟨.slice 98, [.slice 98], 24, false⟩,
  ⟨.struct [(0, 2), (1, 22), (2, 22), (3, 22), (4, 22), (5, 31)], [.int .i64, .slice 2, .slice 2, .slice 2, .slice 2, .slice 98], 128, false⟩,
  ⟨.struct [(0, 2), (1, 22), (2, 22), (3, 22), (4, 22), (5, 31)], [.int .i64, .slice 2, .slice 2, .slice 2, .slice 2, .slice 98], 128, false⟩,
  ⟨.func, [.func], 8, false⟩,
  ⟨.func, [.func], 8, false⟩,
  ⟨.func, [.func], 8, false⟩,
  ⟨.func, [.func], 8, false⟩,
  ⟨.func, [.func], 8, false⟩,
  ⟨.func, [.func], 8, false⟩,
  ⟨.func, [.func], 8, false⟩,
  ⟨.func, [.func], 8, false⟩,
  ⟨.other, [], 0, false⟩,
  ⟨.func, [.func], 8, false⟩,
  ⟨.func, [.func], 8, false⟩,
  ⟨.func, [.func], 8, false⟩,
  ⟨.func, [.func], 8, false⟩,
  ⟨.struct [(0, 22), (1, 22)], [.slice 2, .slice 2], 48, false⟩,
  ⟨.struct [(0, 22), (1, 22)], [.slice 2, .slice 2], 48, false⟩,
  ⟨.other, [], 0, false⟩,
  ⟨.func, [.func], 8, false⟩,
  ⟨.func, [.func], 8, false⟩,
  ⟨.func, [.func], 8, false⟩,
  ⟨.func, [.func], 8, false⟩,
  ⟨.slice 5, [.slice 5], 24, false⟩,
  ⟨.other, [], 0, false⟩,
  ⟨.func, [.func], 8, false⟩,
  ⟨.func, [.func], 8, false⟩,
  ⟨.func, [.func], 8, false⟩,
  ⟨.func, [.func], 8, false⟩,
  ⟨.func, [.func], 8, false⟩,
  ⟨.func, [.func], 8, false⟩,
  ⟨.func, [.func], 8, false⟩,
  ⟨.slice 48, [.slice 48], 24, false⟩,
  ⟨.func, [.func], 8, false⟩,
  ⟨.func, [.func], 8, false⟩,
  ⟨.func, [.func], 8, false⟩,
  ⟨.func, [.func], 8, false⟩,
  ⟨.func, [.func], 8, false⟩,
  ⟨.slice 4, [.slice 4], 24, false⟩,
  ⟨.struct [(0, 2), (1, 22), (2, 22)], [.int .i64, .slice 2, .slice 2], 56, false⟩,
  ⟨.struct [(0, 2), (1, 22), (2, 22)], [.int .i64, .slice 2, .slice 2], 56, false⟩,
  ⟨.other, [], 0, false⟩,
  ⟨.func, [.func], 8, false⟩,
  ⟨.func, [.func], 8, false⟩,
  ⟨.func, [.func], 8, false⟩,
  ⟨.func, [.func], 8, false⟩,
  ⟨.func, [.func], 8, false⟩,
  ⟨.func, [.func], 8, false⟩,
  ⟨.func, [.func], 8, false⟩,
  ⟨.func, [.func], 8, false⟩,
  ⟨.func, [.func], 8, false⟩,
  ⟨.func, [.func], 8, false⟩,
  ⟨.func, [.func], 8, false⟩,
  ⟨.ptr 112, [.ptr 112], 8, false⟩,
  ⟨.func, [.func], 8, false⟩,
  ⟨.other, [], 0, false⟩,
  ⟨.func, [.func], 8, false⟩,
  ⟨.func, [.func], 8, false⟩,
  ⟨.func, [.func], 8, false⟩,
  ⟨.func, [.func], 8, false⟩,
  ⟨.func, [.func], 8, false⟩,
  ⟨.func, [.func], 8, false⟩,
  ⟨.func, [.func], 8, false⟩,
  ⟨.struct [(0, 22)], [.slice 2], 24, false⟩,
  ⟨.struct [(0, 22)], [.slice 2], 24, false⟩,
  ⟨.func, [.func], 8, false⟩,
  ⟨.func, [.func], 8, false⟩,
  ⟨.struct [(0, 22)], [.slice 2], 24, false⟩,
  ⟨.func, [.func], 8, false⟩,
  ⟨.other, [], 0, false⟩,
  ⟨.func, [.func], 8, false⟩,
  ⟨.func, [.func], 8, false⟩,
  ⟨.func, [.func], 8, false⟩,
  ⟨.func, [.func], 8, false⟩,
  ⟨.func, [.func], 8, false⟩,
  ⟨.func, [.func], 8, false⟩,
  ⟨.func, [.func], 8, false⟩,
  ⟨.func, [.func], 8, false⟩,
  ⟨.func, [.func], 8, false⟩,
  ⟨.int .u64, [.int .u64], 8, false⟩,
  ⟨.struct [(0, 54), (1, 3), (2, 110)], [.slice 5, .int .i64, .int .u64], 40, false⟩,
  ⟨.struct [(0, 54), (1, 3), (2, 110)], [.slice 5, .int .i64, .int .u64], 40, false⟩,
  ⟨.func, [.func], 8, false⟩,
  ⟨.func, [.func], 8, false⟩,
  ⟨.func, [.func], 8, false⟩,
  ⟨.func, [.func], 8, false⟩,
  ⟨.func, [.func], 8, false⟩,
  ⟨.func, [.func], 8, false⟩,
  ⟨.func, [.func], 8, false⟩,
  ⟨.func, [.func], 8, false⟩,
  ⟨.func, [.func], 8, false⟩,
  ⟨.func, [.func], 8, false⟩,
  ⟨.func, [.func], 8, false⟩,
  ⟨.func, [.func], 8, false⟩,
  ⟨.func, [.func], 8, false⟩,
  ⟨.func, [.func], 8, false⟩,
  ⟨.int .u64, [.int .u64], 8, false⟩,
  ⟨.func, [.func], 8, false⟩,
  ⟨.func, [.func], 8, false⟩,
  ⟨.func, [.func], 8, false⟩,
  ⟨.func, [.func], 8, false⟩,
  ⟨.func, [.func], 8, false⟩,
  ⟨.func, [.func], 8, false⟩,
  ⟨.func, [.func], 8, false⟩,
  ⟨.slice 22, [.slice 22], 24, false⟩,
  ⟨.func, [.func], 8, false⟩,
  ⟨.func, [.func], 8, false⟩,
  ⟨.func, [.func], 8, false⟩,
  ⟨.func, [.func], 8, false⟩,
  ⟨.func, [.func], 8, false⟩,
  ⟨.func, [.func], 8, false⟩,
  ⟨.int .i64, [.int .i64], 8, false⟩,
  ⟨.other, [], 0, false⟩,
  ⟨.func, [.func], 8, false⟩,
  ⟨.func, [.func], 8, false⟩,
  ⟨.func, [.func], 8, false⟩,
  ⟨.func, [.func], 8, false⟩,
  ⟨.func, [.func], 8, false⟩,
  ⟨.func, [.func], 8, false⟩,
  ⟨.int .u32, [.int .u32], 4, false⟩,
  ⟨.func, [.func], 8, false⟩,
  ⟨.func, [.func], 8, false⟩,
  ⟨.int .u64, [.int .u64], 8, false⟩,
  ⟨.func, [.func], 8, false⟩,
  ⟨.func, [.func], 8, false⟩,
  ⟨.func, [.func], 8, false⟩,
  ⟨.ptr 3, [.ptr 3], 8, false⟩,
  ⟨.func, [.func], 8, false⟩,
  ⟨.ptr 153, [.ptr 153], 8, false⟩,
  ⟨.other, [], 0, false⟩,
  ⟨.func, [.func], 8, false⟩,
  ⟨.func, [.func], 8, false⟩,
  ⟨.struct [(0, 17), (1, 17), (2, 17), (3, 9)], [.ptr 176, .ptr 176, .ptr 176, .str], 40, false⟩,
  ⟨.struct [(0, 17), (1, 17), (2, 17), (3, 9)], [.ptr 176, .ptr 176, .ptr 176, .str], 40, false⟩,
  ⟨.other, [], 0, false⟩,
  ⟨.other, [], 0, false⟩,
  ⟨.other, [], 0, false⟩,
  ⟨.func, [.func], 8, false⟩,
  ⟨.int .u8, [.int .u8], 1, false⟩,
  ⟨.int .u8, [.int .u8], 1, false⟩,
  ⟨.func, [.func], 8, false⟩,
  ⟨.ptr 5, [.ptr 5], 8, false⟩,
  ⟨.int .i32, [.int .i32], 4, false⟩,
  ⟨.int .i32, [.int .i32], 4, false⟩,
  ⟨.other, [], 0, false⟩,
  ⟨.other, [], 0, false⟩,
  ⟨.other, [], 0, false⟩]
def methL : List (Nat × Nat) := [(21, 0), (22, 0), (23, 0), (35, 0), (63, 0)]
def tab : Tab := mkTab tabL methL
def live : FuncId → Nat → Live × Live
  | 8, 11 => ([(3, .any), (4, .any), (7, .any), (8, .any), (9, .any)], [(2, .any), (3, .any), (4, .any), (8, .any)])
  | 8, 18 => ([(3, .any), (4, .any), (8, .any), (12, .any)], [(2, .any), (3, .any), (8, .any)])
  | 10, 8 => ([(3, .any), (4, .any), (6, .any), (7, .any), (8, .any)], [(2, .any)])
  | 11, 11 => ([(3, .any), (4, .any), (7, .any), (11, .any), (12, .any), (13, .any)], [(2, .any), (12, .any)])
  | 11, 17 => ([(3, .any), (4, .any), (7, .any), (11, .any), (12, .any), (13, .any), (14, .any), (15, .any)], [(2, .any), (3, .any), (4, .any), (7, .any), (11, .any), (12, .any), (13, .any)])
  | 11, 27 => ([(12, .any), (19, .any)], [(2, .any)])
  | 15, 3 => ([(0, .any), (3, .any), (4, .any)], [(2, .ownSlice 2), (3, .any)])
  | 18, 4 => ([(0, .any), (1, .any), (5, .any)], [(4, .any)])
  | 19, 4 => ([(0, .any), (1, .any), (5, .any)], [(4, .any)])
  | 21, 2 => ([(0, .any), (1, .any), (5, .any), (1000000, .any)], [(1, .any), (4, .any), (1000000, .any)])
  | 23, 2 => ([(0, .any), (1, .any), (5, .any), (1000000, .any)], [(1, .any), (4, .any), (1000000, .any)])
  | 24, 2 => ([(0, .any), (1, .any), (5, .any)], [(1, .any), (4, .any)])
  | 29, 2 => ([(0, .any), (1, .any), (5, .any)], [(1, .any), (4, .any)])
  | 30, 7 => ([(7, .any), (8, .any), (9, .any), (10, .any)], [(6, .ownSlice 2), (7, .any)])
  | 33, 8 => ([(0, .any), (1, .any), (6, .any), (10, .any), (28, .any), (29, .any), (30, .any)], [(6, .any), (7, .any), (10, .any)])
  | 37, 6 => ([(4, .any), (6, .any), (7, .any), (8, .any), (9, .any), (10, .any), (11, .any)], [(2, .ownSlice 2), (3, .ownSlice 2), (4, .any), (5, .ownSlice 2), (7, .any), (8, .any), (9, .any), (10, .any)])
  | 45, 2 => ([(0, .any), (1, .any), (5, .any)], [(4, .any)])
  | 45, 6 => ([(0, .any), (1, .any), (5, .any), (6, .any), (7, .any)], [(0, .any), (1, .any), (4, .any), (5, .any), (6, .any)])
  | 46, 6 => ([(0, .any), (1, .any), (2, .any), (9, .any), (10, .any), (11, .any)], [(8, .ownSlice 2), (9, .any)])
  | 46, 10 => ([(0, .any), (1, .any), (2, .any), (9, .any), (10, .any), (11, .any), (12, .any), (13, .any)], [(0, .any), (1, .any), (2, .any), (8, .ownSlice 2), (9, .any), (10, .any), (11, .any), (12, .any)])
  | 49, 2 => ([(0, .any), (1, .any), (5, .any)], [(4, .any)])
  | 54, 5 => ([(0, .any), (1, .any), (5, .any)], [(1, .any), (4, .any)])
  | 55, 5 => ([(0, .any), (1, .any), (5, .any), (6, .any)], [(0, .any), (1, .any), (4, .any), (5, .any)])
  | 55, 12 => ([(5, .any), (7, .any), (8, .any)], [(4, .any), (5, .any), (7, .any)])
  | 56, 8 => ([(0, .any), (3, .any), (5, .any)], [(4, .any)])
  | 56, 14 => ([(0, .any), (3, .any), (6, .any)], [(4, .any)])
  | 57, 6 => ([(0, .any), (1, .any), (7, .any), (8, .any), (9, .any), (10, .any), (11, .any)], [(6, .ownSlice 71), (8, .any), (9, .any), (10, .any)])
  | 57, 14 => ([(8, .any), (9, .any), (10, .any), (14, .any), (15, .any)], [(6, .ownSlice 71), (14, .any)])
  | 57, 18 => ([(8, .any), (9, .any), (10, .any), (14, .any), (15, .any), (16, .any), (17, .any)], [(6, .ownSlice 71), (8, .any), (9, .any), (10, .any), (14, .any), (15, .any), (16, .any)])
  | 58, 3 => ([(0, .any), (3, .any), (4, .any)], [(2, .ownSlice 98), (3, .any)])
  | 60, 3 => ([(0, .any), (1, .any), (7, .ownSlice 71), (16, .any), (17, .any), (18, .any)], [(6, .ownSlice 71), (7, .ownSlice 71)])
  | 62, 4 => ([(0, .any), (1, .any), (5, .any)], [(4, .any)])
  | 63, 2 => ([(0, .any), (1, .any), (5, .any), (1000000, .any)], [(1, .any), (4, .any), (1000000, .any)])
  | 64, 4 => ([(0, .any), (1, .any), (5, .any)], [(4, .any)])
  | 65, 4 => ([(0, .any), (1, .any), (6, .any), (7, .any), (8, .any)], [(0, .any), (4, .any), (5, .any), (6, .any), (7, .any)])
  | 66, 4 => ([(0, .any), (12, .any), (13, .any), (14, .any)], [(4, .any)])
  | 67, 3 => ([(0, .any), (6, .ownSlice 2), (7, .ownSlice 2), (10, .any), (11, .any), (12, .any)], [(0, .any), (4, .any), (5, .any), (6, .ownSlice 2), (7, .ownSlice 2)])
  | 68, 4 => ([(5, .any), (6, .any), (7, .any)], [(4, .ownSlice 2), (6, .any)])
  | 69, 4 => ([(5, .any), (6, .ownSlice 2), (12, .any), (13, .any)], [(4, .ownSlice 2), (6, .ownSlice 2)])
  | 71, 2 => ([(0, .any), (1, .any), (5, .any)], [(4, .any)])
  | 74, 4 => ([(0, .any), (1, .any), (6, .any), (7, .any), (8, .any), (9, .any)], [(6, .any), (8, .any)])
  | 75, 3 => ([(2, .any), (8, .any), (15, .any), (16, .any)], [(6, .ownSlice 2), (7, .any)])
  | 77, 5 => ([(0, .any), (4, .any), (5, .any), (6, .any), (7, .any)], [(2, .ownSlice 2), (3, .ownSlice 2), (4, .any), (5, .any)])
  | 78, 12 => ([(0, .any), (1, .any), (4, .any), (5, .any), (6, .any)], [(0, .any), (1, .any), (4, .any), (5, .any)])
  | 78, 16 => ([(0, .any), (1, .any), (4, .any), (5, .any), (6, .any), (7, .any), (8, .any)], [(0, .any), (1, .any), (4, .any), (5, .any), (6, .any), (7, .any)])
  | 83, 3 => ([(3, .any), (6, .any), (7, .any), (8, .any)], [(2, .any), (3, .any)])
  | 84, 3 => ([(1, .any), (5, .ownSlice 2), (8, .any), (9, .any), (10, .any)], [(4, .ownSlice 2), (5, .ownSlice 2)])
  | 85, 4 => ([(1, .any), (3, .any)], [(2, .any)])
  | 86, 3 => ([(1, .any), (3, .any), (4, .any)], [(2, .any), (3, .any)])
  | 87, 5 => ([(0, .any), (3, .any), (4, .any)], [(2, .any), (3, .any)])
  | 88, 3 => ([(0, .any), (3, .any), (4, .any)], [(2, .any), (3, .any)])
  | 90, 3 => ([(0, .any), (1, .any), (5, .any), (6, .any)], [(4, .ownSlice 2), (5, .any)])
  | 91, 3 => ([(0, .any), (1, .any), (2, .any), (3, .any), (9, .ownSlice 2), (15, .any), (16, .any)], [(8, .ownSlice 2), (9, .ownSlice 2)])
  | 92, 3 => ([(0, .any), (1, .any), (5, .any), (6, .any)], [(4, .any), (5, .any)])
  | 93, 5 => ([(0, .any), (5, .any), (6, .any)], [(4, .ownSlice 2), (5, .any)])
  | 93, 10 => ([(0, .any), (3, .any), (5, .any), (7, .any)], [(4, .ownSlice 2), (5, .any)])
  | 93, 16 => ([(0, .any), (3, .any), (5, .any), (8, .any)], [(4, .ownSlice 2), (5, .any)])
  | 93, 21 => ([(0, .any), (3, .any), (5, .any), (8, .any), (9, .any), (10, .any), (11, .any)], [(0, .any), (3, .any), (4, .ownSlice 2), (5, .any), (8, .any), (10, .any)])
  | 93, 24 => ([(0, .any), (3, .any), (5, .any), (8, .any), (9, .any), (10, .any), (11, .any), (12, .any)], [(0, .any), (3, .any), (4, .ownSlice 2), (5, .any), (8, .any), (9, .any), (10, .any), (11, .any)])
  | 94, 6 => ([(0, .any), (1, .any), (6, .any), (7, .any), (8, .any)], [(4, .ownSlice 2), (5, .any), (7, .any)])
  | 95, 6 => ([(6, .any), (7, .any), (24, .any), (25, .any), (26, .any)], [(4, .ownSlice 2), (5, .any), (6, .any)])
  | 97, 3 => ([(0, .any), (1, .any), (5, .any), (6, .any)], [(4, .ownSlice 2), (5, .any)])
  | 100, 4 => ([(0, .any), (1, .any), (5, .any), (6, .any), (7, .any)], [(1, .any), (4, .ownSlice 2), (5, .any), (6, .any)])
  | 103, 6 => ([(2, .any), (3, .any), (17, .any), (18, .any), (19, .any)], [(4, .any)])
  | 104, 5 => ([(5, .ownSlice 2), (14, .any), (15, .any)], [(4, .ownSlice 2), (5, .ownSlice 2)])
  | 104, 13 => ([(1, .any), (2, .any), (5, .ownSlice 2), (31, .any), (32, .any), (33, .any)], [(4, .ownSlice 2), (5, .ownSlice 2)])
  | 106, 3 => ([(0, .any), (1, .any), (2, .any), (8, .any), (9, .any), (10, .any)], [(0, .any), (1, .any), (2, .any), (6, .any), (7, .any), (8, .any), (9, .any)])
  | 111, 3 => ([(0, .any), (3, .any), (4, .any)], [(2, .any), (3, .any)])
  | 113, 3 => ([(3, .any), (6, .any), (7, .any), (8, .any)], [(2, .any), (3, .any)])
  | 114, 3 => ([(0, .any), (5, .any), (8, .any), (9, .any), (10, .any)], [(4, .any), (5, .any)])
  | 115, 5 => ([(0, .any), (1, .any), (5, .any), (6, .any)], [(0, .any), (4, .ownSlice 2), (5, .any)])
  | 118, 3 => ([(1, .any), (5, .any), (6, .any)], [(4, .ownSlice 2), (5, .any)])
  | 122, 3 => ([(0, .any), (1, .any), (4, .any), (5, .any), (6, .any)], [(4, .any), (5, .any)])
  | 127, 3 => ([(1, .any), (2, .any), (5, .any), (6, .any)], [(4, .ownSlice 2), (5, .any)])
  | 127, 6 => ([(1, .any), (2, .any), (5, .any), (6, .any), (7, .any)], [(1, .any), (2, .any), (4, .ownSlice 2), (5, .any), (6, .any)])
  | 131, 5 => ([(1, .any), (3, .any), (4, .any)], [(2, .any)])
  | 132, 4 => ([(0, .any), (3, .any)], [(2, .any)])
  | 132, 9 => ([(0, .any), (3, .any), (4, .any)], [(0, .any), (2, .any), (3, .any)])
  | 134, 5 => ([(1, .any), (31, .any), (32, .any)], [(2, .any)])
  | 139, 3 => ([(2, .any), (5, .any), (14, .any), (15, .any), (16, .any)], [(4, .ownSlice 2), (5, .any)])
  | 139, 7 => ([(2, .any), (6, .any), (7, .any), (8, .ownSlice 2), (14, .any), (15, .any), (16, .any), (21, .any), (22, .any), (23, .any)], [(2, .any), (4, .ownSlice 2), (5, .any), (8, .ownSlice 2), (14, .any), (15, .any), (16, .any)])
  | 139, 10 => ([(2, .any), (6, .any), (7, .any), (8, .ownSlice 2), (10, .any), (14, .any), (15, .any), (16, .any), (21, .any), (22, .any), (23, .any), (29, .any), (30, .any), (31, .any)], [(2, .any), (4, .ownSlice 2), (5, .any), (6, .any), (7, .any), (8, .ownSlice 2), (14, .any), (15, .any), (16, .any), (21, .any), (22, .any), (23, .any)])
  | 144, 2 => ([(0, .any), (1, .any), (7, .any), (8, .any)], [(4, .any)])
  | 145, 2 => ([(0, .any), (1, .any), (7, .any), (8, .any)], [(4, .any)])
  | 147, 2 => ([(0, .any), (1, .any), (5, .any)], [(0, .any), (4, .ownSlice 2), (5, .any)])
  | 148, 2 => ([(0, .any), (1, .any), (2, .any), (3, .any), (8, .any), (9, .any)], [])
  | 150, 4 => ([(1, .any), (2, .any), (15, .any), (16, .any), (17, .any)], [(6, .any)])
  | 152, 4 => ([(0, .any), (1, .any), (12, .any), (13, .any)], [(4, .any)])
  | 153, 4 => ([(1, .any), (2, .any), (15, .any), (16, .any), (17, .any)], [(6, .any)])
  | 156, 2 => ([(0, .any), (1, .any), (7, .any), (8, .any)], [(4, .any)])
  | 157, 3 => ([(1, .any), (2, .any), (5, .ownSlice 2), (12, .any), (13, .any)], [(4, .ownSlice 2), (5, .ownSlice 2)])
  | 157, 6 => ([(1, .any), (2, .any), (5, .ownSlice 2), (6, .any), (12, .any), (13, .any), (20, .any), (21, .any)], [(1, .any), (2, .any), (4, .ownSlice 2), (5, .ownSlice 2), (12, .any), (13, .any)])
  | 158, 1 => ([(0, .any), (1, .any), (3, .any)], [])
  | 161, 1 => ([(0, .any), (1, .any), (2, .any), (6, .any)], [])
  | 161, 4 => ([(0, .any), (1, .any), (2, .any), (6, .any), (7, .any)], [(0, .any), (1, .any), (2, .any), (6, .any)])
  | 162, 4 => ([(0, .any), (6, .any), (7, .any), (8, .any), (9, .any)], [(0, .any), (6, .any), (7, .any), (8, .any)])
  | 162, 8 => ([(0, .any), (6, .any), (7, .any), (10, .any)], [])
  | 163, 5 => ([(0, .any), (1, .any), (6, .any), (7, .any), (8, .any), (9, .any)], [])
  | 165, 2 => ([(0, .any), (6, .any), (7, .any)], [])
  | 166, 3 => ([(0, .any), (1, .any), (2, .any), (7, .any), (8, .any)], [(6, .any)])
  | 166, 5 => ([(0, .any), (1, .any), (2, .any), (7, .any), (8, .any)], [(0, .any), (1, .any), (2, .any), (6, .any), (7, .any), (8, .any)])
  | 166, 14 => ([(0, .any), (1, .any), (2, .any), (7, .any), (8, .any), (9, .any)], [(0, .any), (1, .any), (2, .any), (6, .any), (7, .any), (8, .any)])
  | 166, 20 => ([(0, .any), (1, .any), (2, .any), (7, .any), (8, .any), (10, .any)], [(0, .any), (1, .any), (2, .any), (6, .any), (7, .any), (8, .any)])
  | 168, 3 => ([(0, .any), (1, .any), (9, .any), (10, .any)], [(8, .any), (9, .any)])
  | 168, 5 => ([(0, .any), (1, .any), (9, .any), (10, .any)], [(0, .any), (1, .any), (8, .any), (9, .any), (10, .any)])
  | 169, 3 => ([(0, .any), (1, .any), (10, .any), (11, .any)], [(0, .any), (1, .any), (8, .any), (9, .any), (10, .any), (11, .any)])
  | 169, 5 => ([(0, .any), (1, .any), (10, .any), (11, .any)], [(0, .any), (1, .any), (8, .any), (9, .any), (10, .any), (11, .any)])
  | 169, 13 => ([(0, .any), (1, .any), (10, .any), (11, .any)], [(0, .any), (1, .any), (8, .any), (9, .any), (11, .any)])
  | 169, 15 => ([(0, .any), (1, .any), (10, .any), (11, .any)], [(0, .any), (1, .any), (8, .any), (9, .any), (10, .any), (11, .any)])
  | 172, 1 => ([(0, .any), (2, .any), (3, .any)], [])
  | 173, 1 => ([(0, .any), (2, .any), (3, .any), (8, .any)], [])
  | _, _ => ([], [])
noncomputable def FT : FuncId → Option Func := fun f => Go.Proofs.Try.prog.funcs[f]?
end Go.Proofs.Ytplgngimjncpnaa.V
