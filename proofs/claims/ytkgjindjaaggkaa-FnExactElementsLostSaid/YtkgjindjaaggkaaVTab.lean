/- The tables of this translation for the plain evaluator: types, functions, the slots that live at a loop's head. No condition. -/
import Derived.Test.YtkgjindjaaggkaaProg
import Derived.Test.YtkgjindjaaggkaaV21
namespace Go.Proofs.Ytkgjindjaaggkaa.V
open Go
def tabL : List TyR := [
  ⟨.other, [], 0, false⟩,
  ⟨.func, [.func], 8, false⟩,
  ⟨.int .i64, [.int .i64], 8, false⟩,
  ⟨.int .i64, [.int .i64], 8, false⟩,
  ⟨.bool, [.bool], 1, false⟩,
  ⟨.int .u8, [.int .u8], 1, false⟩,
  ⟨.int .u8, [.int .u8], 1, false⟩,
  ⟨.struct [(0, 2), (1, 3), (2, 4), (3, 6)], [.int .i64, .int .i64, .bool, .int .u8], 24, false⟩,
  ⟨.struct [(0, 2), (1, 3), (2, 4), (3, 6)], [.int .i64, .int .i64, .bool, .int .u8], 24, false⟩,
  ⟨.str, [.str], 16, false⟩,
  ⟨.str, [.str], 16, false⟩,
  ⟨.str, [.str], 16, false⟩,
  ⟨.int .u64, [.int .u64], 8, false⟩,
  ⟨.struct [(0, 9), (1, 12)], [.str, .int .u64], 24, false⟩,
  ⟨.struct [(0, 9), (1, 12)], [.str, .int .u64], 24, false⟩,
  ⟨.ptr 187, [.ptr 187], 8, false⟩,
  ⟨.ptr 190, [.ptr 190], 8, false⟩,
  ⟨.ptr 197, [.ptr 197], 8, false⟩,
  ⟨.struct [(0, 17)], [.ptr 197], 8, false⟩,
  ⟨.struct [(0, 17)], [.ptr 197], 8, false⟩,
  ⟨.other, [], 0, false⟩,
  ⟨.int .i32, [.int .i32], 4, false⟩,
  ⟨.slice 2, [.slice 2], 24, false⟩,
  ⟨.slice 107, [.slice 107], 24, false⟩,
  ⟨.struct [(0, 2), (1, 22), (2, 22), (3, 22), (4, 22), (5, 23)], [.int .i64, .slice 2, .slice 2, .slice 2, .slice 2, .slice 107], 128, false⟩,
  ⟨.struct [(0, 2), (1, 22), (2, 22), (3, 22), (4, 22), (5, 23)], [.int .i64, .slice 2, .slice 2, .slice 2, .slice 2, .slice 107], 128, false⟩,
  ⟨.func, [.func], 8, false⟩,
  ⟨.slice 67, [.slice 67], 24, false⟩,
  ⟨.other, [], 0, false⟩,
  ⟨.func, [.func], 8, false⟩,
  ⟨.func, [.func], 8, false⟩,
  ⟨.slice 110, [.slice 110], 24, false⟩,
  ⟨.struct [(0, 2), (1, 22), (2, 22), (3, 22), (4, 22), (5, 31)], [.int .i64, .slice 2, .slice 2, .slice 2, .slice 2, .slice 110], 128, false⟩,
  ⟨.struct [(0, 2), (1, 22), (2, 22), (3, 22), (4, 22), (5, 31)], [.int .i64, .slice 2, .slice 2, .slice 2, .slice 2, .slice 110], 128, false⟩,
  ⟨.func, [.func], 8, false⟩,
  ⟨.func, [.func], 8, false⟩,
  ⟨.func, [.func], 8, false⟩,
  ⟨.func, [.func], 8, false⟩,
  ⟨.func, [.func], 8, false⟩,
  ⟨.func, [.func], 8, false⟩,
  ⟨.func, [.func], 8, false⟩,
  ⟨.func, [.func], 8, false⟩,
  ⟨.func, [.func], 8, false⟩,
  ⟨.func, [.func], 8, false⟩,
  ⟨.slice 5, [.slice 5], 24, false⟩,
  ⟨.other, [], 0, false⟩,
  ⟨.func, [.func], 8, false⟩,
  ⟨.func, [.func], 8, false⟩,
  ⟨.func, [.func], 8, false⟩,
  ⟨.struct [(0, 22), (1, 22)], [.slice 2, .slice 2], 48, false⟩,
  ⟨.struct [(0, 22), (1, 22)], [.slice 2, .slice 2], 48, false⟩,
  ⟨.other, [], 0, false⟩,
  ⟨.func, [.func], 8, false⟩,
  ⟨.func, [.func], 8, false⟩,
  ⟨.func, [.func], 8, false⟩,
  ⟨.func, [.func], 8, false⟩,
  ⟨.func, [.func], 8, false⟩,
  ⟨.other, [], 0, false⟩,
  ⟨.func, [.func], 8, false⟩,
  ⟨.func, [.func], 8, false⟩,
  ⟨.slice 50, [.slice 50], 24, false⟩,
  ⟨.func, [.func], 8, false⟩,
  ⟨.func, [.func], 8, false⟩,
  ⟨.func, [.func], 8, false⟩,
  ⟨.func, [.func], 8, false⟩,
  ⟨.slice 4, [.slice 4], 24, false⟩,
  ⟨.struct [(0, 2), (1, 22), (2, 22)], [.int .i64, .slice 2, .slice 2], 56, false⟩,
  ⟨.struct [(0, 2), (1, 22), (2, 22)], [.int .i64, .slice 2, .slice 2], 56, false⟩,
  ⟨.func, [.func], 8, false⟩,
  ⟨.func, [.func], 8, false⟩,
  ⟨.other, [], 0, false⟩,
  ⟨.func, [.func], 8, false⟩,
  ⟨.func, [.func], 8, false⟩,
  ⟨.func, [.func], 8, false⟩,
  ⟨.func, [.func], 8, false⟩,
  ⟨.func, [.func], 8, false⟩,
  ⟨.func, [.func], 8, false⟩,
  ⟨.func, [.func], 8, false⟩,
  ⟨.func, [.func], 8, false⟩,
  ⟨.func, [.func], 8, false⟩,
  ⟨.func, [.func], 8, false⟩,
  ⟨.func, [.func], 8, false⟩,
  ⟨.ptr 123, [.ptr 123], 8, false⟩,
  ⟨.func, [.func], 8, false⟩,
  ⟨.other, [], 0, false⟩,
  ⟨.func, [.func], 8, false⟩,
  ⟨.func, [.func], 8, false⟩,
  ⟨.func, [.func], 8, false⟩,
  ⟨.func, [.func], 8, false⟩,
  ⟨.func, [.func], 8, false⟩,
  ⟨.other, [], 0, false⟩,
  ⟨.func, [.func], 8, false⟩,
  ⟨.func, [.func], 8, false⟩,
  ⟨.func, [.func], 8, false⟩,
  ⟨.func, [.func], 8, false⟩,
  ⟨.ptr 97, [.ptr 97], 8, false⟩,
  ⟨.struct [(0, 95), (1, 44)], [.ptr 97, .slice 5], 32, false⟩,
  ⟨.struct [(0, 95), (1, 44)], [.ptr 97, .slice 5], 32, false⟩,
  ⟨.func, [.func], 8, false⟩,
  ⟨.other, [], 0, false⟩,
  ⟨.other, [], 0, false⟩,
  ⟨.other, [], 0, false⟩,
  ⟨.func, [.func], 8, false⟩,
  ⟨.func, [.func], 8, false⟩,
  ⟨.func, [.func], 8, false⟩,
  ⟨.func, [.func], 8, false⟩,
  ⟨.struct [(0, 22)], [.slice 2], 24, false⟩,
  ⟨.struct [(0, 22)], [.slice 2], 24, false⟩,
  ⟨.func, [.func], 8, false⟩,
  ⟨.func, [.func], 8, false⟩,
  ⟨.struct [(0, 22)], [.slice 2], 24, false⟩,
  ⟨.func, [.func], 8, false⟩,
  ⟨.other, [], 0, false⟩,
  ⟨.func, [.func], 8, false⟩,
  ⟨.func, [.func], 8, false⟩,
  ⟨.func, [.func], 8, false⟩,
  ⟨.func, [.func], 8, false⟩,
  ⟨.func, [.func], 8, false⟩,
  ⟨.func, [.func], 8, false⟩,
  ⟨.func, [.func], 8, false⟩,
  ⟨.func, [.func], 8, false⟩,
  ⟨.int .u64, [.int .u64], 8, false⟩,
  ⟨.struct [(0, 44), (1, 3), (2, 121)], [.slice 5, .int .i64, .int .u64], 40, false⟩,
  ⟨.struct [(0, 44), (1, 3), (2, 121)], [.slice 5, .int .i64, .int .u64], 40, false⟩,
  ⟨.func, [.func], 8, false⟩,
  ⟨.func, [.func], 8, false⟩,
  ⟨.func, [.func], 8, false⟩,
  ⟨.func, [.func], 8, false⟩,
  ⟨.func, [.func], 8, false⟩,
  ⟨.func, [.func], 8, false⟩,
  ⟨.func, [.func], 8, false⟩,
  ⟨.int .u64, [.int .u64], 8, false⟩,
  ⟨.other, [], 0, false⟩,
  ⟨.func, [.func], 8, false⟩,
  ⟨.func, [.func], 8, false⟩,
  ⟨.func, [.func], 8, false⟩,
  ⟨.ptr 5, [.ptr 5], 8, false⟩,
  ⟨.func, [.func], 8, false⟩,
  ⟨.func, [.func], 8, false⟩,
  ⟨.func, [.func], 8, false⟩,
  ⟨.func, [.func], 8, false⟩,
  ⟨.func, [.func], 8, false⟩,
  ⟨.func, [.func], 8, false⟩,
  ⟨.func, [.func], 8, false⟩,
  ⟨.func, [.func], 8, false⟩,
  ⟨.func, [.func], 8, false⟩,
  ⟨.func, [.func], 8, false⟩,
  ⟨.func, [.func], 8, false⟩,
  ⟨.func, [.func], 8, false⟩,
  ⟨.func, [.func], 8, false⟩,
  ⟨.func, [.func], 8, false⟩,
  ⟨.other, [], 0, false⟩,
  ⟨.func, [.func], 8, false⟩,
  ⟨.int .u32, [.int .u32], 4, false⟩,
  ⟨.other, [], 0, false⟩,
  ⟨.func, [.func], 8, false⟩,
  ⟨.other, [], 0, false⟩,
  ⟨.func, [.func], 8, false⟩,
  ⟨.func, [.func], 8, false⟩,
  ⟨.slice 22, [.slice 22], 24, false⟩,
  ⟨.func, [.func], 8, false⟩,
  ⟨.func, [.func], 8, false⟩,
  ⟨.func, [.func], 8, false⟩,
  ⟨.func, [.func], 8, false⟩,
  ⟨.func, [.func], 8, false⟩,
  ⟨.func, [.func], 8, false⟩,
  ⟨.int .i64, [.int .i64], 8, false⟩,
  ⟨.other, [], 0, false⟩,
  ⟨.func, [.func], 8, false⟩,
  ⟨.func, [.func], 8, false⟩,
  ⟨.func, [.func], 8, false⟩,
  ⟨.func, [.func], 8, false⟩,
  ⟨.func, [.func], 8, false⟩,
  ⟨.func, [.func], 8, false⟩,
  ⟨.func, [.func], 8, false⟩,
  ⟨.func, [.func], 8, false⟩,
  ⟨.func, [.func], 8, false⟩,
  ⟨.int .u64, [.int .u64], 8, false⟩,
  ⟨.func, [.func], 8, false⟩,
  ⟨.func, [.func], 8, false⟩,
  ⟨.func, [.func], 8, false⟩,
  ⟨.ptr 3, [.ptr 3], 8, false⟩,
  ⟨.func, [.func], 8, false⟩,
  ⟨.ptr 177, [.ptr 177], 8, false⟩,
  ⟨.other, [], 0, false⟩,
  ⟨.func, [.func], 8, false⟩,
  ⟨.struct [(0, 17), (1, 17), (2, 17), (3, 9)], [.ptr 197, .ptr 197, .ptr 197, .str], 40, false⟩,
  ⟨.struct [(0, 17), (1, 17), (2, 17), (3, 9)], [.ptr 197, .ptr 197, .ptr 197, .str], 40, false⟩,
  ⟨.other, [], 0, false⟩,
  ⟨.other, [], 0, false⟩,
  ⟨.other, [], 0, false⟩,
  ⟨.int .u8, [.int .u8], 1, false⟩,
  ⟨.int .u8, [.int .u8], 1, false⟩,
  ⟨.func, [.func], 8, false⟩,
  ⟨.int .i32, [.int .i32], 4, false⟩,
  ⟨.int .i32, [.int .i32], 4, false⟩,
  ⟨.other, [], 0, false⟩,
  ⟨.other, [], 0, false⟩]
def methL : List (Nat × Nat) := [(17, 0), (18, 0), (19, 0), (53, 0), (107, 0), (117, 0), (175, 0)]
def tab : Tab := mkTab tabL methL
def live : FuncId → Nat → Live × Live
  | 5, 11 => ([(3, .any), (4, .any), (7, .any), (8, .any), (9, .any)], [(2, .any), (3, .any), (4, .any), (8, .any)])
  | 5, 18 => ([(3, .any), (4, .any), (8, .any), (12, .any)], [(2, .any), (3, .any), (8, .any)])
  | 6, 8 => ([(3, .any), (4, .any), (6, .any), (7, .any), (8, .any)], [(2, .any)])
  | 7, 11 => ([(3, .any), (4, .any), (7, .any), (11, .any), (12, .any), (13, .any)], [(2, .any), (12, .any)])
  | 7, 17 => ([(3, .any), (4, .any), (7, .any), (11, .any), (12, .any), (13, .any), (14, .any), (15, .any)], [(2, .any), (3, .any), (4, .any), (7, .any), (11, .any), (12, .any), (13, .any)])
  | 7, 27 => ([(12, .any), (19, .any)], [(2, .any)])
  | 8, 9 => ([(4, .any), (7, .any)], [(2, .any)])
  | 11, 3 => ([(0, .any), (3, .any), (4, .any)], [(2, .ownSlice 2), (3, .any)])
  | 14, 4 => ([(0, .any), (1, .any), (5, .any)], [(4, .any)])
  | 15, 4 => ([(0, .any), (1, .any), (5, .any)], [(4, .any)])
  | 17, 2 => ([(0, .any), (1, .any), (5, .any), (1000000, .any)], [(1, .any), (4, .any), (1000000, .any)])
  | 19, 2 => ([(0, .any), (1, .any), (5, .any), (1000000, .any)], [(1, .any), (4, .any), (1000000, .any)])
  | 20, 2 => ([(0, .any), (1, .any), (5, .any)], [(1, .any), (4, .any)])
  | 21, 6 => ([(0, .any), (1, .any), (2, .any), (9, .any), (10, .any), (11, .any)], [(8, .ownSlice 2), (9, .any)])
  | 21, 10 => ([(0, .any), (1, .any), (2, .any), (9, .any), (10, .any), (11, .any), (12, .any), (13, .any)], [(0, .any), (1, .any), (2, .any), (8, .ownSlice 2), (9, .any), (10, .any), (11, .any), (12, .any)])
  | 23, 2 => ([(0, .any), (1, .any), (5, .any)], [(1, .any), (4, .any)])
  | 24, 6 => ([(4, .any), (6, .any), (7, .any), (8, .any), (9, .any), (10, .any), (11, .any)], [(2, .ownSlice 2), (3, .ownSlice 2), (4, .any), (5, .ownSlice 2), (7, .any), (8, .any), (9, .any), (10, .any)])
  | 29, 8 => ([(0, .any), (1, .any), (6, .any), (8, .any), (10, .any), (28, .alias), (29, .any), (30, .any)], [(6, .any), (7, .any), (10, .any)])
  | 35, 2 => ([(0, .any), (1, .any), (5, .any)], [(4, .any)])
  | 35, 6 => ([(0, .any), (1, .any), (5, .any), (6, .any), (7, .any)], [(0, .any), (1, .any), (4, .any), (5, .any), (6, .any)])
  | 38, 2 => ([(0, .any), (1, .any), (5, .any)], [(4, .any)])
  | 42, 5 => ([(0, .any), (4, .any), (5, .any)], [(2, .any), (3, .any), (4, .any)])
  | 44, 5 => ([(0, .any), (1, .any), (5, .any)], [(1, .any), (4, .any)])
  | 45, 5 => ([(0, .any), (1, .any), (5, .any), (6, .any)], [(0, .any), (1, .any), (4, .any), (5, .any)])
  | 45, 12 => ([(5, .any), (7, .any), (8, .any)], [(4, .any), (5, .any), (7, .any)])
  | 46, 8 => ([(0, .any), (3, .any), (5, .any)], [(4, .any)])
  | 46, 14 => ([(0, .any), (3, .any), (6, .any)], [(4, .any)])
  | 47, 6 => ([(0, .any), (1, .any), (7, .any), (8, .any), (9, .any), (10, .any), (11, .any)], [(6, .ownSlice 67), (8, .any), (9, .any), (10, .any)])
  | 47, 14 => ([(8, .any), (9, .any), (10, .any), (14, .any), (15, .any)], [(6, .ownSlice 67), (14, .any)])
  | 47, 18 => ([(8, .any), (9, .any), (10, .any), (14, .any), (15, .any), (16, .any), (17, .any)], [(6, .ownSlice 67), (8, .any), (9, .any), (10, .any), (14, .any), (15, .any), (16, .any)])
  | 48, 3 => ([(0, .any), (3, .any), (4, .any)], [(2, .ownSlice 110), (3, .any)])
  | 50, 3 => ([(0, .any), (1, .any), (7, .ownSlice 67), (16, .any), (17, .any), (18, .any)], [(6, .ownSlice 67), (7, .ownSlice 67)])
  | 52, 4 => ([(0, .any), (1, .any), (5, .any)], [(4, .any)])
  | 53, 2 => ([(0, .any), (1, .any), (5, .any), (1000000, .any)], [(1, .any), (4, .any), (1000000, .any)])
  | 56, 4 => ([(0, .any), (1, .any), (6, .any), (7, .any), (8, .any), (9, .any)], [(6, .any), (8, .any)])
  | 57, 3 => ([(0, .any), (3, .any), (4, .any)], [(2, .any), (3, .any)])
  | 58, 3 => ([(0, .any), (1, .any), (5, .any), (6, .any)], [(4, .ownSlice 2), (5, .any)])
  | 59, 4 => ([(0, .any), (1, .any), (5, .any)], [(4, .any)])
  | 60, 3 => ([(0, .any), (1, .any), (2, .any), (3, .any), (9, .ownSlice 2), (15, .any), (16, .any)], [(8, .ownSlice 2), (9, .ownSlice 2)])
  | 62, 5 => ([(0, .any), (4, .any), (5, .any), (6, .any), (7, .any)], [(2, .ownSlice 2), (3, .ownSlice 2), (4, .any), (5, .any)])
  | 63, 12 => ([(0, .any), (1, .any), (4, .any), (5, .any), (6, .any)], [(0, .any), (1, .any), (4, .any), (5, .any)])
  | 63, 16 => ([(0, .any), (1, .any), (4, .any), (5, .any), (6, .any), (7, .any), (8, .any)], [(0, .any), (1, .any), (4, .any), (5, .any), (6, .any), (7, .any)])
  | 66, 4 => ([(5, .any), (6, .ownSlice 2), (12, .any), (13, .any)], [(4, .ownSlice 2), (6, .ownSlice 2)])
  | 69, 3 => ([(3, .any), (6, .any), (7, .any), (8, .any)], [(2, .any), (3, .any)])
  | 70, 3 => ([(1, .any), (5, .ownSlice 2), (8, .any), (9, .any), (10, .any)], [(4, .ownSlice 2), (5, .ownSlice 2)])
  | 71, 3 => ([(2, .any), (8, .any), (15, .any), (16, .any)], [(6, .ownSlice 2), (7, .any)])
  | 72, 4 => ([(1, .any), (3, .any)], [(2, .any)])
  | 73, 3 => ([(1, .any), (3, .any), (4, .any)], [(2, .any), (3, .any)])
  | 74, 5 => ([(0, .any), (3, .any), (4, .any)], [(2, .any), (3, .any)])
  | 76, 4 => ([(0, .any), (12, .any), (13, .any), (14, .any)], [(4, .any)])
  | 77, 3 => ([(0, .any), (6, .ownSlice 2), (7, .ownSlice 2), (10, .any), (11, .any), (12, .any)], [(0, .any), (4, .any), (5, .any), (6, .ownSlice 2), (7, .ownSlice 2)])
  | 79, 3 => ([(0, .any), (1, .any), (5, .any), (6, .any)], [(4, .any), (5, .any)])
  | 80, 5 => ([(0, .any), (5, .any), (6, .any)], [(4, .ownSlice 2), (5, .any)])
  | 80, 10 => ([(0, .any), (3, .any), (5, .any), (7, .any)], [(4, .ownSlice 2), (5, .any)])
  | 80, 16 => ([(0, .any), (3, .any), (5, .any), (8, .any)], [(4, .ownSlice 2), (5, .any)])
  | 80, 21 => ([(0, .any), (3, .any), (5, .any), (8, .any), (9, .any), (10, .any), (11, .any)], [(0, .any), (3, .any), (4, .ownSlice 2), (5, .any), (8, .any), (10, .any)])
  | 80, 24 => ([(0, .any), (3, .any), (5, .any), (8, .any), (9, .any), (10, .any), (11, .any), (12, .any)], [(0, .any), (3, .any), (4, .ownSlice 2), (5, .any), (8, .any), (9, .any), (10, .any), (11, .any)])
  | 81, 3 => ([(0, .any), (3, .any), (4, .any)], [(0, .any), (2, .any), (3, .any)])
  | 81, 14 => ([(0, .any), (3, .any), (4, .any), (5, .any), (6, .any)], [(0, .any), (2, .any), (3, .any), (4, .any)])
  | 81, 20 => ([(0, .any), (3, .any), (4, .any), (7, .any), (8, .any)], [(0, .any), (2, .any), (3, .any), (4, .any)])
  | 82, 3 => ([(0, .any), (3, .ownSlice 5), (4, .any)], [(2, .any), (3, .ownSlice 5)])
  | 82, 5 => ([(0, .any), (3, .ownSlice 5), (4, .any), (5, .any)], [(0, .any), (2, .any), (3, .ownSlice 5), (4, .any), (5, .any)])
  | 85, 38 => ([(7, .any), (8, .any), (9, .any)], [(4, .any), (9, .any)])
  | 88, 3 => ([(0, .any), (1, .any), (5, .any), (6, .any)], [(4, .ownSlice 2), (5, .any)])
  | 91, 4 => ([(0, .any), (1, .any), (6, .any), (7, .any), (8, .any)], [(0, .any), (4, .any), (5, .any), (6, .any), (7, .any)])
  | 92, 4 => ([(0, .any), (1, .any), (5, .any), (6, .any), (7, .any)], [(1, .any), (4, .ownSlice 2), (5, .any), (6, .any)])
  | 95, 6 => ([(2, .any), (3, .any), (17, .any), (18, .any), (19, .any)], [(4, .any)])
  | 96, 5 => ([(5, .ownSlice 2), (14, .any), (15, .any)], [(4, .ownSlice 2), (5, .ownSlice 2)])
  | 96, 13 => ([(1, .any), (2, .any), (5, .ownSlice 2), (31, .any), (32, .any), (33, .any)], [(4, .ownSlice 2), (5, .ownSlice 2)])
  | 98, 3 => ([(0, .any), (1, .any), (2, .any), (8, .any), (9, .any), (10, .any)], [(0, .any), (1, .any), (2, .any), (6, .any), (7, .any), (8, .any), (9, .any)])
  | 103, 2 => ([(0, .any), (1, .any), (5, .any)], [(4, .any)])
  | 104, 4 => ([(5, .any), (6, .any), (7, .any)], [(4, .ownSlice 2), (6, .any)])
  | 105, 3 => ([(1, .any), (5, .any), (6, .any)], [(4, .ownSlice 2), (5, .any)])
  | 110, 3 => ([(0, .any), (1, .any), (4, .any), (5, .any), (6, .any)], [(4, .any), (5, .any)])
  | 112, 3 => ([(3, .any), (6, .any), (7, .any), (8, .any)], [(2, .any), (3, .any)])
  | 116, 3 => ([(0, .any), (5, .any), (8, .any), (9, .any), (10, .any)], [(4, .any), (5, .any)])
  | 117, 5 => ([(0, .any), (1, .any), (5, .any), (6, .any), (1000000, .any)], [(0, .any), (4, .ownSlice 2), (5, .any), (1000000, .any)])
  | 120, 3 => ([(1, .any), (2, .any), (5, .any), (6, .any)], [(4, .ownSlice 2), (5, .any)])
  | 120, 6 => ([(1, .any), (2, .any), (5, .any), (6, .any), (7, .any)], [(1, .any), (2, .any), (4, .ownSlice 2), (5, .any), (6, .any)])
  | 121, 3 => ([(0, .any), (5, .any), (6, .any)], [(4, .any), (5, .any)])
  | 128, 5 => ([(1, .any), (3, .any), (4, .any)], [(2, .any)])
  | 129, 4 => ([(0, .any), (3, .any)], [(2, .any)])
  | 129, 9 => ([(0, .any), (3, .any), (4, .any)], [(0, .any), (2, .any), (3, .any)])
  | 130, 3 => ([(0, .any), (3, .any), (4, .any)], [(2, .any), (3, .any)])
  | 132, 5 => ([(1, .any), (31, .any), (32, .any)], [(2, .any)])
  | 137, 3 => ([(2, .any), (5, .any), (14, .any), (15, .any), (16, .any)], [(4, .ownSlice 2), (5, .any)])
  | 137, 7 => ([(2, .any), (6, .any), (7, .any), (8, .ownSlice 2), (14, .any), (15, .any), (16, .any), (21, .any), (22, .any), (23, .any)], [(2, .any), (4, .ownSlice 2), (5, .any), (8, .ownSlice 2), (14, .any), (15, .any), (16, .any)])
  | 137, 10 => ([(2, .any), (6, .any), (7, .any), (8, .ownSlice 2), (10, .any), (14, .any), (15, .any), (16, .any), (21, .any), (22, .any), (23, .any), (29, .any), (30, .any), (31, .any)], [(2, .any), (4, .ownSlice 2), (5, .any), (6, .any), (7, .any), (8, .ownSlice 2), (14, .any), (15, .any), (16, .any), (21, .any), (22, .any), (23, .any)])
  | 142, 2 => ([(0, .any), (1, .any), (2, .any), (3, .any), (8, .any), (9, .any)], [])
  | 145, 2 => ([(0, .any), (1, .any), (5, .any)], [(0, .any), (4, .ownSlice 2), (5, .any)])
  | 146, 2 => ([(0, .any), (1, .any), (7, .any), (8, .any)], [(4, .any)])
  | 147, 2 => ([(0, .any), (1, .any), (7, .any), (8, .any)], [(4, .any)])
  | 153, 4 => ([(1, .any), (2, .any), (15, .any), (16, .any), (17, .any)], [(6, .any)])
  | 155, 4 => ([(0, .any), (1, .any), (12, .any), (13, .any)], [(4, .any)])
  | 156, 4 => ([(1, .any), (2, .any), (15, .any), (16, .any), (17, .any)], [(6, .any)])
  | 159, 2 => ([(0, .any), (1, .any), (7, .any), (8, .any)], [(4, .any)])
  | 160, 3 => ([(1, .any), (2, .any), (5, .ownSlice 2), (12, .any), (13, .any)], [(4, .ownSlice 2), (5, .ownSlice 2)])
  | 160, 6 => ([(1, .any), (2, .any), (5, .ownSlice 2), (6, .any), (12, .any), (13, .any), (20, .any), (21, .any)], [(1, .any), (2, .any), (4, .ownSlice 2), (5, .ownSlice 2), (12, .any), (13, .any)])
  | 161, 1 => ([(0, .any), (1, .any), (3, .any)], [])
  | 163, 1 => ([(0, .any), (1, .any), (2, .any), (6, .any)], [])
  | 163, 4 => ([(0, .any), (1, .any), (2, .any), (6, .any), (7, .any)], [(0, .any), (1, .any), (2, .any), (6, .any)])
  | 164, 4 => ([(0, .any), (6, .any), (7, .any), (8, .any), (9, .any)], [(0, .any), (6, .any), (7, .any), (8, .any)])
  | 164, 8 => ([(0, .any), (6, .any), (7, .any), (10, .any)], [])
  | 165, 5 => ([(0, .any), (1, .any), (6, .any), (7, .any), (8, .any), (9, .any)], [])
  | 167, 2 => ([(0, .any), (6, .any), (7, .any)], [])
  | 168, 3 => ([(0, .any), (1, .any), (2, .any), (7, .any), (8, .any)], [(6, .any)])
  | 168, 5 => ([(0, .any), (1, .any), (2, .any), (7, .any), (8, .any)], [(0, .any), (1, .any), (2, .any), (6, .any), (7, .any), (8, .any)])
  | 168, 14 => ([(0, .any), (1, .any), (2, .any), (7, .any), (8, .any), (9, .any)], [(0, .any), (1, .any), (2, .any), (6, .any), (7, .any), (8, .any)])
  | 168, 20 => ([(0, .any), (1, .any), (2, .any), (7, .any), (8, .any), (10, .any)], [(0, .any), (1, .any), (2, .any), (6, .any), (7, .any), (8, .any)])
  | 170, 3 => ([(0, .any), (1, .any), (9, .any), (10, .any)], [(8, .any), (9, .any)])
  | 170, 5 => ([(0, .any), (1, .any), (9, .any), (10, .any)], [(0, .any), (1, .any), (8, .any), (9, .any), (10, .any)])
  | 171, 3 => ([(0, .any), (1, .any), (10, .any), (11, .any)], [(0, .any), (1, .any), (8, .any), (9, .any), (10, .any), (11, .any)])
  | 171, 5 => ([(0, .any), (1, .any), (10, .any), (11, .any)], [(0, .any), (1, .any), (8, .any), (9, .any), (10, .any), (11, .any)])
  | 171, 13 => ([(0, .any), (1, .any), (10, .any), (11, .any)], [(0, .any), (1, .any), (8, .any), (9, .any), (11, .any)])
  | 171, 15 => ([(0, .any), (1, .any), (10, .any), (11, .any)], [(0, .any), (1, .any), (8, .any), (9, .any), (10, .any), (11, .any)])
  | 175, 1 => ([(0, .any), (2, .any), (3, .any), (1000000, .any)], [(1000000, .any)])
  | 176, 1 => ([(0, .any), (2, .any), (3, .any), (8, .any)], [])
  | _, _ => ([], [])
noncomputable def FT : FuncId → Option Func := fun f => Go.Proofs.Try.prog.funcs[f]?
end Go.Proofs.Ytkgjindjaaggkaa.V
