/- The tables of this translation for the plain evaluator: types, functions, the slots that live at a loop's head. No condition. -/
import Derived.Test.YtnlpkmkkidpfhaaProg
import Derived.Test.YtnlpkmkkidpfhaaV1
namespace Go.Proofs.Ytnlpkmkkidpfhaa.V
open Go
def tabL : List TyR := [
  ⟨.other, [], 0, false⟩,
  ⟨.func, [.func], 8, false⟩,
  ⟨.int .i64, [.int .i64], 8, false⟩,
  ⟨.int .i64, [.int .i64], 8, false⟩,
  ⟨.bool, [.bool], 1, false⟩,
  ⟨.int .u8, [.int .u8], 1, false⟩,
  ⟨.int .u8, [.int .u8], 1, false⟩,
  ⟨.struct [(0, 2), (1, 3), (2, 4), (3, 6)], [.int .i64, .int .i64, .bool, .int .u8], 24, true⟩,
  ⟨.struct [(0, 2), (1, 3), (2, 4), (3, 6)], [.int .i64, .int .i64, .bool, .int .u8], 24, true⟩,
  ⟨.str, [.str], 16, false⟩,
  ⟨.str, [.str], 16, false⟩,
  ⟨.str, [.str], 16, false⟩,
  ⟨.int .u64, [.int .u64], 8, false⟩,
  ⟨.struct [(0, 9), (1, 12)], [.str, .int .u64], 24, false⟩,
  ⟨.struct [(0, 9), (1, 12)], [.str, .int .u64], 24, false⟩,
  ⟨.ptr 137, [.ptr 137], 8, false⟩,
  ⟨.ptr 140, [.ptr 140], 8, false⟩,
  ⟨.ptr 149, [.ptr 149], 8, false⟩,
  ⟨.struct [(0, 17)], [.ptr 149], 8, false⟩,
  ⟨.struct [(0, 17)], [.ptr 149], 8, false⟩,
  ⟨.other, [], 0, false⟩,
  ⟨.int .i32, [.int .i32], 4, false⟩,
  ⟨.func, [.func], 8, false⟩,
  ⟨.func, [.func], 8, false⟩,
  ⟨.struct [(0, 2), (1, 2), (2, 4)], [.int .i64, .int .i64, .bool], 24, true⟩,
  ⟨.struct [(0, 2), (1, 2), (2, 4)], [.int .i64, .int .i64, .bool], 24, true⟩,
  ⟨.func, [.func], 8, false⟩,
  ⟨.struct [(0, 2), (1, 2), (2, 4)], [.int .i64, .int .i64, .bool], 24, true⟩,
  ⟨.func, [.func], 8, false⟩,
  ⟨.func, [.func], 8, false⟩,
  ⟨.func, [.func], 8, false⟩,
  ⟨.func, [.func], 8, false⟩,
  ⟨.slice 25, [.slice 25], 24, false⟩,
  ⟨.func, [.func], 8, false⟩,
  ⟨.func, [.func], 8, false⟩,
  ⟨.slice 27, [.slice 27], 24, false⟩,
  ⟨.func, [.func], 8, false⟩,
  ⟨.func, [.func], 8, false⟩,
  ⟨.slice 2, [.slice 2], 24, false⟩,
  ⟨.struct [(0, 38), (1, 38)], [.slice 2, .slice 2], 48, false⟩,
  ⟨.struct [(0, 38), (1, 38)], [.slice 2, .slice 2], 48, false⟩,
  ⟨.func, [.func], 8, false⟩,
  ⟨.func, [.func], 8, false⟩,
  ⟨.struct [(0, 38), (1, 38)], [.slice 2, .slice 2], 48, false⟩,
  ⟨.func, [.func], 8, false⟩,
  ⟨.func, [.func], 8, false⟩,
  ⟨.func, [.func], 8, false⟩,
  ⟨.func, [.func], 8, false⟩,
  ⟨.slice 9, [.slice 9], 24, false⟩,
  ⟨.slice 96, [.slice 96], 24, false⟩,
  ⟨.slice 52, [.slice 52], 24, false⟩,
  ⟨.struct [(0, 2), (1, 2), (2, 4), (3, 4), (4, 48), (5, 38), (6, 49), (7, 50), (8, 2)], [.int .i64, .int .i64, .bool, .bool, .slice 9, .slice 2, .slice 96, .slice 52, .int .i64], 128, false⟩,
  ⟨.struct [(0, 2), (1, 2), (2, 4), (3, 4), (4, 48), (5, 38), (6, 49), (7, 50), (8, 2)], [.int .i64, .int .i64, .bool, .bool, .slice 9, .slice 2, .slice 96, .slice 52, .int .i64], 128, false⟩,
  ⟨.func, [.func], 8, false⟩,
  ⟨.slice 99, [.slice 99], 24, false⟩,
  ⟨.slice 57, [.slice 57], 24, false⟩,
  ⟨.struct [(0, 2), (1, 2), (2, 4), (3, 4), (4, 48), (5, 38), (6, 54), (7, 55), (8, 2)], [.int .i64, .int .i64, .bool, .bool, .slice 9, .slice 2, .slice 99, .slice 57, .int .i64], 128, false⟩,
  ⟨.struct [(0, 2), (1, 2), (2, 4), (3, 4), (4, 48), (5, 38), (6, 54), (7, 55), (8, 2)], [.int .i64, .int .i64, .bool, .bool, .slice 9, .slice 2, .slice 99, .slice 57, .int .i64], 128, false⟩,
  ⟨.func, [.func], 8, false⟩,
  ⟨.func, [.func], 8, false⟩,
  ⟨.func, [.func], 8, false⟩,
  ⟨.func, [.func], 8, false⟩,
  ⟨.func, [.func], 8, false⟩,
  ⟨.func, [.func], 8, false⟩,
  ⟨.func, [.func], 8, false⟩,
  ⟨.func, [.func], 8, false⟩,
  ⟨.func, [.func], 8, false⟩,
  ⟨.func, [.func], 8, false⟩,
  ⟨.func, [.func], 8, false⟩,
  ⟨.func, [.func], 8, false⟩,
  ⟨.func, [.func], 8, false⟩,
  ⟨.func, [.func], 8, false⟩,
  ⟨.func, [.func], 8, false⟩,
  ⟨.func, [.func], 8, false⟩,
  ⟨.func, [.func], 8, false⟩,
  ⟨.func, [.func], 8, false⟩,
  ⟨.func, [.func], 8, false⟩,
  ⟨.func, [.func], 8, false⟩,
  ⟨.func, [.func], 8, false⟩,
  ⟨.func, [.func], 8, false⟩,
  ⟨.func, [.func], 8, false⟩,
  ⟨.func, [.func], 8, false⟩,
  ⟨.func, [.func], 8, false⟩,
  ⟨.func, [.func], 8, false⟩,
  ⟨.func, [.func], 8, false⟩,
  ⟨.func, [.func], 8, false⟩,
  ⟨.func, [.func], 8, false⟩,
  ⟨.func, [.func], 8, false⟩,
  ⟨.func, [.func], 8, false⟩,
  ⟨.func, [.func], 8, false⟩,
  ⟨.func, [.func], 8, false⟩,
  ⟨.ptr 43, [.ptr 43], 8, false⟩,
  ⟨.slice 5, [.slice 5], 24, false⟩,
  ⟨.func, [.func], 8, false⟩,
  ⟨.func, [.func], 8, false⟩,
  ⟨.struct [(0, 9), (1, 2), (2, 52)], [.str, .int .i64, .int .i64, .int .i64, .bool, .bool, .slice 9, .slice 2, .slice 96, .slice 52, .int .i64], 152, false⟩,
  ⟨.struct [(0, 9), (1, 2), (2, 52)], [.str, .int .i64, .int .i64, .int .i64, .bool, .bool, .slice 9, .slice 2, .slice 96, .slice 52, .int .i64], 152, false⟩,
  ⟨.func, [.func], 8, false⟩,
  ⟨.struct [(0, 9), (1, 2), (2, 57)], [.str, .int .i64, .int .i64, .int .i64, .bool, .bool, .slice 9, .slice 2, .slice 99, .slice 57, .int .i64], 152, false⟩,
  ⟨.struct [(0, 9), (1, 2), (2, 57)], [.str, .int .i64, .int .i64, .int .i64, .bool, .bool, .slice 9, .slice 2, .slice 99, .slice 57, .int .i64], 152, false⟩,
  ⟨.func, [.func], 8, false⟩,
  ⟨.func, [.func], 8, false⟩,
  ⟨.func, [.func], 8, false⟩,
  ⟨.func, [.func], 8, false⟩,
  ⟨.func, [.func], 8, false⟩,
  ⟨.int .u64, [.int .u64], 8, false⟩,
  ⟨.func, [.func], 8, false⟩,
  ⟨.ptr 109, [.ptr 109], 8, false⟩,
  ⟨.struct [(0, 107), (1, 92)], [.ptr 109, .slice 5], 32, false⟩,
  ⟨.struct [(0, 107), (1, 92)], [.ptr 109, .slice 5], 32, false⟩,
  ⟨.int .u64, [.int .u64], 8, false⟩,
  ⟨.func, [.func], 8, false⟩,
  ⟨.other, [], 0, false⟩,
  ⟨.other, [], 0, false⟩,
  ⟨.other, [], 0, false⟩,
  ⟨.func, [.func], 8, false⟩,
  ⟨.func, [.func], 8, false⟩,
  ⟨.func, [.func], 8, false⟩,
  ⟨.func, [.func], 8, false⟩,
  ⟨.func, [.func], 8, false⟩,
  ⟨.other, [], 0, false⟩,
  ⟨.func, [.func], 8, false⟩,
  ⟨.func, [.func], 8, false⟩,
  ⟨.func, [.func], 8, false⟩,
  ⟨.ptr 5, [.ptr 5], 8, false⟩,
  ⟨.func, [.func], 8, false⟩,
  ⟨.func, [.func], 8, false⟩,
  ⟨.func, [.func], 8, false⟩,
  ⟨.func, [.func], 8, false⟩,
  ⟨.func, [.func], 8, false⟩,
  ⟨.func, [.func], 8, false⟩,
  ⟨.other, [], 0, false⟩,
  ⟨.func, [.func], 8, false⟩,
  ⟨.func, [.func], 8, false⟩,
  ⟨.func, [.func], 8, false⟩,
  ⟨.func, [.func], 8, false⟩,
  ⟨.struct [(0, 17), (1, 17), (2, 17), (3, 9)], [.ptr 149, .ptr 149, .ptr 149, .str], 40, false⟩,
  ⟨.struct [(0, 17), (1, 17), (2, 17), (3, 9)], [.ptr 149, .ptr 149, .ptr 149, .str], 40, false⟩,
  ⟨.other, [], 0, false⟩,
  ⟨.other, [], 0, false⟩,
  ⟨.other, [], 0, false⟩,
  ⟨.func, [.func], 8, false⟩,
  ⟨.int .u32, [.int .u32], 4, false⟩,
  ⟨.int .u8, [.int .u8], 1, false⟩,
  ⟨.int .u8, [.int .u8], 1, false⟩,
  ⟨.func, [.func], 8, false⟩,
  ⟨.int .i32, [.int .i32], 4, false⟩,
  ⟨.int .i32, [.int .i32], 4, false⟩,
  ⟨.other, [], 0, false⟩,
  ⟨.other, [], 0, false⟩]
def tab : Tab := fun t => tabL.getD t ⟨.other, [], 0, false⟩
def live : FuncId → Nat → Live × Live
  | 26, 3 => ([(0, .any), (3, .any), (4, .any)], [(2, .ownSlice 27), (3, .any)])
  | 28, 4 => ([(0, .any), (1, .any), (5, .any)], [(4, .any)])
  | 48, 3 => ([(0, .any), (3, .any), (4, .any)], [(2, .ownSlice 2), (3, .any)])
  | 50, 4 => ([(0, .any), (1, .any), (5, .any)], [(4, .any)])
  | 53, 3 => ([(0, .any), (3, .any), (4, .any)], [(2, .any), (3, .any)])
  | 53, 5 => ([(0, .any), (3, .any), (4, .any), (5, .any)], [(0, .any), (2, .any), (3, .any), (4, .any), (5, .any)])
  | 54, 3 => ([(0, .any), (3, .ownSlice 5), (4, .any)], [(2, .any), (3, .ownSlice 5)])
  | 54, 5 => ([(0, .any), (3, .ownSlice 5), (4, .any), (5, .any)], [(0, .any), (2, .any), (3, .ownSlice 5), (4, .any), (5, .any)])
  | 59, 4 => ([(0, .any), (1, .any), (5, .any), (6, .any), (7, .any)], [(0, .any), (1, .any), (4, .any), (5, .any), (6, .any)])
  | 59, 7 => ([(0, .any), (1, .any), (5, .any), (6, .any), (7, .any), (8, .any)], [(0, .any), (1, .any), (4, .any), (5, .any), (6, .any), (7, .any)])
  | 60, 4 => ([(0, .any), (1, .any), (2, .any), (7, .any), (8, .any), (17, .any), (18, .any)], [(6, .any), (7, .any)])
  | 60, 7 => ([(0, .any), (1, .any), (2, .any), (7, .any), (8, .any), (9, .any), (17, .any), (18, .any), (21, .any), (22, .any)], [(0, .any), (1, .any), (2, .any), (6, .any), (7, .any), (8, .any), (17, .any), (18, .any)])
  | 61, 4 => ([(0, .any), (1, .any), (5, .any), (6, .any), (7, .any)], [(0, .any), (1, .any), (4, .any), (5, .any), (6, .any)])
  | 61, 7 => ([(0, .any), (1, .any), (5, .any), (6, .any), (7, .any), (8, .any)], [(0, .any), (1, .any), (4, .any), (5, .any), (6, .any), (7, .any)])
  | 62, 4 => ([(0, .any), (1, .any), (5, .any)], [(4, .any)])
  | 63, 4 => ([(0, .any), (1, .any), (12, .any), (13, .any)], [(4, .any)])
  | 66, 4 => ([(0, .any), (1, .any), (5, .any)], [(4, .any)])
  | 67, 4 => ([(0, .any), (1, .any), (12, .any), (13, .any)], [(4, .any)])
  | 68, 2 => ([(0, .any), (3, .any)], [(0, .any), (2, .any)])
  | 71, 5 => ([(0, .any), (1, .any), (5, .any)], [(1, .any), (4, .any)])
  | 72, 5 => ([(0, .any), (1, .any), (5, .any)], [(1, .any), (4, .any)])
  | 73, 5 => ([(0, .any), (1, .any), (5, .any)], [(1, .any), (4, .any)])
  | 75, 3 => ([(1, .any), (2, .any), (3, .any), (4, .any)], [(1, .any), (2, .any), (3, .any)])
  | 75, 8 => ([(1, .any), (2, .any), (3, .any), (5, .any), (6, .any)], [(1, .any), (2, .any), (3, .any), (5, .any)])
  | 76, 3 => ([(0, .any), (3, .any), (4, .any)], [(2, .ownSlice 9), (3, .any)])
  | 77, 3 => ([(0, .any), (3, .any), (4, .any)], [(2, .ownSlice 99), (3, .any)])
  | 78, 3 => ([(0, .any), (3, .any), (4, .any)], [(2, .ownSlice 57), (3, .any)])
  | 80, 5 => ([(2, .any), (3, .any), (13, .any), (14, .any), (15, .any)], [(2, .any), (3, .any)])
  | 81, 4 => ([(0, .any), (1, .any), (5, .any)], [(4, .any)])
  | 82, 4 => ([(0, .any), (1, .any), (5, .any)], [(4, .any)])
  | 83, 4 => ([(0, .any), (1, .any), (5, .any)], [(4, .any)])
  | 84, 2 => ([(0, .any), (1, .any), (5, .any)], [(1, .any), (4, .any)])
  | 85, 2 => ([(0, .any), (1, .any), (5, .any)], [(1, .any), (4, .any)])
  | 86, 2 => ([(0, .any), (1, .any), (5, .any)], [(1, .any), (4, .any)])
  | 87, 2 => ([(0, .any), (1, .any), (5, .any)], [(1, .any), (4, .any)])
  | 88, 2 => ([(0, .any), (1, .any), (5, .any)], [(1, .any), (4, .any)])
  | 89, 2 => ([(0, .any), (1, .any), (5, .any)], [(1, .any), (4, .any)])
  | 90, 2 => ([(0, .any), (1, .any), (5, .any)], [(1, .any), (4, .any)])
  | 91, 2 => ([(0, .any), (1, .any), (5, .any)], [(1, .any), (4, .any)])
  | 93, 6 => ([(0, .any), (1, .any), (2, .any), (7, .any), (8, .any), (9, .any), (10, .any), (11, .any)], [(0, .any), (1, .any), (6, .any), (7, .any), (10, .any)])
  | 93, 15 => ([(0, .any), (1, .any), (2, .any), (7, .any), (8, .any), (9, .any), (10, .any), (11, .any), (12, .any), (13, .any)], [(0, .any), (1, .any), (2, .any), (6, .any), (7, .any), (8, .any), (9, .any), (10, .any), (11, .any)])
  | 94, 4 => ([(1, .any), (2, .any), (7, .any), (8, .any), (9, .any)], [(6, .any), (7, .any), (9, .any)])
  | 95, 5 => ([(0, .any), (1, .any), (5, .any), (6, .any)], [(0, .any), (1, .any), (4, .any), (5, .any)])
  | 95, 12 => ([(5, .any), (7, .any), (8, .any)], [(4, .any), (5, .any), (7, .any)])
  | 98, 3 => ([(3, .any), (6, .any), (7, .any), (8, .any)], [(2, .any), (3, .any)])
  | 99, 3 => ([(1, .any), (5, .ownSlice 2), (8, .any), (9, .any), (10, .any)], [(4, .ownSlice 2), (5, .ownSlice 2)])
  | 100, 4 => ([(0, .any), (3, .any)], [(2, .any)])
  | 101, 2 => ([(0, .any), (1, .any), (7, .any), (8, .any)], [(4, .any)])
  | 104, 7 => ([(1, .any), (3, .any), (4, .any), (5, .any)], [(2, .any)])
  | 104, 12 => ([(1, .any), (3, .any), (4, .any), (5, .any), (6, .any)], [(1, .any), (2, .any), (3, .any), (4, .any), (5, .any)])
  | 105, 7 => ([(1, .any), (3, .any), (4, .any)], [(1, .any), (2, .any), (3, .any)])
  | 105, 13 => ([(1, .any), (4, .any), (5, .any), (6, .any)], [(1, .any), (2, .any), (3, .any), (4, .any), (5, .any)])
  | 109, 5 => ([(1, .any), (3, .any), (4, .any)], [(2, .any), (3, .any)])
  | 110, 6 => ([(1, .any), (2, .any), (3, .any), (4, .any)], [(1, .any), (2, .any), (3, .any)])
  | 110, 13 => ([(1, .any), (2, .any), (3, .any), (6, .any)], [(2, .any), (3, .any)])
  | 113, 5 => ([(1, .any), (2, .any), (4, .any), (5, .any), (22, .any), (23, .any), (24, .any)], [(1, .any), (2, .any), (4, .any), (5, .any)])
  | 113, 10 => ([(1, .any), (2, .any), (4, .any), (5, .any), (44, .any), (45, .any), (46, .any)], [(4, .any), (5, .any)])
  | 116, 4 => ([(0, .any), (3, .any)], [(2, .any), (3, .any)])
  | 117, 3 => ([(0, .any), (3, .any), (4, .any)], [(2, .any), (3, .any)])
  | 118, 3 => ([(0, .any), (3, .any), (6, .any), (7, .any)], [(2, .any), (3, .any)])
  | 120, 3 => ([(0, .any), (5, .any), (10, .any), (11, .any)], [(4, .any), (5, .any)])
  | 122, 5 => ([(0, .any), (3, .any), (4, .any)], [(2, .any), (3, .any)])
  | 123, 3 => ([(0, .any), (1, .any), (5, .any), (6, .any)], [(4, .ownSlice 2), (5, .any)])
  | 124, 3 => ([(0, .any), (3, .any), (4, .any)], [(2, .any), (3, .any)])
  | 128, 2 => ([(0, .any), (1, .any), (5, .any)], [(4, .any)])
  | 130, 4 => ([(0, .any), (3, .any)], [(2, .any)])
  | 136, 5 => ([(1, .any), (3, .any), (4, .any), (36, .any), (37, .any), (38, .any)], [(1, .any), (2, .any)])
  | 137, 6 => ([(1, .any), (2, .any), (5, .any), (6, .ownSlice 9), (21, .any), (22, .any), (23, .any)], [(2, .any), (4, .any), (5, .any), (6, .ownSlice 9)])
  | 141, 2 => ([(0, .any), (1, .any), (7, .any), (8, .any)], [(4, .any)])
  | 143, 4 => ([(0, .any), (1, .any), (12, .any), (13, .any)], [(4, .any)])
  | 144, 4 => ([(1, .any), (2, .any), (15, .any), (16, .any), (17, .any)], [(6, .any)])
  | 146, 4 => ([(1, .any), (2, .any), (15, .any), (16, .any), (17, .any)], [(6, .any)])
  | 149, 2 => ([(0, .any), (5, .any), (6, .any), (7, .any)], [(2, .any)])
  | 151, 2 => ([(0, .any), (1, .any), (7, .any), (8, .any)], [(4, .any)])
  | 152, 2 => ([(0, .any), (7, .any), (8, .any)], [(0, .any), (2, .any)])
  | 154, 2 => ([(0, .any), (1, .any), (7, .any), (8, .any)], [(4, .any)])
  | _, _ => ([], [])
noncomputable def FT : FuncId → Option Func := fun f => Go.Proofs.Try.prog.funcs[f]?
end Go.Proofs.Ytnlpkmkkidpfhaa.V
