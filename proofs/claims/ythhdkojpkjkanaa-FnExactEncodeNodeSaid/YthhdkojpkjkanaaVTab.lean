/- The tables of this translation for the plain evaluator: types, functions, the slots that live at a loop's head. No condition. -/
import Derived.Test.YthhdkojpkjkanaaProg
import Derived.Test.YthhdkojpkjkanaaV21
namespace Go.Proofs.Ythhdkojpkjkanaa.V
open Go
def tabL : List TyR := [
  ⟨.other, [], 0, false⟩,
  ⟨.func, [.func], 8, false⟩,
  ⟨.int .i64, [.int .i64], 8, false⟩,
  ⟨.int .i64, [.int .i64], 8, false⟩,
  ⟨.bool, [.bool], 1, false⟩,
  ⟨.int .u8, [.int .u8], 1, false⟩,
  ⟨.int .u8, [.int .u8], 1, false⟩,
  ⟨.struct [(0, 2), (1, 3), (2, 4), (3, 6)], [.int .i64, .int .i64, .bool, .int .u8], 24, false⟩,
  ⟨.struct [(0, 2), (1, 3), (2, 4), (3, 6)], [.int .i64, .int .i64, .bool, .int .u8], 24, false⟩,
  ⟨.str, [.str], 16, false⟩,
  ⟨.str, [.str], 16, false⟩,
  ⟨.str, [.str], 16, false⟩,
  ⟨.int .u64, [.int .u64], 8, false⟩,
  ⟨.struct [(0, 9), (1, 12)], [.str, .int .u64], 24, false⟩,
  ⟨.struct [(0, 9), (1, 12)], [.str, .int .u64], 24, false⟩,
  ⟨.ptr 191, [.ptr 191], 8, false⟩,
  ⟨.ptr 194, [.ptr 194], 8, false⟩,
  ⟨.ptr 201, [.ptr 201], 8, false⟩,
  ⟨.struct [(0, 17)], [.ptr 201], 8, false⟩,
  ⟨.struct [(0, 17)], [.ptr 201], 8, false⟩,
  ⟨.other, [], 0, false⟩,
  ⟨.int .i32, [.int .i32], 4, false⟩,
  ⟨.slice 122, [.slice 122], 24, false⟩,
  ⟨.struct [(0, 2), (1, 2), (2, 22)], [.int .i64, .int .i64, .slice 122], 40, false⟩,
  ⟨.struct [(0, 2), (1, 2), (2, 22)], [.int .i64, .int .i64, .slice 122], 40, false⟩,
  ⟨.func, [.func], 8, false⟩,
  ⟨.func, [.func], 8, false⟩,
  ⟨.slice 124, [.slice 124], 24, false⟩,
  ⟨.struct [(0, 2), (1, 2), (2, 27)], [.int .i64, .int .i64, .slice 124], 40, false⟩,
  ⟨.struct [(0, 2), (1, 2), (2, 27)], [.int .i64, .int .i64, .slice 124], 40, false⟩,
  ⟨.func, [.func], 8, false⟩,
  ⟨.func, [.func], 8, false⟩,
  ⟨.func, [.func], 8, false⟩,
  ⟨.slice 9, [.slice 9], 24, false⟩,
  ⟨.struct [(0, 33)], [.slice 9], 24, false⟩,
  ⟨.struct [(0, 33)], [.slice 9], 24, false⟩,
  ⟨.func, [.func], 8, false⟩,
  ⟨.struct [(0, 33)], [.slice 9], 24, false⟩,
  ⟨.other, [], 0, false⟩,
  ⟨.func, [.func], 8, false⟩,
  ⟨.func, [.func], 8, false⟩,
  ⟨.func, [.func], 8, false⟩,
  ⟨.func, [.func], 8, false⟩,
  ⟨.func, [.func], 8, false⟩,
  ⟨.struct [(0, 2), (1, 2), (2, 2), (3, 2)], [.int .i64, .int .i64, .int .i64, .int .i64], 32, false⟩,
  ⟨.struct [(0, 2), (1, 2), (2, 2), (3, 2)], [.int .i64, .int .i64, .int .i64, .int .i64], 32, false⟩,
  ⟨.func, [.func], 8, false⟩,
  ⟨.struct [(0, 2), (1, 2), (2, 2), (3, 2)], [.int .i64, .int .i64, .int .i64, .int .i64], 32, false⟩,
  ⟨.func, [.func], 8, false⟩,
  ⟨.func, [.func], 8, false⟩,
  ⟨.slice 146, [.slice 146], 24, false⟩,
  ⟨.struct [(0, 2), (1, 50), (2, 2), (3, 2), (4, 2)], [.int .i64, .slice 146, .int .i64, .int .i64, .int .i64], 56, false⟩,
  ⟨.struct [(0, 2), (1, 50), (2, 2), (3, 2), (4, 2)], [.int .i64, .slice 146, .int .i64, .int .i64, .int .i64], 56, false⟩,
  ⟨.func, [.func], 8, false⟩,
  ⟨.slice 101, [.slice 101], 24, false⟩,
  ⟨.struct [(0, 2), (1, 54), (2, 2), (3, 2), (4, 2)], [.int .i64, .slice 101, .int .i64, .int .i64, .int .i64], 56, false⟩,
  ⟨.struct [(0, 2), (1, 54), (2, 2), (3, 2), (4, 2)], [.int .i64, .slice 101, .int .i64, .int .i64, .int .i64], 56, false⟩,
  ⟨.other, [], 0, false⟩,
  ⟨.func, [.func], 8, false⟩,
  ⟨.func, [.func], 8, false⟩,
  ⟨.func, [.func], 8, false⟩,
  ⟨.func, [.func], 8, false⟩,
  ⟨.func, [.func], 8, false⟩,
  ⟨.slice 156, [.slice 156], 24, false⟩,
  ⟨.struct [(0, 33), (1, 63), (2, 2), (3, 4)], [.slice 9, .slice 156, .int .i64, .bool], 64, false⟩,
  ⟨.struct [(0, 33), (1, 63), (2, 2), (3, 4)], [.slice 9, .slice 156, .int .i64, .bool], 64, false⟩,
  ⟨.other, [], 0, false⟩,
  ⟨.func, [.func], 8, false⟩,
  ⟨.func, [.func], 8, false⟩,
  ⟨.func, [.func], 8, false⟩,
  ⟨.func, [.func], 8, false⟩,
  ⟨.slice 161, [.slice 161], 24, false⟩,
  ⟨.slice 2, [.slice 2], 24, false⟩,
  ⟨.struct [(0, 4), (1, 71), (2, 72), (3, 72)], [.bool, .slice 161, .slice 2, .slice 2], 80, false⟩,
  ⟨.struct [(0, 4), (1, 71), (2, 72), (3, 72)], [.bool, .slice 161, .slice 2, .slice 2], 80, false⟩,
  ⟨.func, [.func], 8, false⟩,
  ⟨.func, [.func], 8, false⟩,
  ⟨.slice 159, [.slice 159], 24, false⟩,
  ⟨.struct [(0, 4), (1, 77), (2, 72), (3, 72)], [.bool, .slice 159, .slice 2, .slice 2], 80, false⟩,
  ⟨.struct [(0, 4), (1, 77), (2, 72), (3, 72)], [.bool, .slice 159, .slice 2, .slice 2], 80, false⟩,
  ⟨.func, [.func], 8, false⟩,
  ⟨.func, [.func], 8, false⟩,
  ⟨.func, [.func], 8, false⟩,
  ⟨.func, [.func], 8, false⟩,
  ⟨.func, [.func], 8, false⟩,
  ⟨.func, [.func], 8, false⟩,
  ⟨.func, [.func], 8, false⟩,
  ⟨.func, [.func], 8, false⟩,
  ⟨.func, [.func], 8, false⟩,
  ⟨.func, [.func], 8, false⟩,
  ⟨.func, [.func], 8, false⟩,
  ⟨.func, [.func], 8, false⟩,
  ⟨.func, [.func], 8, false⟩,
  ⟨.func, [.func], 8, false⟩,
  ⟨.func, [.func], 8, false⟩,
  ⟨.func, [.func], 8, false⟩,
  ⟨.func, [.func], 8, false⟩,
  ⟨.func, [.func], 8, false⟩,
  ⟨.func, [.func], 8, false⟩,
  ⟨.ptr 56, [.ptr 56], 8, false⟩,
  ⟨.struct [(0, 2), (1, 2), (2, 9), (3, 4)], [.int .i64, .int .i64, .str, .bool], 40, false⟩,
  ⟨.struct [(0, 2), (1, 2), (2, 9), (3, 4)], [.int .i64, .int .i64, .str, .bool], 40, false⟩,
  ⟨.func, [.func], 8, false⟩,
  ⟨.func, [.func], 8, false⟩,
  ⟨.func, [.func], 8, false⟩,
  ⟨.func, [.func], 8, false⟩,
  ⟨.func, [.func], 8, false⟩,
  ⟨.func, [.func], 8, false⟩,
  ⟨.func, [.func], 8, false⟩,
  ⟨.func, [.func], 8, false⟩,
  ⟨.func, [.func], 8, false⟩,
  ⟨.func, [.func], 8, false⟩,
  ⟨.func, [.func], 8, false⟩,
  ⟨.func, [.func], 8, false⟩,
  ⟨.func, [.func], 8, false⟩,
  ⟨.func, [.func], 8, false⟩,
  ⟨.func, [.func], 8, false⟩,
  ⟨.func, [.func], 8, false⟩,
  ⟨.func, [.func], 8, false⟩,
  ⟨.func, [.func], 8, false⟩,
  ⟨.func, [.func], 8, false⟩,
  ⟨.struct [(0, 2), (1, 2), (2, 9)], [.int .i64, .int .i64, .str], 32, false⟩,
  ⟨.struct [(0, 2), (1, 2), (2, 9)], [.int .i64, .int .i64, .str], 32, false⟩,
  ⟨.func, [.func], 8, false⟩,
  ⟨.struct [(0, 2), (1, 2), (2, 9)], [.int .i64, .int .i64, .str], 32, false⟩,
  ⟨.func, [.func], 8, false⟩,
  ⟨.func, [.func], 8, false⟩,
  ⟨.func, [.func], 8, false⟩,
  ⟨.func, [.func], 8, false⟩,
  ⟨.func, [.func], 8, false⟩,
  ⟨.ptr 133, [.ptr 133], 8, false⟩,
  ⟨.slice 5, [.slice 5], 24, false⟩,
  ⟨.struct [(0, 130), (1, 131)], [.ptr 133, .slice 5], 32, false⟩,
  ⟨.bld 5, [], 0, false⟩,
  ⟨.other, [], 0, false⟩,
  ⟨.other, [], 0, false⟩,
  ⟨.other, [], 0, false⟩,
  ⟨.func, [.func], 8, false⟩,
  ⟨.func, [.func], 8, false⟩,
  ⟨.func, [.func], 8, false⟩,
  ⟨.func, [.func], 8, false⟩,
  ⟨.func, [.func], 8, false⟩,
  ⟨.func, [.func], 8, false⟩,
  ⟨.func, [.func], 8, false⟩,
  ⟨.func, [.func], 8, false⟩,
  ⟨.func, [.func], 8, false⟩,
  ⟨.struct [(0, 2), (1, 2), (2, 9), (3, 4)], [.int .i64, .int .i64, .str, .bool], 40, false⟩,
  ⟨.func, [.func], 8, false⟩,
  ⟨.func, [.func], 8, false⟩,
  ⟨.func, [.func], 8, false⟩,
  ⟨.func, [.func], 8, false⟩,
  ⟨.func, [.func], 8, false⟩,
  ⟨.func, [.func], 8, false⟩,
  ⟨.func, [.func], 8, false⟩,
  ⟨.func, [.func], 8, false⟩,
  ⟨.struct [(0, 2), (1, 9)], [.int .i64, .str], 24, false⟩,
  ⟨.struct [(0, 2), (1, 9)], [.int .i64, .str], 24, false⟩,
  ⟨.func, [.func], 8, false⟩,
  ⟨.struct [(0, 2), (1, 2), (2, 2), (3, 2)], [.int .i64, .int .i64, .int .i64, .int .i64], 32, false⟩,
  ⟨.struct [(0, 2), (1, 2), (2, 2), (3, 2)], [.int .i64, .int .i64, .int .i64, .int .i64], 32, false⟩,
  ⟨.func, [.func], 8, false⟩,
  ⟨.struct [(0, 2), (1, 2), (2, 2), (3, 2)], [.int .i64, .int .i64, .int .i64, .int .i64], 32, false⟩,
  ⟨.func, [.func], 8, false⟩,
  ⟨.func, [.func], 8, false⟩,
  ⟨.func, [.func], 8, false⟩,
  ⟨.func, [.func], 8, false⟩,
  ⟨.func, [.func], 8, false⟩,
  ⟨.int .u64, [.int .u64], 8, false⟩,
  ⟨.func, [.func], 8, false⟩,
  ⟨.ptr 5, [.ptr 5], 8, false⟩,
  ⟨.func, [.func], 8, false⟩,
  ⟨.int .u64, [.int .u64], 8, false⟩,
  ⟨.func, [.func], 8, false⟩,
  ⟨.func, [.func], 8, false⟩,
  ⟨.other, [], 0, false⟩,
  ⟨.func, [.func], 8, false⟩,
  ⟨.func, [.func], 8, false⟩,
  ⟨.func, [.func], 8, false⟩,
  ⟨.other, [], 0, false⟩,
  ⟨.func, [.func], 8, false⟩,
  ⟨.func, [.func], 8, false⟩,
  ⟨.int .u32, [.int .u32], 4, false⟩,
  ⟨.other, [], 0, false⟩,
  ⟨.func, [.func], 8, false⟩,
  ⟨.other, [], 0, false⟩,
  ⟨.func, [.func], 8, false⟩,
  ⟨.func, [.func], 8, false⟩,
  ⟨.func, [.func], 8, false⟩,
  ⟨.func, [.func], 8, false⟩,
  ⟨.func, [.func], 8, false⟩,
  ⟨.struct [(0, 17), (1, 17), (2, 17), (3, 9)], [.ptr 201, .ptr 201, .ptr 201, .str], 40, false⟩,
  ⟨.struct [(0, 17), (1, 17), (2, 17), (3, 9)], [.ptr 201, .ptr 201, .ptr 201, .str], 40, false⟩,
  ⟨.other, [], 0, false⟩,
  ⟨.other, [], 0, false⟩,
  ⟨.other, [], 0, false⟩,
  ⟨.int .u8, [.int .u8], 1, false⟩,
  ⟨.int .u8, [.int .u8], 1, false⟩,
  ⟨.func, [.func], 8, false⟩,
  ⟨.int .i32, [.int .i32], 4, false⟩,
  ⟨.int .i32, [.int .i32], 4, false⟩,
  ⟨.other, [], 0, false⟩,
  ⟨.other, [], 0, false⟩]
def methL : List (Nat × Nat) := [(19, 0), (29, 0), (34, 0), (58, 0), (72, 0), (77, 0), (98, 1), (100, 2), (149, 3)]
def tab : Tab := mkTab tabL methL
def live : FuncId → Nat → Live × Live
  | 25, 6 => ([(1, .any), (2, .any), (4, .any), (6, .any), (7, .any)], [(4, .any), (5, .any), (6, .any)])
  | 41, 5 => ([(0, .any), (1, .any), (5, .any)], [(1, .any), (4, .any)])
  | 42, 4 => ([(1, .any), (3, .any)], [(2, .any)])
  | 43, 3 => ([(1, .any), (3, .any), (4, .any)], [(2, .any), (3, .any)])
  | 44, 3 => ([(0, .any), (3, .any), (4, .any)], [(2, .ownSlice 124), (3, .any)])
  | 46, 4 => ([(1, .any), (3, .any), (20, .any), (21, .any), (22, .any)], [(2, .any), (3, .any)])
  | 47, 4 => ([(0, .any), (1, .any), (5, .any)], [(4, .any)])
  | 48, 5 => ([(0, .any), (1, .any), (5, .any)], [(1, .any), (4, .any)])
  | 49, 5 => ([(1, .any), (3, .any), (4, .any)], [(2, .any)])
  | 50, 4 => ([(0, .any), (3, .any)], [(2, .any)])
  | 52, 2 => ([(1, .any), (2, .any), (5, .any)], [(4, .any)])
  | 53, 3 => ([(0, .any), (3, .any), (4, .any)], [(2, .ownSlice 9), (3, .any)])
  | 55, 2 => ([(0, .any), (7, .any), (8, .any)], [(0, .any), (2, .any)])
  | 57, 4 => ([(0, .any), (1, .any), (5, .any)], [(4, .any)])
  | 58, 2 => ([(0, .any), (1, .any), (5, .any), (1000000, .any)], [(1, .any), (4, .any), (1000000, .any)])
  | 59, 2 => ([(0, .any), (1, .any), (5, .any)], [(1, .any), (4, .any)])
  | 64, 5 => ([(0, .any), (1, .any), (5, .any)], [(1, .any), (4, .any)])
  | 65, 4 => ([(0, .any), (3, .any)], [(2, .any)])
  | 65, 10 => ([(0, .any), (3, .any), (4, .any), (5, .any)], [(0, .any), (2, .any), (3, .any)])
  | 66, 3 => ([(0, .any), (3, .any), (4, .any)], [(2, .ownSlice 101), (3, .any)])
  | 67, 4 => ([(1, .any), (29, .any), (30, .any), (31, .any)], [(2, .any)])
  | 68, 5 => ([(0, .any), (1, .any), (5, .any), (6, .any)], [(0, .any), (4, .ownSlice 101), (5, .any)])
  | 71, 4 => ([(0, .any), (1, .any), (5, .any)], [(4, .any)])
  | 72, 2 => ([(0, .any), (1, .any), (5, .any), (1000000, .any)], [(1, .any), (4, .any), (1000000, .any)])
  | 73, 2 => ([(0, .any), (1, .any), (5, .any)], [(1, .any), (4, .any)])
  | 76, 4 => ([(0, .any), (1, .any), (5, .any)], [(4, .any)])
  | 77, 2 => ([(0, .any), (1, .any), (5, .any), (1000000, .any)], [(1, .any), (4, .any), (1000000, .any)])
  | 78, 2 => ([(0, .any), (1, .any), (5, .any)], [(1, .any), (4, .any)])
  | 81, 3 => ([(1, .any), (3, .any)], [(1, .any), (2, .any)])
  | 81, 11 => ([(1, .any), (4, .any)], [(2, .any)])
  | 82, 5 => ([(1, .any), (3, .any), (4, .any)], [(2, .any), (3, .any)])
  | 82, 12 => ([(1, .any), (3, .any), (6, .any)], [(1, .any), (2, .any), (3, .any)])
  | 82, 16 => ([(1, .any), (3, .any), (7, .any)], [(2, .any), (3, .any)])
  | 83, 3 => ([(0, .any), (3, .any), (4, .any)], [(2, .ownSlice 159), (3, .any)])
  | 84, 3 => ([(0, .any), (3, .any), (4, .any)], [(2, .ownSlice 2), (3, .any)])
  | 86, 5 => ([(1, .any), (3, .any), (31, .any), (32, .any), (33, .any)], [(2, .any), (3, .any)])
  | 87, 4 => ([(0, .any), (1, .any), (5, .any)], [(4, .any)])
  | 88, 4 => ([(0, .any), (1, .any), (5, .any)], [(4, .any)])
  | 92, 3 => ([(0, .any), (1, .any), (2, .any), (7, .any), (8, .any)], [(6, .any), (7, .any)])
  | 99, 3 => ([(0, .any), (5, .any), (10, .any), (11, .any)], [(4, .any), (5, .any)])
  | 106, 2 => ([(0, .any), (1, .any), (7, .any), (8, .any)], [(4, .any)])
  | 107, 4 => ([(0, .any), (3, .any)], [(2, .any), (3, .any)])
  | 108, 3 => ([(0, .any), (1, .any), (5, .any), (6, .any)], [(4, .any), (5, .any)])
  | 118, 2 => ([(0, .any), (1, .any), (7, .any), (8, .any)], [(4, .any)])
  | 120, 3 => ([(0, .any), (2, .any), (3, .any), (4, .any)], [(2, .any), (3, .any)])
  | 121, 8 => ([(7, .any), (8, .any)], [(4, .ownSlice 9), (7, .any)])
  | 125, 2 => ([(0, .any), (1, .any), (2, .any), (7, .any)], [(6, .any)])
  | 127, 2 => ([(0, .any), (3, .any)], [(2, .any)])
  | 128, 3 => ([(3, .ownSlice 2), (6, .any), (7, .any), (8, .any)], [(2, .ownSlice 2), (3, .ownSlice 2)])
  | 132, 3 => ([(3, .any), (6, .any), (7, .any), (8, .any)], [(2, .any), (3, .any)])
  | 134, 2 => ([(0, .any), (1, .any), (7, .any), (8, .any)], [(4, .any)])
  | 136, 2 => ([(0, .any), (1, .any), (7, .any), (8, .any)], [(4, .any)])
  | 141, 38 => ([(7, .any), (8, .any), (9, .any)], [(4, .any), (9, .any)])
  | 142, 2 => ([(0, .any), (1, .any), (7, .any), (8, .any)], [(4, .any)])
  | 144, 2 => ([(0, .any), (1, .any), (7, .any), (8, .any)], [(4, .any)])
  | _, _ => ([], [])
noncomputable def FT : FuncId → Option Func := fun f => Go.Proofs.Try.prog.funcs[f]?
end Go.Proofs.Ythhdkojpkjkanaa.V
