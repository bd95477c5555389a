/- The tables of this translation for the plain evaluator: types, functions, the slots that live at a loop's head. No condition. -/
import Derived.Test.YtdifjmbflnkojaaProg
import Derived.Test.YtdifjmbflnkojaaV1
namespace Go.Proofs.Ytdifjmbflnkojaa.V
open Go
def tabL : List TyR := [
  ⟨.other, [], 0, false⟩,
  ⟨.func, [.func], 8, false⟩,
  ⟨.int .i64, [.int .i64], 8, false⟩,
  ⟨.int .i64, [.int .i64], 8, false⟩,
  ⟨.bool, [.bool], 1, false⟩,
  ⟨.int .u8, [.int .u8], 1, false⟩,
  ⟨.int .u8, [.int .u8], 1, false⟩,
  ⟨.struct [(0, 2), (1, 3), (2, 4), (3, 6)], [.int .i64, .int .i64, .bool, .int .u8], 24, false⟩,
  ⟨.struct [(0, 2), (1, 3), (2, 4), (3, 6)], [.int .i64, .int .i64, .bool, .int .u8], 24, false⟩,
  ⟨.str, [.str], 16, false⟩,
  ⟨.str, [.str], 16, false⟩,
  ⟨.str, [.str], 16, false⟩,
  ⟨.int .u64, [.int .u64], 8, false⟩,
  ⟨.struct [(0, 9), (1, 12)], [.str, .int .u64], 24, false⟩,
  ⟨.struct [(0, 9), (1, 12)], [.str, .int .u64], 24, false⟩,
  ⟨.ptr 160, [.ptr 160], 8, false⟩,
  ⟨.ptr 163, [.ptr 163], 8, false⟩,
  ⟨.ptr 170, [.ptr 170], 8, false⟩,
  ⟨.struct [(0, 17)], [.ptr 170], 8, false⟩,
  ⟨.struct [(0, 17)], [.ptr 170], 8, false⟩,
  ⟨.other, [], 0, false⟩,
  ⟨.int .i32, [.int .i32], 4, false⟩,
  ⟨.slice 87, [.slice 87], 24, false⟩,
  ⟨.struct [(0, 2), (1, 22), (2, 2), (3, 2), (4, 2)], [.int .i64, .slice 87, .int .i64, .int .i64, .int .i64], 56, false⟩,
  ⟨.struct [(0, 2), (1, 22), (2, 2), (3, 2), (4, 2)], [.int .i64, .slice 87, .int .i64, .int .i64, .int .i64], 56, false⟩,
  ⟨.other, [], 0, false⟩,
  ⟨.func, [.func], 8, false⟩,
  ⟨.func, [.func], 8, false⟩,
  ⟨.func, [.func], 8, false⟩,
  ⟨.func, [.func], 8, false⟩,
  ⟨.slice 82, [.slice 82], 24, false⟩,
  ⟨.func, [.func], 8, false⟩,
  ⟨.func, [.func], 8, false⟩,
  ⟨.slice 80, [.slice 80], 24, false⟩,
  ⟨.func, [.func], 8, false⟩,
  ⟨.func, [.func], 8, false⟩,
  ⟨.func, [.func], 8, false⟩,
  ⟨.slice 125, [.slice 125], 24, false⟩,
  ⟨.struct [(0, 2), (1, 37), (2, 2), (3, 2), (4, 2)], [.int .i64, .slice 125, .int .i64, .int .i64, .int .i64], 56, false⟩,
  ⟨.struct [(0, 2), (1, 37), (2, 2), (3, 2), (4, 2)], [.int .i64, .slice 125, .int .i64, .int .i64, .int .i64], 56, false⟩,
  ⟨.func, [.func], 8, false⟩,
  ⟨.func, [.func], 8, false⟩,
  ⟨.func, [.func], 8, false⟩,
  ⟨.slice 9, [.slice 9], 24, false⟩,
  ⟨.struct [(0, 43)], [.slice 9], 24, false⟩,
  ⟨.struct [(0, 43)], [.slice 9], 24, false⟩,
  ⟨.func, [.func], 8, false⟩,
  ⟨.other, [], 0, false⟩,
  ⟨.func, [.func], 8, false⟩,
  ⟨.struct [(0, 43)], [.slice 9], 24, false⟩,
  ⟨.func, [.func], 8, false⟩,
  ⟨.func, [.func], 8, false⟩,
  ⟨.func, [.func], 8, false⟩,
  ⟨.func, [.func], 8, false⟩,
  ⟨.func, [.func], 8, false⟩,
  ⟨.func, [.func], 8, false⟩,
  ⟨.func, [.func], 8, false⟩,
  ⟨.func, [.func], 8, false⟩,
  ⟨.func, [.func], 8, false⟩,
  ⟨.func, [.func], 8, false⟩,
  ⟨.func, [.func], 8, false⟩,
  ⟨.func, [.func], 8, false⟩,
  ⟨.func, [.func], 8, false⟩,
  ⟨.slice 2, [.slice 2], 24, false⟩,
  ⟨.struct [(0, 63), (1, 63)], [.slice 2, .slice 2], 48, false⟩,
  ⟨.struct [(0, 63), (1, 63)], [.slice 2, .slice 2], 48, false⟩,
  ⟨.func, [.func], 8, false⟩,
  ⟨.func, [.func], 8, false⟩,
  ⟨.struct [(0, 63), (1, 63)], [.slice 2, .slice 2], 48, false⟩,
  ⟨.func, [.func], 8, false⟩,
  ⟨.func, [.func], 8, false⟩,
  ⟨.func, [.func], 8, false⟩,
  ⟨.func, [.func], 8, false⟩,
  ⟨.slice 5, [.slice 5], 24, false⟩,
  ⟨.func, [.func], 8, false⟩,
  ⟨.func, [.func], 8, false⟩,
  ⟨.func, [.func], 8, false⟩,
  ⟨.func, [.func], 8, false⟩,
  ⟨.func, [.func], 8, false⟩,
  ⟨.struct [(0, 2), (1, 2), (2, 4)], [.int .i64, .int .i64, .bool], 24, false⟩,
  ⟨.struct [(0, 2), (1, 2), (2, 4)], [.int .i64, .int .i64, .bool], 24, false⟩,
  ⟨.func, [.func], 8, false⟩,
  ⟨.struct [(0, 2), (1, 2), (2, 4)], [.int .i64, .int .i64, .bool], 24, false⟩,
  ⟨.func, [.func], 8, false⟩,
  ⟨.func, [.func], 8, false⟩,
  ⟨.func, [.func], 8, false⟩,
  ⟨.struct [(0, 2), (1, 2), (2, 9), (3, 4)], [.int .i64, .int .i64, .str, .bool], 40, false⟩,
  ⟨.struct [(0, 2), (1, 2), (2, 9), (3, 4)], [.int .i64, .int .i64, .str, .bool], 40, true⟩,
  ⟨.func, [.func], 8, false⟩,
  ⟨.func, [.func], 8, false⟩,
  ⟨.func, [.func], 8, false⟩,
  ⟨.func, [.func], 8, false⟩,
  ⟨.func, [.func], 8, false⟩,
  ⟨.func, [.func], 8, false⟩,
  ⟨.func, [.func], 8, false⟩,
  ⟨.func, [.func], 8, false⟩,
  ⟨.ptr 24, [.ptr 24], 8, false⟩,
  ⟨.func, [.func], 8, false⟩,
  ⟨.func, [.func], 8, false⟩,
  ⟨.func, [.func], 8, false⟩,
  ⟨.func, [.func], 8, false⟩,
  ⟨.func, [.func], 8, false⟩,
  ⟨.func, [.func], 8, false⟩,
  ⟨.func, [.func], 8, false⟩,
  ⟨.func, [.func], 8, false⟩,
  ⟨.func, [.func], 8, false⟩,
  ⟨.func, [.func], 8, false⟩,
  ⟨.ptr 109, [.ptr 109], 8, false⟩,
  ⟨.struct [(0, 107), (1, 73)], [.ptr 109, .slice 5], 32, false⟩,
  ⟨.struct [(0, 107), (1, 73)], [.ptr 109, .slice 5], 32, false⟩,
  ⟨.func, [.func], 8, false⟩,
  ⟨.other, [], 0, false⟩,
  ⟨.other, [], 0, false⟩,
  ⟨.other, [], 0, false⟩,
  ⟨.func, [.func], 8, false⟩,
  ⟨.func, [.func], 8, false⟩,
  ⟨.ptr 143, [.ptr 143], 8, false⟩,
  ⟨.func, [.func], 8, false⟩,
  ⟨.func, [.func], 8, false⟩,
  ⟨.func, [.func], 8, false⟩,
  ⟨.func, [.func], 8, false⟩,
  ⟨.int .u64, [.int .u64], 8, false⟩,
  ⟨.func, [.func], 8, false⟩,
  ⟨.func, [.func], 8, false⟩,
  ⟨.func, [.func], 8, false⟩,
  ⟨.struct [(0, 2), (1, 2), (2, 9), (3, 4)], [.int .i64, .int .i64, .str, .bool], 40, false⟩,
  ⟨.func, [.func], 8, false⟩,
  ⟨.func, [.func], 8, false⟩,
  ⟨.func, [.func], 8, false⟩,
  ⟨.other, [], 0, false⟩,
  ⟨.func, [.func], 8, false⟩,
  ⟨.func, [.func], 8, false⟩,
  ⟨.func, [.func], 8, false⟩,
  ⟨.func, [.func], 8, false⟩,
  ⟨.func, [.func], 8, false⟩,
  ⟨.int .u64, [.int .u64], 8, false⟩,
  ⟨.func, [.func], 8, false⟩,
  ⟨.other, [], 0, false⟩,
  ⟨.func, [.func], 8, false⟩,
  ⟨.func, [.func], 8, false⟩,
  ⟨.func, [.func], 8, false⟩,
  ⟨.ptr 5, [.ptr 5], 8, false⟩,
  ⟨.struct [(0, 73), (1, 3), (2, 135)], [.slice 5, .int .i64, .int .u64], 40, false⟩,
  ⟨.struct [(0, 73), (1, 3), (2, 135)], [.slice 5, .int .i64, .int .u64], 40, false⟩,
  ⟨.func, [.func], 8, false⟩,
  ⟨.func, [.func], 8, false⟩,
  ⟨.func, [.func], 8, false⟩,
  ⟨.func, [.func], 8, false⟩,
  ⟨.func, [.func], 8, false⟩,
  ⟨.func, [.func], 8, false⟩,
  ⟨.func, [.func], 8, false⟩,
  ⟨.other, [], 0, false⟩,
  ⟨.func, [.func], 8, false⟩,
  ⟨.int .u32, [.int .u32], 4, false⟩,
  ⟨.other, [], 0, false⟩,
  ⟨.func, [.func], 8, false⟩,
  ⟨.other, [], 0, false⟩,
  ⟨.func, [.func], 8, false⟩,
  ⟨.func, [.func], 8, false⟩,
  ⟨.struct [(0, 17), (1, 17), (2, 17), (3, 9)], [.ptr 170, .ptr 170, .ptr 170, .str], 40, false⟩,
  ⟨.struct [(0, 17), (1, 17), (2, 17), (3, 9)], [.ptr 170, .ptr 170, .ptr 170, .str], 40, false⟩,
  ⟨.other, [], 0, false⟩,
  ⟨.other, [], 0, false⟩,
  ⟨.other, [], 0, false⟩,
  ⟨.int .u8, [.int .u8], 1, false⟩,
  ⟨.int .u8, [.int .u8], 1, false⟩,
  ⟨.func, [.func], 8, false⟩,
  ⟨.int .i32, [.int .i32], 4, false⟩,
  ⟨.int .i32, [.int .i32], 4, false⟩,
  ⟨.other, [], 0, false⟩,
  ⟨.other, [], 0, false⟩]
def tab : Tab := fun t => tabL.getD t ⟨.other, [], 0, false⟩
def live : FuncId → Nat → Live × Live
  | 14, 9 => ([(4, .any), (7, .any)], [(2, .any)])
  | 22, 3 => ([(0, .any), (3, .any), (4, .any)], [(2, .ownSlice 80), (3, .any)])
  | 24, 4 => ([(0, .any), (1, .any), (5, .any)], [(4, .any)])
  | 26, 4 => ([(2, .any), (3, .any), (5, .any)], [(4, .any)])
  | 41, 4 => ([(1, .any), (29, .any), (30, .any), (31, .any)], [(2, .any)])
  | 42, 5 => ([(0, .any), (3, .any), (4, .any)], [(2, .any), (3, .any)])
  | 45, 5 => ([(1, .any), (3, .any), (4, .any)], [(2, .any), (3, .any)])
  | 49, 3 => ([(0, .any), (4, .any), (5, .any)], [(0, .any), (2, .any), (3, .any), (4, .any)])
  | 49, 8 => ([(0, .any), (4, .any), (5, .any), (6, .any)], [(0, .any), (2, .any), (3, .any), (4, .any), (5, .any)])
  | 50, 5 => ([(0, .any), (4, .any), (5, .any)], [(2, .any), (3, .any), (4, .any)])
  | 55, 4 => ([(0, .any), (1, .any), (5, .any)], [(4, .any)])
  | 56, 2 => ([(0, .any), (1, .any), (5, .any)], [(1, .any), (4, .any)])
  | 57, 2 => ([(0, .any), (1, .any), (5, .any)], [(1, .any), (4, .any)])
  | 58, 4 => ([(0, .any), (1, .any), (5, .any)], [(4, .any)])
  | 61, 3 => ([(1, .any), (5, .any), (8, .any), (9, .any), (10, .any)], [(1, .any), (4, .any), (5, .any)])
  | 63, 5 => ([(0, .any), (1, .any), (5, .any)], [(1, .any), (4, .any)])
  | 64, 3 => ([(0, .any), (3, .any), (4, .any)], [(2, .ownSlice 87), (3, .any)])
  | 65, 4 => ([(0, .any), (1, .any), (12, .any), (13, .any)], [(4, .any)])
  | 66, 5 => ([(0, .any), (1, .any), (5, .any)], [(1, .any), (4, .any)])
  | 67, 5 => ([(1, .any), (3, .any), (4, .any)], [(2, .any)])
  | 68, 3 => ([(0, .any), (3, .any), (4, .any)], [(2, .ownSlice 9), (3, .any)])
  | 71, 4 => ([(0, .any), (1, .any), (5, .any)], [(4, .any)])
  | 72, 4 => ([(0, .any), (3, .any), (4, .any), (5, .any)], [(0, .any), (2, .any), (3, .any), (4, .any)])
  | 73, 4 => ([(0, .any), (3, .any), (4, .any), (5, .any)], [(0, .any), (2, .any), (3, .any), (4, .any)])
  | 74, 2 => ([(1, .any), (2, .any), (5, .any)], [(4, .any)])
  | 75, 2 => ([(0, .any), (1, .any), (7, .any), (8, .any)], [(4, .any)])
  | 76, 3 => ([(1, .any), (3, .any), (4, .any)], [(2, .any), (3, .any)])
  | 77, 3 => ([(1, .any), (3, .any), (11, .any), (12, .any), (13, .any)], [(2, .any), (3, .any)])
  | 78, 4 => ([(0, .any), (3, .any)], [(2, .any)])
  | 78, 10 => ([(0, .any), (3, .any), (4, .any), (5, .any)], [(0, .any), (2, .any), (3, .any)])
  | 84, 2 => ([(0, .any), (3, .any)], [(0, .any), (2, .any)])
  | 87, 3 => ([(3, .any), (9, .any), (10, .any), (11, .any)], [(2, .any), (3, .any)])
  | 89, 4 => ([(1, .any), (3, .any)], [(2, .any)])
  | 90, 3 => ([(0, .any), (3, .any), (4, .any)], [(2, .ownSlice 2), (3, .any)])
  | 91, 4 => ([(1, .any), (19, .any), (20, .any), (21, .any)], [(2, .any)])
  | 92, 3 => ([(1, .any), (3, .any), (11, .any), (12, .any), (13, .any)], [(2, .any), (3, .any)])
  | 93, 4 => ([(0, .any), (1, .any), (5, .any)], [(4, .any)])
  | 96, 38 => ([(7, .any), (8, .any), (9, .any)], [(4, .any), (9, .any)])
  | 99, 3 => ([(0, .any), (3, .any), (4, .any)], [(0, .any), (2, .any), (3, .any)])
  | 99, 14 => ([(0, .any), (3, .any), (4, .any), (5, .any), (6, .any)], [(0, .any), (2, .any), (3, .any), (4, .any)])
  | 99, 20 => ([(0, .any), (3, .any), (4, .any), (7, .any), (8, .any)], [(0, .any), (2, .any), (3, .any), (4, .any)])
  | 100, 3 => ([(0, .any), (3, .ownSlice 5), (4, .any)], [(2, .any), (3, .ownSlice 5)])
  | 100, 5 => ([(0, .any), (3, .ownSlice 5), (4, .any), (5, .any)], [(0, .any), (2, .any), (3, .ownSlice 5), (4, .any), (5, .any)])
  | 102, 4 => ([(0, .any), (3, .any)], [(2, .any), (3, .any)])
  | 108, 4 => ([(0, .any), (3, .any)], [(2, .any)])
  | 111, 2 => ([(0, .any), (7, .any), (8, .any)], [(0, .any), (2, .any)])
  | 113, 4 => ([(0, .any), (1, .any), (6, .any), (7, .any), (8, .any)], [(4, .any), (5, .any), (6, .any), (7, .any)])
  | 113, 7 => ([(0, .any), (1, .any), (6, .any), (7, .any), (8, .any), (9, .any)], [(0, .any), (1, .any), (4, .any), (5, .any), (6, .any), (7, .any), (8, .any), (9, .any)])
  | 114, 1 => ([(0, .any), (1, .any)], [(0, .any), (4, .ownSlice 5)])
  | 115, 3 => ([(0, .any), (1, .any), (6, .any), (7, .any), (8, .any)], [(4, .any), (5, .any), (6, .any), (7, .any)])
  | 115, 6 => ([(0, .any), (1, .any), (6, .any), (7, .any), (8, .any), (9, .any)], [(0, .any), (1, .any), (4, .any), (5, .any), (6, .any), (7, .any), (8, .any), (9, .any)])
  | 116, 2 => ([(0, .any), (3, .any)], [(2, .any), (3, .any)])
  | 117, 3 => ([(0, .any), (5, .any), (10, .any), (11, .any)], [(4, .any), (5, .any)])
  | 122, 2 => ([(0, .any), (1, .any), (7, .any), (8, .any)], [(4, .any)])
  | 124, 3 => ([(0, .any), (1, .any), (5, .any), (6, .any)], [(4, .any), (5, .any)])
  | 126, 5 => ([(0, .any), (3, .any), (4, .any)], [(2, .any), (3, .any)])
  | 133, 3 => ([(0, .any), (5, .any), (6, .any)], [(4, .any), (5, .any)])
  | 136, 2 => ([(0, .any), (1, .any), (7, .any), (8, .any)], [(4, .any)])
  | 139, 2 => ([(0, .any), (1, .any), (7, .any), (8, .any)], [(4, .any)])
  | 140, 2 => ([(0, .any), (1, .any), (7, .any), (8, .any)], [(4, .any)])
  | 141, 3 => ([(3, .any), (6, .any), (7, .any), (8, .any)], [(2, .any), (3, .any)])
  | _, _ => ([], [])
noncomputable def FT : FuncId → Option Func := fun f => Go.Proofs.Try.prog.funcs[f]?
end Go.Proofs.Ytdifjmbflnkojaa.V
