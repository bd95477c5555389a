/- The tables of this translation for the plain evaluator: types, functions, the slots that live at a loop's head. No condition. -/
import Derived.Test.YtlhikjmdheikkaaProg
import Derived.Test.YtlhikjmdheikkaaV21
namespace Go.Proofs.Ytlhikjmdheikkaa.V
open Go
def tabL : List TyR := [
  ⟨.other, [], 0, false⟩,
  ⟨.func, [.func], 8, false⟩,
  ⟨.int .i64, [.int .i64], 8, false⟩,
  ⟨.int .i64, [.int .i64], 8, false⟩,
  ⟨.bool, [.bool], 1, false⟩,
  ⟨.int .u8, [.int .u8], 1, false⟩,
  ⟨.int .u8, [.int .u8], 1, false⟩,
  ⟨.struct [(0, 2), (1, 3), (2, 4), (3, 6)], [.int .i64, .int .i64, .bool, .int .u8], 24, false⟩,
  ⟨.struct [(0, 2), (1, 3), (2, 4), (3, 6)], [.int .i64, .int .i64, .bool, .int .u8], 24, false⟩,
  ⟨.str, [.str], 16, false⟩,
  ⟨.str, [.str], 16, false⟩,
  ⟨.str, [.str], 16, false⟩,
  ⟨.int .u64, [.int .u64], 8, false⟩,
  ⟨.struct [(0, 9), (1, 12)], [.str, .int .u64], 24, false⟩,
  ⟨.struct [(0, 9), (1, 12)], [.str, .int .u64], 24, false⟩,
  ⟨.ptr 137, [.ptr 137], 8, false⟩,
  ⟨.ptr 140, [.ptr 140], 8, false⟩,
  ⟨.ptr 147, [.ptr 147], 8, false⟩,
  ⟨.struct [(0, 17)], [.ptr 147], 8, false⟩,
  ⟨.struct [(0, 17)], [.ptr 147], 8, false⟩,
  ⟨.other, [], 0, false⟩,
  ⟨.int .i32, [.int .i32], 4, false⟩,
  ⟨.slice 9, [.slice 9], 24, false⟩,
  ⟨.slice 2, [.slice 2], 24, false⟩,
  ⟨.slice 75, [.slice 75], 24, false⟩,
  ⟨.slice 27, [.slice 27], 24, false⟩,
  ⟨.struct [(0, 2), (1, 2), (2, 4), (3, 4), (4, 22), (5, 23), (6, 24), (7, 25), (8, 2)], [.int .i64, .int .i64, .bool, .bool, .slice 9, .slice 2, .slice 75, .slice 27, .int .i64], 128, false⟩,
  ⟨.struct [(0, 2), (1, 2), (2, 4), (3, 4), (4, 22), (5, 23), (6, 24), (7, 25), (8, 2)], [.int .i64, .int .i64, .bool, .bool, .slice 9, .slice 2, .slice 75, .slice 27, .int .i64], 128, false⟩,
  ⟨.func, [.func], 8, false⟩,
  ⟨.func, [.func], 8, false⟩,
  ⟨.slice 78, [.slice 78], 24, false⟩,
  ⟨.slice 33, [.slice 33], 24, false⟩,
  ⟨.struct [(0, 2), (1, 2), (2, 4), (3, 4), (4, 22), (5, 23), (6, 30), (7, 31), (8, 2)], [.int .i64, .int .i64, .bool, .bool, .slice 9, .slice 2, .slice 78, .slice 33, .int .i64], 128, false⟩,
  ⟨.struct [(0, 2), (1, 2), (2, 4), (3, 4), (4, 22), (5, 23), (6, 30), (7, 31), (8, 2)], [.int .i64, .int .i64, .bool, .bool, .slice 9, .slice 2, .slice 78, .slice 33, .int .i64], 128, false⟩,
  ⟨.func, [.func], 8, false⟩,
  ⟨.func, [.func], 8, false⟩,
  ⟨.func, [.func], 8, false⟩,
  ⟨.func, [.func], 8, false⟩,
  ⟨.other, [], 0, false⟩,
  ⟨.func, [.func], 8, false⟩,
  ⟨.func, [.func], 8, false⟩,
  ⟨.other, [], 0, false⟩,
  ⟨.func, [.func], 8, false⟩,
  ⟨.func, [.func], 8, false⟩,
  ⟨.func, [.func], 8, false⟩,
  ⟨.other, [], 0, false⟩,
  ⟨.func, [.func], 8, false⟩,
  ⟨.func, [.func], 8, false⟩,
  ⟨.func, [.func], 8, false⟩,
  ⟨.func, [.func], 8, false⟩,
  ⟨.func, [.func], 8, false⟩,
  ⟨.func, [.func], 8, false⟩,
  ⟨.func, [.func], 8, false⟩,
  ⟨.func, [.func], 8, false⟩,
  ⟨.func, [.func], 8, false⟩,
  ⟨.func, [.func], 8, false⟩,
  ⟨.func, [.func], 8, false⟩,
  ⟨.func, [.func], 8, false⟩,
  ⟨.func, [.func], 8, false⟩,
  ⟨.func, [.func], 8, false⟩,
  ⟨.func, [.func], 8, false⟩,
  ⟨.other, [], 0, false⟩,
  ⟨.func, [.func], 8, false⟩,
  ⟨.other, [], 0, false⟩,
  ⟨.func, [.func], 8, false⟩,
  ⟨.func, [.func], 8, false⟩,
  ⟨.func, [.func], 8, false⟩,
  ⟨.func, [.func], 8, false⟩,
  ⟨.func, [.func], 8, false⟩,
  ⟨.func, [.func], 8, false⟩,
  ⟨.func, [.func], 8, false⟩,
  ⟨.func, [.func], 8, false⟩,
  ⟨.func, [.func], 8, false⟩,
  ⟨.func, [.func], 8, false⟩,
  ⟨.struct [(0, 9), (1, 2), (2, 27)], [.str, .int .i64, .int .i64, .int .i64, .bool, .bool, .slice 9, .slice 2, .slice 75, .slice 27, .int .i64], 152, false⟩,
  ⟨.struct [(0, 9), (1, 2), (2, 27)], [.str, .int .i64, .int .i64, .int .i64, .bool, .bool, .slice 9, .slice 2, .slice 75, .slice 27, .int .i64], 152, false⟩,
  ⟨.func, [.func], 8, false⟩,
  ⟨.struct [(0, 9), (1, 2), (2, 33)], [.str, .int .i64, .int .i64, .int .i64, .bool, .bool, .slice 9, .slice 2, .slice 78, .slice 33, .int .i64], 152, false⟩,
  ⟨.struct [(0, 9), (1, 2), (2, 33)], [.str, .int .i64, .int .i64, .int .i64, .bool, .bool, .slice 9, .slice 2, .slice 78, .slice 33, .int .i64], 152, false⟩,
  ⟨.func, [.func], 8, false⟩,
  ⟨.func, [.func], 8, false⟩,
  ⟨.func, [.func], 8, false⟩,
  ⟨.func, [.func], 8, false⟩,
  ⟨.func, [.func], 8, false⟩,
  ⟨.func, [.func], 8, false⟩,
  ⟨.func, [.func], 8, false⟩,
  ⟨.func, [.func], 8, false⟩,
  ⟨.func, [.func], 8, false⟩,
  ⟨.func, [.func], 8, false⟩,
  ⟨.func, [.func], 8, false⟩,
  ⟨.int .u64, [.int .u64], 8, false⟩,
  ⟨.other, [], 0, false⟩,
  ⟨.func, [.func], 8, false⟩,
  ⟨.func, [.func], 8, false⟩,
  ⟨.slice 5, [.slice 5], 24, false⟩,
  ⟨.func, [.func], 8, false⟩,
  ⟨.func, [.func], 8, false⟩,
  ⟨.func, [.func], 8, false⟩,
  ⟨.func, [.func], 8, false⟩,
  ⟨.int .u64, [.int .u64], 8, false⟩,
  ⟨.func, [.func], 8, false⟩,
  ⟨.other, [], 0, false⟩,
  ⟨.func, [.func], 8, false⟩,
  ⟨.func, [.func], 8, false⟩,
  ⟨.func, [.func], 8, false⟩,
  ⟨.func, [.func], 8, false⟩,
  ⟨.func, [.func], 8, false⟩,
  ⟨.func, [.func], 8, false⟩,
  ⟨.func, [.func], 8, false⟩,
  ⟨.func, [.func], 8, false⟩,
  ⟨.other, [], 0, false⟩,
  ⟨.func, [.func], 8, false⟩,
  ⟨.func, [.func], 8, false⟩,
  ⟨.ptr 115, [.ptr 115], 8, false⟩,
  ⟨.struct [(0, 113), (1, 94)], [.ptr 115, .slice 5], 32, false⟩,
  ⟨.struct [(0, 113), (1, 94)], [.ptr 115, .slice 5], 32, false⟩,
  ⟨.func, [.func], 8, false⟩,
  ⟨.other, [], 0, false⟩,
  ⟨.other, [], 0, false⟩,
  ⟨.other, [], 0, false⟩,
  ⟨.func, [.func], 8, false⟩,
  ⟨.func, [.func], 8, false⟩,
  ⟨.func, [.func], 8, false⟩,
  ⟨.func, [.func], 8, false⟩,
  ⟨.func, [.func], 8, false⟩,
  ⟨.func, [.func], 8, false⟩,
  ⟨.func, [.func], 8, false⟩,
  ⟨.int .u32, [.int .u32], 4, false⟩,
  ⟨.other, [], 0, false⟩,
  ⟨.func, [.func], 8, false⟩,
  ⟨.other, [], 0, false⟩,
  ⟨.func, [.func], 8, false⟩,
  ⟨.ptr 5, [.ptr 5], 8, false⟩,
  ⟨.other, [], 0, false⟩,
  ⟨.func, [.func], 8, false⟩,
  ⟨.func, [.func], 8, false⟩,
  ⟨.struct [(0, 17), (1, 17), (2, 17), (3, 9)], [.ptr 147, .ptr 147, .ptr 147, .str], 40, false⟩,
  ⟨.struct [(0, 17), (1, 17), (2, 17), (3, 9)], [.ptr 147, .ptr 147, .ptr 147, .str], 40, false⟩,
  ⟨.other, [], 0, false⟩,
  ⟨.other, [], 0, false⟩,
  ⟨.other, [], 0, false⟩,
  ⟨.int .u8, [.int .u8], 1, false⟩,
  ⟨.int .u8, [.int .u8], 1, false⟩,
  ⟨.func, [.func], 8, false⟩,
  ⟨.int .i32, [.int .i32], 4, false⟩,
  ⟨.int .i32, [.int .i32], 4, false⟩,
  ⟨.other, [], 0, false⟩,
  ⟨.other, [], 0, false⟩]
def methL : List (Nat × Nat) := [(500033, 0)]
def tab : Tab := mkTab tabL methL
def live : FuncId → Nat → Live × Live
  | 36, 5 => ([(0, .any), (1, .any), (5, .any)], [(1, .any), (4, .any)])
  | 38, 5 => ([(0, .any), (1, .any), (5, .any)], [(1, .any), (4, .any)])
  | 39, 5 => ([(0, .any), (1, .any), (5, .any)], [(1, .any), (4, .any)])
  | 41, 3 => ([(0, .any), (3, .any), (4, .any)], [(2, .ownSlice 9), (3, .any)])
  | 42, 3 => ([(0, .any), (3, .any), (4, .any)], [(2, .ownSlice 2), (3, .any)])
  | 43, 3 => ([(0, .any), (3, .any), (4, .any)], [(2, .ownSlice 78), (3, .any)])
  | 44, 3 => ([(0, .any), (3, .any), (4, .any)], [(2, .ownSlice 33), (3, .any)])
  | 46, 4 => ([(0, .any), (1, .any), (5, .any)], [(4, .any)])
  | 47, 4 => ([(0, .any), (1, .any), (5, .any)], [(4, .any)])
  | 48, 4 => ([(0, .any), (1, .any), (5, .any)], [(4, .any)])
  | 49, 4 => ([(0, .any), (1, .any), (5, .any)], [(4, .any)])
  | 52, 5 => ([(1, .any), (3, .any), (4, .any)], [(2, .any), (3, .any)])
  | 53, 5 => ([(1, .any), (3, .any), (11, .any), (12, .any), (13, .any)], [(2, .any), (3, .any)])
  | 58, 8 => ([(2, .any), (3, .any), (5, .any)], [(4, .any)])
  | 64, 15 => ([(1, .any), (3, .any), (5, .any)], [(2, .any), (3, .any)])
  | 64, 21 => ([(1, .any), (3, .any), (6, .any)], [(2, .any), (3, .any)])
  | 65, 10 => ([(1, .any), (3, .any), (52, .any), (53, .any), (54, .any)], [(2, .any), (3, .any)])
  | 65, 17 => ([(1, .any), (3, .any), (84, .any), (85, .any), (86, .any)], [(2, .any), (3, .any)])
  | 66, 7 => ([(1, .any), (2, .any), (7, .any), (8, .any)], [(2, .any), (4, .any), (7, .any)])
  | 68, 14 => ([(2, .any), (3, .any), (9, .any)], [(4, .any)])
  | 70, 7 => ([(1, .any), (3, .any), (4, .any)], [(1, .any), (2, .any), (3, .any)])
  | 70, 15 => ([(1, .any), (6, .any), (7, .any)], [(1, .any), (2, .any), (6, .any)])
  | 71, 9 => ([(1, .any), (3, .any), (33, .any), (34, .any), (35, .any)], [(1, .any), (2, .any), (3, .any)])
  | 75, 7 => ([(1, .any), (3, .any), (4, .any), (5, .any)], [(2, .any)])
  | 75, 12 => ([(1, .any), (3, .any), (4, .any), (5, .any), (6, .any)], [(1, .any), (2, .any), (3, .any), (4, .any), (5, .any)])
  | 76, 7 => ([(1, .any), (3, .any), (4, .any)], [(1, .any), (2, .any), (3, .any)])
  | 76, 13 => ([(1, .any), (3, .any), (4, .any), (5, .any), (6, .any)], [(1, .any), (2, .any), (3, .any), (4, .any), (5, .any)])
  | 84, 5 => ([(1, .any), (3, .any), (4, .any), (36, .any), (37, .any), (38, .any)], [(1, .any), (2, .any)])
  | 85, 6 => ([(1, .any), (2, .any), (5, .any), (6, .ownSlice 9), (21, .any), (22, .any), (23, .any)], [(2, .any), (4, .any), (5, .any), (6, .ownSlice 9)])
  | 91, 2 => ([(1, .any), (2, .any), (5, .any)], [(4, .any)])
  | 93, 2 => ([(0, .any), (1, .any), (5, .any)], [(4, .any)])
  | 94, 3 => ([(0, .any), (1, .any), (2, .any), (7, .any), (8, .any)], [(6, .any), (7, .any)])
  | 97, 3 => ([(0, .any), (5, .any), (10, .any), (11, .any)], [(4, .any), (5, .any)])
  | 102, 3 => ([(0, .any), (1, .any), (6, .any), (7, .any), (8, .any)], [(0, .any), (1, .any), (4, .any), (5, .any), (6, .any), (7, .any)])
  | 103, 2 => ([(2, .any), (3, .any), (5, .any)], [(4, .any)])
  | 107, 38 => ([(7, .any), (8, .any), (9, .any)], [(4, .any), (9, .any)])
  | 109, 4 => ([(0, .any), (3, .any)], [(2, .any)])
  | 110, 4 => ([(0, .any), (1, .any), (12, .any), (13, .any)], [(4, .any)])
  | 111, 4 => ([(0, .any), (1, .any), (12, .any), (13, .any)], [(4, .any)])
  | 112, 4 => ([(1, .any), (2, .any), (15, .any), (16, .any), (17, .any)], [(6, .any)])
  | 114, 4 => ([(1, .any), (2, .any), (15, .any), (16, .any), (17, .any)], [(6, .any)])
  | 115, 2 => ([(0, .any), (5, .any), (6, .any), (7, .any)], [(2, .any)])
  | 119, 2 => ([(0, .any), (1, .any), (7, .any), (8, .any)], [(4, .any)])
  | 120, 1 => ([(0, .any), (2, .any), (3, .any)], [])
  | 123, 2 => ([(1, .any), (2, .any), (5, .any)], [(4, .any)])
  | 136, 2 => ([(0, .any), (7, .any), (8, .any)], [(0, .any), (2, .any)])
  | 137, 2 => ([(0, .any), (1, .any), (7, .any), (8, .any)], [(4, .any)])
  | 140, 2 => ([(0, .any), (1, .any), (7, .any), (8, .any)], [(4, .any)])
  | 141, 2 => ([(0, .any), (1, .any), (7, .any), (8, .any)], [(4, .any)])
  | 142, 2 => ([(0, .any), (1, .any), (7, .any), (8, .any)], [(4, .any)])
  | _, _ => ([], [])
noncomputable def FT : FuncId → Option Func := fun f => Go.Proofs.Try.prog.funcs[f]?
end Go.Proofs.Ytlhikjmdheikkaa.V
