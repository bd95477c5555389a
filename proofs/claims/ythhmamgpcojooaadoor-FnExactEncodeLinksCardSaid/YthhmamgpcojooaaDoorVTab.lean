/- The tables of this translation for the plain evaluator: types, functions, the slots that live at a loop's head. No condition. -/
import Derived.Test.YthhmamgpcojooaaDoorProg
import Derived.Test.YthhmamgpcojooaaDoorV21
namespace Go.Proofs.YthhmamgpcojooaaDoor.V
open Go
def tabL : List TyR := [
  ⟨.other, [], 0, false⟩,
  ⟨.func, [.func], 8, false⟩,
  ⟨.int .i64, [.int .i64], 8, false⟩,
  ⟨.int .i64, [.int .i64], 8, false⟩,
  ⟨.bool, [.bool], 1, false⟩,
  ⟨.int .u8, [.int .u8], 1, false⟩,
  ⟨.int .u8, [.int .u8], 1, false⟩,
  ⟨.struct [(0, 2), (1, 3), (2, 4), (3, 6)], [.int .i64, .int .i64, .bool, .int .u8], 24, false⟩,
  ⟨.struct [(0, 2), (1, 3), (2, 4), (3, 6)], [.int .i64, .int .i64, .bool, .int .u8], 24, false⟩,
  ⟨.str, [.str], 16, false⟩,
  ⟨.str, [.str], 16, false⟩,
  ⟨.str, [.str], 16, false⟩,
  ⟨.int .u64, [.int .u64], 8, false⟩,
  ⟨.struct [(0, 9), (1, 12)], [.str, .int .u64], 24, false⟩,
  ⟨.struct [(0, 9), (1, 12)], [.str, .int .u64], 24, false⟩,
  ⟨.ptr 99, [.ptr 99], 8, false⟩,
  ⟨.ptr 102, [.ptr 102], 8, false⟩,
  ⟨.ptr 109, [.ptr 109], 8, false⟩,
  ⟨.struct [(0, 17)], [.ptr 109], 8, false⟩,
  ⟨.struct [(0, 17)], [.ptr 109], 8, false⟩,
  ⟨.other, [], 0, false⟩,
  ⟨.int .i32, [.int .i32], 4, false⟩,
  ⟨.func, [.func], 8, false⟩,
  ⟨.slice 9, [.slice 9], 24, false⟩,
  ⟨.other, [], 0, false⟩,
  ⟨.func, [.func], 8, false⟩,
  ⟨.func, [.func], 8, false⟩,
  ⟨.func, [.func], 8, false⟩,
  ⟨.slice 47, [.slice 47], 24, false⟩,
  ⟨.func, [.func], 8, false⟩,
  ⟨.func, [.func], 8, false⟩,
  ⟨.slice 48, [.slice 48], 24, false⟩,
  ⟨.func, [.func], 8, false⟩,
  ⟨.func, [.func], 8, false⟩,
  ⟨.func, [.func], 8, false⟩,
  ⟨.struct [(0, 23)], [.slice 9], 24, false⟩,
  ⟨.struct [(0, 23)], [.slice 9], 24, false⟩,
  ⟨.func, [.func], 8, false⟩,
  ⟨.other, [], 0, false⟩,
  ⟨.func, [.func], 8, false⟩,
  ⟨.struct [(0, 23)], [.slice 9], 24, false⟩,
  ⟨.func, [.func], 8, false⟩,
  ⟨.func, [.func], 8, false⟩,
  ⟨.func, [.func], 8, false⟩,
  ⟨.func, [.func], 8, false⟩,
  ⟨.func, [.func], 8, false⟩,
  ⟨.struct [(0, 9), (1, 2), (2, 9)], [.str, .int .i64, .str], 40, false⟩,
  ⟨.struct [(0, 9), (1, 2), (2, 9)], [.str, .int .i64, .str], 40, false⟩,
  ⟨.struct [(0, 9), (1, 2), (2, 9)], [.str, .int .i64, .str], 40, false⟩,
  ⟨.func, [.func], 8, false⟩,
  ⟨.func, [.func], 8, false⟩,
  ⟨.func, [.func], 8, false⟩,
  ⟨.func, [.func], 8, false⟩,
  ⟨.func, [.func], 8, false⟩,
  ⟨.func, [.func], 8, false⟩,
  ⟨.func, [.func], 8, false⟩,
  ⟨.func, [.func], 8, false⟩,
  ⟨.func, [.func], 8, false⟩,
  ⟨.func, [.func], 8, false⟩,
  ⟨.func, [.func], 8, false⟩,
  ⟨.slice 5, [.slice 5], 24, false⟩,
  ⟨.func, [.func], 8, false⟩,
  ⟨.func, [.func], 8, false⟩,
  ⟨.func, [.func], 8, false⟩,
  ⟨.ptr 66, [.ptr 66], 8, false⟩,
  ⟨.struct [(0, 64), (1, 60)], [.ptr 66, .slice 5], 32, false⟩,
  ⟨.bld 5, [], 0, false⟩,
  ⟨.func, [.func], 8, false⟩,
  ⟨.other, [], 0, false⟩,
  ⟨.other, [], 0, false⟩,
  ⟨.other, [], 0, false⟩,
  ⟨.func, [.func], 8, false⟩,
  ⟨.func, [.func], 8, false⟩,
  ⟨.func, [.func], 8, false⟩,
  ⟨.func, [.func], 8, false⟩,
  ⟨.func, [.func], 8, false⟩,
  ⟨.func, [.func], 8, false⟩,
  ⟨.func, [.func], 8, false⟩,
  ⟨.int .u64, [.int .u64], 8, false⟩,
  ⟨.ptr 5, [.ptr 5], 8, false⟩,
  ⟨.func, [.func], 8, false⟩,
  ⟨.func, [.func], 8, false⟩,
  ⟨.func, [.func], 8, false⟩,
  ⟨.func, [.func], 8, false⟩,
  ⟨.other, [], 0, false⟩,
  ⟨.func, [.func], 8, false⟩,
  ⟨.func, [.func], 8, false⟩,
  ⟨.other, [], 0, false⟩,
  ⟨.func, [.func], 8, false⟩,
  ⟨.func, [.func], 8, false⟩,
  ⟨.func, [.func], 8, false⟩,
  ⟨.other, [], 0, false⟩,
  ⟨.struct [(0, 5), (1, 5)], [.int .u8, .int .u8], 2, false⟩,
  ⟨.struct [(0, 5), (1, 5)], [.int .u8, .int .u8], 2, false⟩,
  ⟨.other, [], 0, false⟩,
  ⟨.int .u32, [.int .u32], 4, false⟩,
  ⟨.other, [], 0, false⟩,
  ⟨.func, [.func], 8, false⟩,
  ⟨.struct [(0, 17), (1, 17), (2, 17), (3, 9)], [.ptr 109, .ptr 109, .ptr 109, .str], 40, false⟩,
  ⟨.struct [(0, 17), (1, 17), (2, 17), (3, 9)], [.ptr 109, .ptr 109, .ptr 109, .str], 40, false⟩,
  ⟨.other, [], 0, false⟩,
  ⟨.other, [], 0, false⟩,
  ⟨.other, [], 0, false⟩,
  ⟨.int .u8, [.int .u8], 1, false⟩,
  ⟨.int .u8, [.int .u8], 1, false⟩,
  ⟨.func, [.func], 8, false⟩,
  ⟨.int .i32, [.int .i32], 4, false⟩,
  ⟨.int .i32, [.int .i32], 4, false⟩,
  ⟨.other, [], 0, false⟩,
  ⟨.other, [], 0, false⟩]
def methL : List (Nat × Nat) := [(12, 0), (52, 1), (54, 2), (61, 0), (600000, 10)]
def tab : Tab := mkTab tabL methL
def live : FuncId → Nat → Live × Live
  | 11, 4 => ([(0, .any), (1, .any), (5, .any)], [(4, .any)])
  | 12, 2 => ([(0, .any), (1, .any), (5, .any), (1000000, .any)], [(1, .any), (4, .any), (1000000, .any)])
  | 13, 2 => ([(0, .any), (1, .any), (5, .any)], [(1, .any), (4, .any)])
  | 14, 5 => ([(0, .any), (1, .any), (5, .any)], [(1, .any), (4, .any)])
  | 16, 3 => ([(0, .any), (3, .any), (4, .any)], [(2, .ownSlice 48), (3, .any)])
  | 17, 2 => ([(0, .any), (5, .any), (6, .any), (7, .any)], [(0, .any), (2, .any)])
  | 18, 4 => ([(0, .any), (1, .any), (5, .any)], [(4, .any)])
  | 20, 4 => ([(0, .any), (3, .any), (6, .any)], [(0, .any), (3, .any), (4, .any), (5, .any)])
  | 24, 8 => ([(0, .any), (4, .any), (5, .any), (6, .any)], [(2, .ownSlice 9), (3, .any), (4, .any)])
  | 26, 4 => ([(0, .any), (3, .any)], [(2, .any), (3, .any)])
  | 28, 2 => ([(0, .any), (3, .any)], [(0, .any), (2, .any)])
  | 32, 5 => ([(0, .any), (1, .any), (5, .any)], [(1, .any), (4, .any)])
  | 33, 5 => ([(1, .any), (3, .any), (4, .any)], [(2, .any)])
  | 34, 3 => ([(1, .any), (3, .any), (4, .any)], [(2, .any), (3, .any)])
  | 35, 2 => ([(1, .any), (2, .any), (5, .any)], [(4, .any)])
  | 36, 3 => ([(0, .any), (3, .any), (5, .any), (6, .any)], [(4, .any), (5, .any)])
  | 37, 3 => ([(0, .any), (3, .any), (4, .any)], [(2, .ownSlice 9), (3, .any)])
  | 39, 3 => ([(0, .any), (3, .any), (6, .any), (10, .any), (11, .any), (12, .any)], [(0, .any), (3, .any), (4, .any), (5, .any), (6, .any)])
  | 40, 4 => ([(0, .any), (3, .any)], [(2, .any)])
  | 45, 2 => ([(0, .any), (7, .any), (8, .any)], [(0, .any), (2, .any)])
  | 49, 3 => ([(0, .any), (1, .any), (2, .any), (7, .any), (8, .any)], [(6, .any), (7, .any)])
  | 51, 2 => ([(0, .any), (1, .any), (7, .any), (8, .any)], [(4, .any)])
  | 53, 3 => ([(0, .any), (5, .any), (10, .any), (11, .any)], [(4, .any), (5, .any)])
  | 58, 11 => ([(0, .any), (1, .any), (2, .any), (3, .any), (9, .any), (10, .any)], [(0, .any), (8, .ownSlice 9), (9, .any), (10, .any)])
  | 59, 2 => ([(0, .any), (1, .any), (7, .any), (8, .any)], [(4, .any)])
  | 61, 5 => ([(0, .any), (1, .any), (5, .any), (6, .any), (1000000, .any)], [(0, .any), (4, .ownSlice 9), (5, .any), (1000000, .any)])
  | 65, 6 => ([(0, .any), (1, .any), (6, .any), (7, .any)], [(0, .any), (1, .any), (4, .ownSlice 9), (6, .any)])
  | 66, 6 => ([(0, .any), (1, .any), (5, .any)], [(4, .any)])
  | 69, 2 => ([(2, .any), (4, .any)], [(2, .any)])
  | 72, 15 => ([(0, .any), (1, .any), (5, .any), (6, .any), (7, .any), (8, .any), (9, .any), (10, .any)], [(4, .any)])
  | 77, 5 => ([(0, .any), (1, .any), (5, .any), (6, .any), (7, .any), (8, .any), (9, .any)], [(0, .any), (1, .any), (4, .any), (5, .any), (6, .any), (7, .any), (8, .any)])
  | 77, 11 => ([(0, .any), (1, .any), (5, .any), (6, .any), (7, .any), (8, .any), (10, .any)], [(4, .any)])
  | 79, 3 => ([(0, .any), (4, .any), (5, .any)], [(0, .any), (2, .any), (3, .any), (4, .any)])
  | 79, 8 => ([(4, .any), (6, .any), (7, .any), (8, .any)], [(2, .any), (3, .any), (4, .any), (6, .any)])
  | _, _ => ([], [])
noncomputable def FT : FuncId → Option Func := fun f => Go.Proofs.Tryd.prog.funcs[f]?
end Go.Proofs.YthhmamgpcojooaaDoor.V
