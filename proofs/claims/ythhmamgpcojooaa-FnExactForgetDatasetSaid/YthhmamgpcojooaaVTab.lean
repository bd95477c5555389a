/- The tables of this translation for the plain evaluator: types, functions, the slots that live at a loop's head. No condition. -/
import Derived.Test.YthhmamgpcojooaaProg
import Derived.Test.YthhmamgpcojooaaV21
namespace Go.Proofs.Ythhmamgpcojooaa.V
open Go
def tabL : List TyR := [
  ⟨.other, [], 0, false⟩,
  ⟨.func, [.func], 8, false⟩,
  ⟨.int .i64, [.int .i64], 8, false⟩,
  ⟨.int .i64, [.int .i64], 8, false⟩,
  ⟨.bool, [.bool], 1, false⟩,
  ⟨.int .u8, [.int .u8], 1, false⟩,
  ⟨.int .u8, [.int .u8], 1, false⟩,
  ⟨.struct [(0, 2), (1, 3), (2, 4), (3, 6)], [.int .i64, .int .i64, .bool, .int .u8], 24, false⟩,
  ⟨.struct [(0, 2), (1, 3), (2, 4), (3, 6)], [.int .i64, .int .i64, .bool, .int .u8], 24, false⟩,
  ⟨.str, [.str], 16, false⟩,
  ⟨.str, [.str], 16, false⟩,
  ⟨.str, [.str], 16, false⟩,
  ⟨.int .u64, [.int .u64], 8, false⟩,
  ⟨.struct [(0, 9), (1, 12)], [.str, .int .u64], 24, false⟩,
  ⟨.struct [(0, 9), (1, 12)], [.str, .int .u64], 24, false⟩,
  ⟨.ptr 114, [.ptr 114], 8, false⟩,
  ⟨.ptr 117, [.ptr 117], 8, false⟩,
  ⟨.ptr 124, [.ptr 124], 8, false⟩,
  ⟨.struct [(0, 17)], [.ptr 124], 8, false⟩,
  ⟨.struct [(0, 17)], [.ptr 124], 8, false⟩,
  ⟨.other, [], 0, false⟩,
  ⟨.int .i32, [.int .i32], 4, false⟩,
  ⟨.slice 67, [.slice 67], 24, false⟩,
  ⟨.struct [(0, 2), (1, 22), (2, 2), (3, 2), (4, 2)], [.int .i64, .slice 67, .int .i64, .int .i64, .int .i64], 56, false⟩,
  ⟨.struct [(0, 2), (1, 22), (2, 2), (3, 2), (4, 2)], [.int .i64, .slice 67, .int .i64, .int .i64, .int .i64], 56, false⟩,
  ⟨.func, [.func], 8, false⟩,
  ⟨.slice 48, [.slice 48], 24, false⟩,
  ⟨.struct [(0, 2), (1, 26), (2, 2), (3, 2), (4, 2)], [.int .i64, .slice 48, .int .i64, .int .i64, .int .i64], 56, false⟩,
  ⟨.struct [(0, 2), (1, 26), (2, 2), (3, 2), (4, 2)], [.int .i64, .slice 48, .int .i64, .int .i64, .int .i64], 56, false⟩,
  ⟨.other, [], 0, false⟩,
  ⟨.func, [.func], 8, false⟩,
  ⟨.func, [.func], 8, false⟩,
  ⟨.func, [.func], 8, false⟩,
  ⟨.func, [.func], 8, false⟩,
  ⟨.func, [.func], 8, false⟩,
  ⟨.slice 9, [.slice 9], 24, false⟩,
  ⟨.slice 84, [.slice 84], 24, false⟩,
  ⟨.struct [(0, 35), (1, 36), (2, 2), (3, 4)], [.slice 9, .slice 84, .int .i64, .bool], 64, false⟩,
  ⟨.struct [(0, 35), (1, 36), (2, 2), (3, 4)], [.slice 9, .slice 84, .int .i64, .bool], 64, false⟩,
  ⟨.other, [], 0, false⟩,
  ⟨.func, [.func], 8, false⟩,
  ⟨.func, [.func], 8, false⟩,
  ⟨.func, [.func], 8, false⟩,
  ⟨.func, [.func], 8, false⟩,
  ⟨.func, [.func], 8, false⟩,
  ⟨.func, [.func], 8, false⟩,
  ⟨.ptr 28, [.ptr 28], 8, false⟩,
  ⟨.struct [(0, 2), (1, 2), (2, 9), (3, 4)], [.int .i64, .int .i64, .str, .bool], 40, false⟩,
  ⟨.struct [(0, 2), (1, 2), (2, 9), (3, 4)], [.int .i64, .int .i64, .str, .bool], 40, false⟩,
  ⟨.func, [.func], 8, false⟩,
  ⟨.func, [.func], 8, false⟩,
  ⟨.func, [.func], 8, false⟩,
  ⟨.func, [.func], 8, false⟩,
  ⟨.func, [.func], 8, false⟩,
  ⟨.func, [.func], 8, false⟩,
  ⟨.func, [.func], 8, false⟩,
  ⟨.struct [(0, 2), (1, 2), (2, 2), (3, 2)], [.int .i64, .int .i64, .int .i64, .int .i64], 32, false⟩,
  ⟨.struct [(0, 2), (1, 2), (2, 2), (3, 2)], [.int .i64, .int .i64, .int .i64, .int .i64], 32, false⟩,
  ⟨.func, [.func], 8, false⟩,
  ⟨.func, [.func], 8, false⟩,
  ⟨.func, [.func], 8, false⟩,
  ⟨.func, [.func], 8, false⟩,
  ⟨.func, [.func], 8, false⟩,
  ⟨.func, [.func], 8, false⟩,
  ⟨.func, [.func], 8, false⟩,
  ⟨.func, [.func], 8, false⟩,
  ⟨.func, [.func], 8, false⟩,
  ⟨.struct [(0, 2), (1, 2), (2, 9), (3, 4)], [.int .i64, .int .i64, .str, .bool], 40, false⟩,
  ⟨.func, [.func], 8, false⟩,
  ⟨.func, [.func], 8, false⟩,
  ⟨.func, [.func], 8, false⟩,
  ⟨.slice 2, [.slice 2], 24, false⟩,
  ⟨.func, [.func], 8, false⟩,
  ⟨.func, [.func], 8, false⟩,
  ⟨.func, [.func], 8, false⟩,
  ⟨.func, [.func], 8, false⟩,
  ⟨.func, [.func], 8, false⟩,
  ⟨.func, [.func], 8, false⟩,
  ⟨.func, [.func], 8, false⟩,
  ⟨.func, [.func], 8, false⟩,
  ⟨.func, [.func], 8, false⟩,
  ⟨.func, [.func], 8, false⟩,
  ⟨.func, [.func], 8, false⟩,
  ⟨.struct [(0, 2), (1, 9)], [.int .i64, .str], 24, false⟩,
  ⟨.struct [(0, 2), (1, 9)], [.int .i64, .str], 24, false⟩,
  ⟨.func, [.func], 8, false⟩,
  ⟨.func, [.func], 8, false⟩,
  ⟨.slice 5, [.slice 5], 24, false⟩,
  ⟨.int .u64, [.int .u64], 8, false⟩,
  ⟨.other, [], 0, false⟩,
  ⟨.func, [.func], 8, false⟩,
  ⟨.func, [.func], 8, false⟩,
  ⟨.func, [.func], 8, false⟩,
  ⟨.int .u64, [.int .u64], 8, false⟩,
  ⟨.int .u32, [.int .u32], 4, false⟩,
  ⟨.other, [], 0, false⟩,
  ⟨.func, [.func], 8, false⟩,
  ⟨.other, [], 0, false⟩,
  ⟨.func, [.func], 8, false⟩,
  ⟨.func, [.func], 8, false⟩,
  ⟨.ptr 102, [.ptr 102], 8, false⟩,
  ⟨.struct [(0, 100), (1, 87)], [.ptr 102, .slice 5], 32, false⟩,
  ⟨.bld 5, [], 0, false⟩,
  ⟨.func, [.func], 8, false⟩,
  ⟨.other, [], 0, false⟩,
  ⟨.other, [], 0, false⟩,
  ⟨.other, [], 0, false⟩,
  ⟨.func, [.func], 8, false⟩,
  ⟨.func, [.func], 8, false⟩,
  ⟨.ptr 5, [.ptr 5], 8, false⟩,
  ⟨.other, [], 0, false⟩,
  ⟨.func, [.func], 8, false⟩,
  ⟨.func, [.func], 8, false⟩,
  ⟨.struct [(0, 17), (1, 17), (2, 17), (3, 9)], [.ptr 124, .ptr 124, .ptr 124, .str], 40, false⟩,
  ⟨.struct [(0, 17), (1, 17), (2, 17), (3, 9)], [.ptr 124, .ptr 124, .ptr 124, .str], 40, false⟩,
  ⟨.other, [], 0, false⟩,
  ⟨.other, [], 0, false⟩,
  ⟨.other, [], 0, false⟩,
  ⟨.int .u8, [.int .u8], 1, false⟩,
  ⟨.int .u8, [.int .u8], 1, false⟩,
  ⟨.func, [.func], 8, false⟩,
  ⟨.int .i32, [.int .i32], 4, false⟩,
  ⟨.int .i32, [.int .i32], 4, false⟩,
  ⟨.other, [], 0, false⟩,
  ⟨.other, [], 0, false⟩]
def methL : List (Nat × Nat) := [(10, 0), (15, 0), (21, 0), (25, 0), (34, 0), (35, 0), (69, 1), (70, 3), (71, 2)]
def tab : Tab := mkTab tabL methL
def live : FuncId → Nat → Live × Live
  | 6, 6 => ([(1, .any), (2, .any), (4, .any), (6, .any), (7, .any)], [(4, .any), (5, .any), (6, .any)])
  | 17, 5 => ([(0, .any), (1, .any), (5, .any)], [(1, .any), (4, .any)])
  | 18, 4 => ([(0, .any), (3, .any)], [(2, .any)])
  | 18, 10 => ([(0, .any), (3, .any), (4, .any), (5, .any)], [(0, .any), (2, .any), (3, .any)])
  | 19, 3 => ([(0, .any), (3, .any), (4, .any)], [(2, .ownSlice 48), (3, .any)])
  | 20, 4 => ([(1, .any), (29, .any), (30, .any), (31, .any)], [(2, .any)])
  | 21, 5 => ([(0, .any), (1, .any), (5, .any), (6, .any), (1000000, .any)], [(0, .any), (4, .ownSlice 48), (5, .any), (1000000, .any)])
  | 24, 4 => ([(0, .any), (1, .any), (5, .any)], [(4, .any)])
  | 25, 2 => ([(0, .any), (1, .any), (5, .any), (1000000, .any)], [(1, .any), (4, .any), (1000000, .any)])
  | 26, 2 => ([(0, .any), (1, .any), (5, .any)], [(1, .any), (4, .any)])
  | 32, 4 => ([(0, .any), (1, .any), (5, .any)], [(4, .any)])
  | 33, 4 => ([(0, .any), (1, .any), (5, .any)], [(4, .any)])
  | 34, 2 => ([(0, .any), (1, .any), (5, .any), (1000000, .any)], [(1, .any), (4, .any), (1000000, .any)])
  | 35, 2 => ([(0, .any), (1, .any), (5, .any), (1000000, .any)], [(1, .any), (4, .any), (1000000, .any)])
  | 36, 2 => ([(0, .any), (1, .any), (5, .any)], [(1, .any), (4, .any)])
  | 37, 2 => ([(0, .any), (1, .any), (5, .any)], [(1, .any), (4, .any)])
  | 47, 2 => ([(0, .any), (1, .any), (7, .any), (8, .any)], [(4, .any)])
  | 49, 4 => ([(0, .any), (3, .any)], [(2, .any), (3, .any)])
  | 50, 3 => ([(0, .any), (2, .any), (3, .any), (4, .any)], [(2, .any), (3, .any)])
  | 52, 8 => ([(7, .any), (8, .any)], [(4, .ownSlice 9), (7, .any)])
  | 54, 3 => ([(0, .any), (5, .any), (10, .any), (11, .any)], [(4, .any), (5, .any)])
  | 60, 3 => ([(0, .any), (1, .any), (5, .any), (6, .any)], [(4, .any), (5, .any)])
  | 63, 38 => ([(7, .any), (8, .any), (9, .any)], [(4, .any), (9, .any)])
  | 64, 2 => ([(0, .any), (1, .any), (7, .any), (8, .any)], [(4, .any)])
  | _, _ => ([], [])
noncomputable def FT : FuncId → Option Func := fun f => Go.Proofs.Try.prog.funcs[f]?
end Go.Proofs.Ythhmamgpcojooaa.V
