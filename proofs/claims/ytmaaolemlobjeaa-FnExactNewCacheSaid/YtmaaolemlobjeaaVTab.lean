/- The tables of this translation for the plain evaluator: types, functions, the slots that live at a loop's head. No condition. -/
import Derived.Test.YtmaaolemlobjeaaProg
import Derived.Test.YtmaaolemlobjeaaV21
namespace Go.Proofs.Ytmaaolemlobjeaa.V
open Go
def tabL : List TyR := [
  ⟨.other, [], 0, false⟩,
  ⟨.func, [.func], 8, false⟩,
  ⟨.int .i64, [.int .i64], 8, false⟩,
  ⟨.int .i64, [.int .i64], 8, false⟩,
  ⟨.bool, [.bool], 1, false⟩,
  ⟨.int .u8, [.int .u8], 1, false⟩,
  ⟨.int .u8, [.int .u8], 1, false⟩,
  ⟨.struct [(0, 2), (1, 3), (2, 4), (3, 6)], [.int .i64, .int .i64, .bool, .int .u8], 24, false⟩,
  ⟨.struct [(0, 2), (1, 3), (2, 4), (3, 6)], [.int .i64, .int .i64, .bool, .int .u8], 24, false⟩,
  ⟨.str, [.str], 16, false⟩,
  ⟨.str, [.str], 16, false⟩,
  ⟨.str, [.str], 16, false⟩,
  ⟨.int .u64, [.int .u64], 8, false⟩,
  ⟨.struct [(0, 9), (1, 12)], [.str, .int .u64], 24, false⟩,
  ⟨.struct [(0, 9), (1, 12)], [.str, .int .u64], 24, false⟩,
  ⟨.ptr 87, [.ptr 87], 8, false⟩,
  ⟨.ptr 90, [.ptr 90], 8, false⟩,
  ⟨.ptr 97, [.ptr 97], 8, false⟩,
  ⟨.struct [(0, 17)], [.ptr 97], 8, false⟩,
  ⟨.struct [(0, 17)], [.ptr 97], 8, false⟩,
  ⟨.other, [], 0, false⟩,
  ⟨.int .i32, [.int .i32], 4, false⟩,
  ⟨.func, [.func], 8, false⟩,
  ⟨.func, [.func], 8, false⟩,
  ⟨.slice 63, [.slice 63], 24, false⟩,
  ⟨.struct [(0, 2), (1, 24), (2, 2), (3, 2), (4, 2)], [.int .i64, .slice 63, .int .i64, .int .i64, .int .i64], 56, false⟩,
  ⟨.struct [(0, 2), (1, 24), (2, 2), (3, 2), (4, 2)], [.int .i64, .slice 63, .int .i64, .int .i64, .int .i64], 56, false⟩,
  ⟨.other, [], 0, false⟩,
  ⟨.func, [.func], 8, false⟩,
  ⟨.func, [.func], 8, false⟩,
  ⟨.func, [.func], 8, false⟩,
  ⟨.func, [.func], 8, false⟩,
  ⟨.func, [.func], 8, false⟩,
  ⟨.func, [.func], 8, false⟩,
  ⟨.other, [], 0, false⟩,
  ⟨.func, [.func], 8, false⟩,
  ⟨.slice 5, [.slice 5], 24, false⟩,
  ⟨.func, [.func], 8, false⟩,
  ⟨.func, [.func], 8, false⟩,
  ⟨.func, [.func], 8, false⟩,
  ⟨.func, [.func], 8, false⟩,
  ⟨.func, [.func], 8, false⟩,
  ⟨.func, [.func], 8, false⟩,
  ⟨.ptr 45, [.ptr 45], 8, false⟩,
  ⟨.struct [(0, 43), (1, 36)], [.ptr 45, .slice 5], 32, false⟩,
  ⟨.bld 5, [], 0, false⟩,
  ⟨.func, [.func], 8, false⟩,
  ⟨.other, [], 0, false⟩,
  ⟨.other, [], 0, false⟩,
  ⟨.other, [], 0, false⟩,
  ⟨.func, [.func], 8, false⟩,
  ⟨.func, [.func], 8, false⟩,
  ⟨.func, [.func], 8, false⟩,
  ⟨.ptr 74, [.ptr 74], 8, false⟩,
  ⟨.func, [.func], 8, false⟩,
  ⟨.func, [.func], 8, false⟩,
  ⟨.int .u64, [.int .u64], 8, false⟩,
  ⟨.func, [.func], 8, false⟩,
  ⟨.int .u64, [.int .u64], 8, false⟩,
  ⟨.func, [.func], 8, false⟩,
  ⟨.func, [.func], 8, false⟩,
  ⟨.func, [.func], 8, false⟩,
  ⟨.struct [(0, 2), (1, 2), (2, 9), (3, 4)], [.int .i64, .int .i64, .str, .bool], 40, false⟩,
  ⟨.struct [(0, 2), (1, 2), (2, 9), (3, 4)], [.int .i64, .int .i64, .str, .bool], 40, false⟩,
  ⟨.func, [.func], 8, false⟩,
  ⟨.other, [], 0, false⟩,
  ⟨.func, [.func], 8, false⟩,
  ⟨.func, [.func], 8, false⟩,
  ⟨.other, [], 0, false⟩,
  ⟨.func, [.func], 8, false⟩,
  ⟨.func, [.func], 8, false⟩,
  ⟨.func, [.func], 8, false⟩,
  ⟨.ptr 5, [.ptr 5], 8, false⟩,
  ⟨.struct [(0, 36), (1, 3), (2, 58)], [.slice 5, .int .i64, .int .u64], 40, false⟩,
  ⟨.struct [(0, 36), (1, 3), (2, 58)], [.slice 5, .int .i64, .int .u64], 40, false⟩,
  ⟨.func, [.func], 8, false⟩,
  ⟨.func, [.func], 8, false⟩,
  ⟨.func, [.func], 8, false⟩,
  ⟨.other, [], 0, false⟩,
  ⟨.func, [.func], 8, false⟩,
  ⟨.int .u32, [.int .u32], 4, false⟩,
  ⟨.other, [], 0, false⟩,
  ⟨.func, [.func], 8, false⟩,
  ⟨.other, [], 0, false⟩,
  ⟨.func, [.func], 8, false⟩,
  ⟨.func, [.func], 8, false⟩,
  ⟨.struct [(0, 17), (1, 17), (2, 17), (3, 9)], [.ptr 97, .ptr 97, .ptr 97, .str], 40, false⟩,
  ⟨.struct [(0, 17), (1, 17), (2, 17), (3, 9)], [.ptr 97, .ptr 97, .ptr 97, .str], 40, false⟩,
  ⟨.other, [], 0, false⟩,
  ⟨.other, [], 0, false⟩,
  ⟨.other, [], 0, false⟩,
  ⟨.int .u8, [.int .u8], 1, false⟩,
  ⟨.int .u8, [.int .u8], 1, false⟩,
  ⟨.func, [.func], 8, false⟩,
  ⟨.int .i32, [.int .i32], 4, false⟩,
  ⟨.int .i32, [.int .i32], 4, false⟩,
  ⟨.other, [], 0, false⟩,
  ⟨.other, [], 0, false⟩,
  ⟨.func, [.func], 8, false⟩]
def methL : List (Nat × Nat) := [(16, 0), (31, 0), (35, 3), (36, 1), (38, 2), (48, 0)]
def tab : Tab := mkTab tabL methL
def live : FuncId → Nat → Live × Live
  | 8, 9 => ([(4, .any), (7, .any)], [(2, .any)])
  | 20, 3 => ([(0, .any), (4, .any), (5, .any)], [(0, .any), (2, .any), (3, .any), (4, .any)])
  | 20, 8 => ([(0, .any), (4, .any), (5, .any), (6, .any)], [(0, .any), (2, .any), (3, .any), (4, .any), (5, .any)])
  | 21, 5 => ([(0, .any), (4, .any), (5, .any)], [(2, .any), (3, .any), (4, .any)])
  | 25, 6 => ([(0, .any), (1, .any), (2, .any), (7, .any), (8, .any), (9, .any), (10, .any), (11, .any)], [(0, .any), (1, .any), (6, .any), (7, .any), (10, .any)])
  | 25, 15 => ([(0, .any), (1, .any), (2, .any), (7, .any), (8, .any), (9, .any), (10, .any), (11, .any), (12, .any), (13, .any)], [(0, .any), (1, .any), (2, .any), (6, .any), (7, .any), (8, .any), (9, .any), (10, .any), (11, .any)])
  | 27, 4 => ([(1, .any), (2, .any), (7, .any), (8, .any), (9, .any)], [(6, .any), (7, .any), (9, .any)])
  | 30, 4 => ([(0, .any), (1, .any), (5, .any)], [(4, .any)])
  | 31, 2 => ([(0, .any), (1, .any), (5, .any), (1000000, .any)], [(1, .any), (4, .any), (1000000, .any)])
  | 32, 2 => ([(0, .any), (1, .any), (5, .any)], [(1, .any), (4, .any)])
  | 33, 4 => ([(0, .any), (3, .any), (4, .any), (5, .any)], [(0, .any), (2, .any), (3, .any), (4, .any)])
  | 34, 4 => ([(0, .any), (3, .any), (4, .any), (5, .any)], [(0, .any), (2, .any), (3, .any), (4, .any)])
  | 37, 38 => ([(7, .any), (8, .any), (9, .any)], [(4, .any), (9, .any)])
  | 40, 3 => ([(0, .any), (3, .any), (4, .any)], [(0, .any), (2, .any), (3, .any)])
  | 40, 14 => ([(0, .any), (3, .any), (4, .any), (5, .any), (6, .any)], [(0, .any), (2, .any), (3, .any), (4, .any)])
  | 40, 20 => ([(0, .any), (3, .any), (4, .any), (7, .any), (8, .any)], [(0, .any), (2, .any), (3, .any), (4, .any)])
  | 41, 3 => ([(0, .any), (3, .ownSlice 5), (4, .any)], [(2, .any), (3, .ownSlice 5)])
  | 41, 5 => ([(0, .any), (3, .ownSlice 5), (4, .any), (5, .any)], [(0, .any), (2, .any), (3, .ownSlice 5), (4, .any), (5, .any)])
  | 42, 3 => ([(0, .any), (3, .any), (4, .any)], [(2, .any), (3, .any)])
  | 43, 3 => ([(0, .any), (3, .any), (6, .any), (7, .any)], [(2, .any), (3, .any)])
  | 44, 3 => ([(0, .any), (5, .any), (10, .any), (11, .any)], [(4, .any), (5, .any)])
  | 46, 4 => ([(0, .any), (3, .any)], [(2, .any), (3, .any)])
  | 47, 4 => ([(0, .any), (1, .any), (6, .any), (7, .any), (8, .any)], [(4, .any), (5, .any), (6, .any), (7, .any)])
  | 47, 7 => ([(0, .any), (1, .any), (6, .any), (7, .any), (8, .any), (9, .any)], [(0, .any), (1, .any), (4, .any), (5, .any), (6, .any), (7, .any), (8, .any), (9, .any)])
  | 48, 1 => ([(0, .any), (1, .any), (1000000, .any)], [(0, .any), (4, .ownSlice 5), (1000000, .any)])
  | 49, 3 => ([(0, .any), (1, .any), (6, .any), (7, .any), (8, .any)], [(4, .any), (5, .any), (6, .any), (7, .any)])
  | 49, 6 => ([(0, .any), (1, .any), (6, .any), (7, .any), (8, .any), (9, .any)], [(0, .any), (1, .any), (4, .any), (5, .any), (6, .any), (7, .any), (8, .any), (9, .any)])
  | 50, 2 => ([(0, .any), (3, .any)], [(2, .any), (3, .any)])
  | 56, 3 => ([(0, .any), (5, .any), (6, .any)], [(4, .any), (5, .any)])
  | _, _ => ([], [])
noncomputable def FT : FuncId → Option Func := fun f => Go.Proofs.Try.prog.funcs[f]?
end Go.Proofs.Ytmaaolemlobjeaa.V
