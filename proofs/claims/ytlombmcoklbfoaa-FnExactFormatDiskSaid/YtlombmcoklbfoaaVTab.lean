/- The tables of this translation for the plain evaluator: types, functions, the slots that live at a loop's head. No condition. -/
import Derived.Test.YtlombmcoklbfoaaProg
import Derived.Test.YtlombmcoklbfoaaV21
namespace Go.Proofs.Ytlombmcoklbfoaa.V
open Go
def tabL : List TyR := [
  ⟨.other, [], 0, false⟩,
  ⟨.func, [.func], 8, false⟩,
  ⟨.int .i64, [.int .i64], 8, false⟩,
  ⟨.int .i64, [.int .i64], 8, false⟩,
  ⟨.bool, [.bool], 1, false⟩,
  ⟨.int .u8, [.int .u8], 1, false⟩,
  ⟨.int .u8, [.int .u8], 1, false⟩,
  ⟨.struct [(0, 2), (1, 3), (2, 4), (3, 6)], [.int .i64, .int .i64, .bool, .int .u8], 24, false⟩,
  ⟨.struct [(0, 2), (1, 3), (2, 4), (3, 6)], [.int .i64, .int .i64, .bool, .int .u8], 24, false⟩,
  ⟨.str, [.str], 16, false⟩,
  ⟨.str, [.str], 16, false⟩,
  ⟨.str, [.str], 16, false⟩,
  ⟨.int .u64, [.int .u64], 8, false⟩,
  ⟨.struct [(0, 9), (1, 12)], [.str, .int .u64], 24, false⟩,
  ⟨.struct [(0, 9), (1, 12)], [.str, .int .u64], 24, false⟩,
  ⟨.ptr 78, [.ptr 78], 8, false⟩,
  ⟨.ptr 81, [.ptr 81], 8, false⟩,
  ⟨.ptr 88, [.ptr 88], 8, false⟩,
  ⟨.struct [(0, 17)], [.ptr 88], 8, false⟩,
  ⟨.struct [(0, 17)], [.ptr 88], 8, false⟩,
  ⟨.other, [], 0, false⟩,
  ⟨.int .i32, [.int .i32], 4, false⟩,
  ⟨.slice 9, [.slice 9], 24, false⟩,
  ⟨.slice 50, [.slice 50], 24, false⟩,
  ⟨.struct [(0, 22), (1, 23), (2, 2), (3, 4)], [.slice 9, .slice 50, .int .i64, .bool], 64, false⟩,
  ⟨.struct [(0, 22), (1, 23), (2, 2), (3, 4)], [.slice 9, .slice 50, .int .i64, .bool], 64, false⟩,
  ⟨.other, [], 0, false⟩,
  ⟨.func, [.func], 8, false⟩,
  ⟨.func, [.func], 8, false⟩,
  ⟨.func, [.func], 8, false⟩,
  ⟨.func, [.func], 8, false⟩,
  ⟨.struct [(0, 2), (1, 2), (2, 2), (3, 2)], [.int .i64, .int .i64, .int .i64, .int .i64], 32, false⟩,
  ⟨.struct [(0, 2), (1, 2), (2, 2), (3, 2)], [.int .i64, .int .i64, .int .i64, .int .i64], 32, false⟩,
  ⟨.func, [.func], 8, false⟩,
  ⟨.func, [.func], 8, false⟩,
  ⟨.func, [.func], 8, false⟩,
  ⟨.func, [.func], 8, false⟩,
  ⟨.func, [.func], 8, false⟩,
  ⟨.func, [.func], 8, false⟩,
  ⟨.func, [.func], 8, false⟩,
  ⟨.func, [.func], 8, false⟩,
  ⟨.func, [.func], 8, false⟩,
  ⟨.func, [.func], 8, false⟩,
  ⟨.func, [.func], 8, false⟩,
  ⟨.func, [.func], 8, false⟩,
  ⟨.func, [.func], 8, false⟩,
  ⟨.func, [.func], 8, false⟩,
  ⟨.func, [.func], 8, false⟩,
  ⟨.func, [.func], 8, false⟩,
  ⟨.struct [(0, 2), (1, 9)], [.int .i64, .str], 24, false⟩,
  ⟨.struct [(0, 2), (1, 9)], [.int .i64, .str], 24, false⟩,
  ⟨.func, [.func], 8, false⟩,
  ⟨.int .u64, [.int .u64], 8, false⟩,
  ⟨.other, [], 0, false⟩,
  ⟨.func, [.func], 8, false⟩,
  ⟨.func, [.func], 8, false⟩,
  ⟨.slice 5, [.slice 5], 24, false⟩,
  ⟨.int .u64, [.int .u64], 8, false⟩,
  ⟨.int .u32, [.int .u32], 4, false⟩,
  ⟨.other, [], 0, false⟩,
  ⟨.func, [.func], 8, false⟩,
  ⟨.other, [], 0, false⟩,
  ⟨.func, [.func], 8, false⟩,
  ⟨.func, [.func], 8, false⟩,
  ⟨.ptr 66, [.ptr 66], 8, false⟩,
  ⟨.struct [(0, 64), (1, 56)], [.ptr 66, .slice 5], 32, false⟩,
  ⟨.bld 5, [], 0, false⟩,
  ⟨.func, [.func], 8, false⟩,
  ⟨.other, [], 0, false⟩,
  ⟨.other, [], 0, false⟩,
  ⟨.other, [], 0, false⟩,
  ⟨.func, [.func], 8, false⟩,
  ⟨.func, [.func], 8, false⟩,
  ⟨.ptr 5, [.ptr 5], 8, false⟩,
  ⟨.other, [], 0, false⟩,
  ⟨.func, [.func], 8, false⟩,
  ⟨.func, [.func], 8, false⟩,
  ⟨.struct [(0, 17), (1, 17), (2, 17), (3, 9)], [.ptr 88, .ptr 88, .ptr 88, .str], 40, false⟩,
  ⟨.struct [(0, 17), (1, 17), (2, 17), (3, 9)], [.ptr 88, .ptr 88, .ptr 88, .str], 40, false⟩,
  ⟨.other, [], 0, false⟩,
  ⟨.other, [], 0, false⟩,
  ⟨.other, [], 0, false⟩,
  ⟨.int .u8, [.int .u8], 1, false⟩,
  ⟨.int .u8, [.int .u8], 1, false⟩,
  ⟨.func, [.func], 8, false⟩,
  ⟨.int .i32, [.int .i32], 4, false⟩,
  ⟨.int .i32, [.int .i32], 4, false⟩,
  ⟨.other, [], 0, false⟩,
  ⟨.other, [], 0, false⟩]
def methL : List (Nat × Nat) := [(7, 0), (16, 0), (17, 0), (39, 1), (40, 3), (41, 2)]
def tab : Tab := mkTab tabL methL
def live : FuncId → Nat → Live × Live
  | 14, 4 => ([(0, .any), (1, .any), (5, .any)], [(4, .any)])
  | 15, 4 => ([(0, .any), (1, .any), (5, .any)], [(4, .any)])
  | 16, 2 => ([(0, .any), (1, .any), (5, .any), (1000000, .any)], [(1, .any), (4, .any), (1000000, .any)])
  | 17, 2 => ([(0, .any), (1, .any), (5, .any), (1000000, .any)], [(1, .any), (4, .any), (1000000, .any)])
  | 18, 2 => ([(0, .any), (1, .any), (5, .any)], [(1, .any), (4, .any)])
  | 19, 2 => ([(0, .any), (1, .any), (5, .any)], [(1, .any), (4, .any)])
  | 21, 3 => ([(0, .any), (2, .any), (3, .any), (4, .any)], [(2, .any), (3, .any)])
  | 24, 8 => ([(7, .any), (8, .any)], [(4, .ownSlice 9), (7, .any)])
  | 26, 3 => ([(0, .any), (5, .any), (10, .any), (11, .any)], [(4, .any), (5, .any)])
  | 29, 4 => ([(0, .any), (3, .any)], [(2, .any), (3, .any)])
  | 31, 3 => ([(0, .any), (1, .any), (5, .any), (6, .any)], [(4, .any), (5, .any)])
  | 34, 38 => ([(7, .any), (8, .any), (9, .any)], [(4, .any), (9, .any)])
  | _, _ => ([], [])
noncomputable def FT : FuncId → Option Func := fun f => Go.Proofs.Try.prog.funcs[f]?
end Go.Proofs.Ytlombmcoklbfoaa.V
