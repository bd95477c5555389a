/- The tables of this translation for the plain evaluator: types, functions, the slots that live at a loop's head. No condition. -/
import Derived.Test.YtlggbfmpfhohjaaProg
import Derived.Test.YtlggbfmpfhohjaaV21
namespace Go.Proofs.Ytlggbfmpfhohjaa.V
open Go
def tabL : List TyR := [
  ⟨.other, [], 0, false⟩,
  ⟨.func, [.func], 8, false⟩,
  ⟨.int .i64, [.int .i64], 8, false⟩,
  ⟨.int .i64, [.int .i64], 8, false⟩,
  ⟨.bool, [.bool], 1, false⟩,
  ⟨.int .u8, [.int .u8], 1, false⟩,
  ⟨.int .u8, [.int .u8], 1, false⟩,
  ⟨.struct [(0, 2), (1, 3), (2, 4), (3, 6)], [.int .i64, .int .i64, .bool, .int .u8], 24, false⟩,
  ⟨.struct [(0, 2), (1, 3), (2, 4), (3, 6)], [.int .i64, .int .i64, .bool, .int .u8], 24, false⟩,
  ⟨.str, [.str], 16, false⟩,
  ⟨.str, [.str], 16, false⟩,
  ⟨.str, [.str], 16, false⟩,
  ⟨.int .u64, [.int .u64], 8, false⟩,
  ⟨.struct [(0, 9), (1, 12)], [.str, .int .u64], 24, false⟩,
  ⟨.struct [(0, 9), (1, 12)], [.str, .int .u64], 24, false⟩,
  ⟨.ptr 141, [.ptr 141], 8, false⟩,
  ⟨.ptr 144, [.ptr 144], 8, false⟩,
  ⟨.ptr 151, [.ptr 151], 8, false⟩,
  ⟨.struct [(0, 17)], [.ptr 151], 8, false⟩,
  ⟨.struct [(0, 17)], [.ptr 151], 8, false⟩,
  ⟨.other, [], 0, false⟩,
  ⟨.int .i32, [.int .i32], 4, false⟩,
  ⟨.slice 9, [.slice 9], 24, false⟩,
  ⟨.slice 2, [.slice 2], 24, false⟩,
  ⟨.slice 73, [.slice 73], 24, false⟩,
  ⟨.slice 27, [.slice 27], 24, false⟩,
  ⟨.struct [(0, 2), (1, 2), (2, 4), (3, 4), (4, 22), (5, 23), (6, 24), (7, 25), (8, 2)], [.int .i64, .int .i64, .bool, .bool, .slice 9, .slice 2, .slice 73, .slice 27, .int .i64], 128, false⟩,
  ⟨.struct [(0, 2), (1, 2), (2, 4), (3, 4), (4, 22), (5, 23), (6, 24), (7, 25), (8, 2)], [.int .i64, .int .i64, .bool, .bool, .slice 9, .slice 2, .slice 73, .slice 27, .int .i64], 128, false⟩,
  ⟨.func, [.func], 8, false⟩,
  ⟨.slice 77, [.slice 77], 24, false⟩,
  ⟨.slice 32, [.slice 32], 24, false⟩,
  ⟨.struct [(0, 2), (1, 2), (2, 4), (3, 4), (4, 22), (5, 23), (6, 29), (7, 30), (8, 2)], [.int .i64, .int .i64, .bool, .bool, .slice 9, .slice 2, .slice 77, .slice 32, .int .i64], 128, false⟩,
  ⟨.struct [(0, 2), (1, 2), (2, 4), (3, 4), (4, 22), (5, 23), (6, 29), (7, 30), (8, 2)], [.int .i64, .int .i64, .bool, .bool, .slice 9, .slice 2, .slice 77, .slice 32, .int .i64], 128, false⟩,
  ⟨.func, [.func], 8, false⟩,
  ⟨.func, [.func], 8, false⟩,
  ⟨.func, [.func], 8, false⟩,
  ⟨.func, [.func], 8, false⟩,
  ⟨.func, [.func], 8, false⟩,
  ⟨.func, [.func], 8, false⟩,
  ⟨.other, [], 0, false⟩,
  ⟨.func, [.func], 8, false⟩,
  ⟨.func, [.func], 8, false⟩,
  ⟨.func, [.func], 8, false⟩,
  ⟨.other, [], 0, false⟩,
  ⟨.func, [.func], 8, false⟩,
  ⟨.func, [.func], 8, false⟩,
  ⟨.func, [.func], 8, false⟩,
  ⟨.func, [.func], 8, false⟩,
  ⟨.func, [.func], 8, false⟩,
  ⟨.func, [.func], 8, false⟩,
  ⟨.func, [.func], 8, false⟩,
  ⟨.func, [.func], 8, false⟩,
  ⟨.func, [.func], 8, false⟩,
  ⟨.func, [.func], 8, false⟩,
  ⟨.func, [.func], 8, false⟩,
  ⟨.func, [.func], 8, false⟩,
  ⟨.func, [.func], 8, false⟩,
  ⟨.func, [.func], 8, false⟩,
  ⟨.func, [.func], 8, false⟩,
  ⟨.func, [.func], 8, false⟩,
  ⟨.func, [.func], 8, false⟩,
  ⟨.other, [], 0, false⟩,
  ⟨.func, [.func], 8, false⟩,
  ⟨.func, [.func], 8, false⟩,
  ⟨.func, [.func], 8, false⟩,
  ⟨.func, [.func], 8, false⟩,
  ⟨.func, [.func], 8, false⟩,
  ⟨.func, [.func], 8, false⟩,
  ⟨.func, [.func], 8, false⟩,
  ⟨.func, [.func], 8, false⟩,
  ⟨.func, [.func], 8, false⟩,
  ⟨.func, [.func], 8, false⟩,
  ⟨.struct [(0, 9), (1, 2), (2, 27)], [.str, .int .i64, .int .i64, .int .i64, .bool, .bool, .slice 9, .slice 2, .slice 73, .slice 27, .int .i64], 152, false⟩,
  ⟨.struct [(0, 9), (1, 2), (2, 27)], [.str, .int .i64, .int .i64, .int .i64, .bool, .bool, .slice 9, .slice 2, .slice 73, .slice 27, .int .i64], 152, false⟩,
  ⟨.func, [.func], 8, false⟩,
  ⟨.func, [.func], 8, false⟩,
  ⟨.struct [(0, 9), (1, 2), (2, 32)], [.str, .int .i64, .int .i64, .int .i64, .bool, .bool, .slice 9, .slice 2, .slice 77, .slice 32, .int .i64], 152, false⟩,
  ⟨.struct [(0, 9), (1, 2), (2, 32)], [.str, .int .i64, .int .i64, .int .i64, .bool, .bool, .slice 9, .slice 2, .slice 77, .slice 32, .int .i64], 152, false⟩,
  ⟨.func, [.func], 8, false⟩,
  ⟨.func, [.func], 8, false⟩,
  ⟨.func, [.func], 8, false⟩,
  ⟨.func, [.func], 8, false⟩,
  ⟨.func, [.func], 8, false⟩,
  ⟨.func, [.func], 8, false⟩,
  ⟨.func, [.func], 8, false⟩,
  ⟨.func, [.func], 8, false⟩,
  ⟨.other, [], 0, false⟩,
  ⟨.func, [.func], 8, false⟩,
  ⟨.func, [.func], 8, false⟩,
  ⟨.func, [.func], 8, false⟩,
  ⟨.func, [.func], 8, false⟩,
  ⟨.func, [.func], 8, false⟩,
  ⟨.func, [.func], 8, false⟩,
  ⟨.func, [.func], 8, false⟩,
  ⟨.int .u64, [.int .u64], 8, false⟩,
  ⟨.other, [], 0, false⟩,
  ⟨.func, [.func], 8, false⟩,
  ⟨.func, [.func], 8, false⟩,
  ⟨.slice 5, [.slice 5], 24, false⟩,
  ⟨.func, [.func], 8, false⟩,
  ⟨.func, [.func], 8, false⟩,
  ⟨.other, [], 0, false⟩,
  ⟨.func, [.func], 8, false⟩,
  ⟨.func, [.func], 8, false⟩,
  ⟨.int .u64, [.int .u64], 8, false⟩,
  ⟨.func, [.func], 8, false⟩,
  ⟨.func, [.func], 8, false⟩,
  ⟨.func, [.func], 8, false⟩,
  ⟨.func, [.func], 8, false⟩,
  ⟨.func, [.func], 8, false⟩,
  ⟨.func, [.func], 8, false⟩,
  ⟨.other, [], 0, false⟩,
  ⟨.func, [.func], 8, false⟩,
  ⟨.func, [.func], 8, false⟩,
  ⟨.ptr 116, [.ptr 116], 8, false⟩,
  ⟨.struct [(0, 114), (1, 98)], [.ptr 116, .slice 5], 32, false⟩,
  ⟨.bld 5, [], 0, false⟩,
  ⟨.func, [.func], 8, false⟩,
  ⟨.other, [], 0, false⟩,
  ⟨.other, [], 0, false⟩,
  ⟨.other, [], 0, false⟩,
  ⟨.func, [.func], 8, false⟩,
  ⟨.func, [.func], 8, false⟩,
  ⟨.func, [.func], 8, false⟩,
  ⟨.func, [.func], 8, false⟩,
  ⟨.func, [.func], 8, false⟩,
  ⟨.func, [.func], 8, false⟩,
  ⟨.func, [.func], 8, false⟩,
  ⟨.func, [.func], 8, false⟩,
  ⟨.func, [.func], 8, false⟩,
  ⟨.func, [.func], 8, false⟩,
  ⟨.int .u32, [.int .u32], 4, false⟩,
  ⟨.other, [], 0, false⟩,
  ⟨.func, [.func], 8, false⟩,
  ⟨.other, [], 0, false⟩,
  ⟨.func, [.func], 8, false⟩,
  ⟨.ptr 5, [.ptr 5], 8, false⟩,
  ⟨.other, [], 0, false⟩,
  ⟨.func, [.func], 8, false⟩,
  ⟨.func, [.func], 8, false⟩,
  ⟨.struct [(0, 17), (1, 17), (2, 17), (3, 9)], [.ptr 151, .ptr 151, .ptr 151, .str], 40, false⟩,
  ⟨.struct [(0, 17), (1, 17), (2, 17), (3, 9)], [.ptr 151, .ptr 151, .ptr 151, .str], 40, false⟩,
  ⟨.other, [], 0, false⟩,
  ⟨.other, [], 0, false⟩,
  ⟨.other, [], 0, false⟩,
  ⟨.int .u8, [.int .u8], 1, false⟩,
  ⟨.int .u8, [.int .u8], 1, false⟩,
  ⟨.func, [.func], 8, false⟩,
  ⟨.int .i32, [.int .i32], 4, false⟩,
  ⟨.int .i32, [.int .i32], 4, false⟩,
  ⟨.other, [], 0, false⟩,
  ⟨.other, [], 0, false⟩]
def methL : List (Nat × Nat) := [(15, 0), (45, 0), (46, 0), (47, 0), (48, 0), (123, 0), (135, 1), (136, 3), (137, 2), (500032, 0)]
def tab : Tab := mkTab tabL methL
def live : FuncId → Nat → Live × Live
  | 29, 5 => ([(0, .any), (1, .any), (5, .any)], [(1, .any), (4, .any)])
  | 31, 5 => ([(0, .any), (1, .any), (5, .any)], [(1, .any), (4, .any)])
  | 32, 5 => ([(0, .any), (1, .any), (5, .any)], [(1, .any), (4, .any)])
  | 34, 3 => ([(1, .any), (2, .any), (3, .any), (4, .any)], [(1, .any), (2, .any), (3, .any)])
  | 34, 8 => ([(1, .any), (2, .any), (3, .any), (5, .any), (6, .any)], [(1, .any), (2, .any), (3, .any), (5, .any)])
  | 35, 3 => ([(0, .any), (3, .any), (4, .any)], [(2, .ownSlice 9), (3, .any)])
  | 36, 3 => ([(0, .any), (3, .any), (4, .any)], [(2, .ownSlice 2), (3, .any)])
  | 37, 3 => ([(0, .any), (3, .any), (4, .any)], [(2, .ownSlice 77), (3, .any)])
  | 38, 3 => ([(0, .any), (3, .any), (4, .any)], [(2, .ownSlice 32), (3, .any)])
  | 40, 5 => ([(2, .any), (3, .any), (13, .any), (14, .any), (15, .any)], [(2, .any), (3, .any)])
  | 41, 4 => ([(0, .any), (1, .any), (5, .any)], [(4, .any)])
  | 42, 4 => ([(0, .any), (1, .any), (5, .any)], [(4, .any)])
  | 43, 4 => ([(0, .any), (1, .any), (5, .any)], [(4, .any)])
  | 44, 4 => ([(0, .any), (1, .any), (5, .any)], [(4, .any)])
  | 45, 2 => ([(0, .any), (1, .any), (5, .any), (1000000, .any)], [(1, .any), (4, .any), (1000000, .any)])
  | 46, 2 => ([(0, .any), (1, .any), (5, .any), (1000000, .any)], [(1, .any), (4, .any), (1000000, .any)])
  | 47, 2 => ([(0, .any), (1, .any), (5, .any), (1000000, .any)], [(1, .any), (4, .any), (1000000, .any)])
  | 48, 2 => ([(0, .any), (1, .any), (5, .any), (1000000, .any)], [(1, .any), (4, .any), (1000000, .any)])
  | 49, 2 => ([(0, .any), (1, .any), (5, .any)], [(1, .any), (4, .any)])
  | 50, 2 => ([(0, .any), (1, .any), (5, .any)], [(1, .any), (4, .any)])
  | 51, 2 => ([(0, .any), (1, .any), (5, .any)], [(1, .any), (4, .any)])
  | 52, 2 => ([(0, .any), (1, .any), (5, .any)], [(1, .any), (4, .any)])
  | 53, 8 => ([(2, .any), (3, .any), (5, .any)], [(4, .any)])
  | 60, 15 => ([(1, .any), (3, .any), (5, .any)], [(2, .any), (3, .any)])
  | 60, 21 => ([(1, .any), (3, .any), (6, .any)], [(2, .any), (3, .any)])
  | 61, 10 => ([(1, .any), (3, .any), (52, .any), (53, .any), (54, .any)], [(2, .any), (3, .any)])
  | 61, 17 => ([(1, .any), (3, .any), (84, .any), (85, .any), (86, .any)], [(2, .any), (3, .any)])
  | 62, 7 => ([(1, .any), (2, .any), (7, .any), (8, .any)], [(2, .any), (4, .any), (7, .any)])
  | 65, 14 => ([(2, .any), (3, .any), (9, .any)], [(4, .any)])
  | 67, 7 => ([(1, .any), (3, .any), (4, .any)], [(1, .any), (2, .any), (3, .any)])
  | 67, 15 => ([(1, .any), (6, .any), (7, .any)], [(1, .any), (2, .any), (6, .any)])
  | 68, 9 => ([(1, .any), (3, .any), (33, .any), (34, .any), (35, .any)], [(1, .any), (2, .any), (3, .any)])
  | 72, 7 => ([(1, .any), (3, .any), (4, .any), (5, .any)], [(2, .any)])
  | 72, 12 => ([(1, .any), (3, .any), (4, .any), (5, .any), (6, .any)], [(1, .any), (2, .any), (3, .any), (4, .any), (5, .any)])
  | 73, 7 => ([(1, .any), (3, .any), (4, .any)], [(1, .any), (2, .any), (3, .any)])
  | 73, 13 => ([(1, .any), (3, .any), (4, .any), (5, .any), (6, .any)], [(1, .any), (2, .any), (3, .any), (4, .any), (5, .any)])
  | 77, 5 => ([(1, .any), (3, .any), (4, .any)], [(2, .any), (3, .any)])
  | 78, 6 => ([(1, .any), (2, .any), (3, .any), (4, .any)], [(1, .any), (2, .any), (3, .any)])
  | 78, 13 => ([(1, .any), (2, .any), (3, .any), (6, .any)], [(2, .any), (3, .any)])
  | 81, 5 => ([(1, .any), (2, .any), (4, .any), (5, .any), (22, .any), (23, .any), (24, .any)], [(1, .any), (2, .any), (4, .any), (5, .any)])
  | 81, 10 => ([(1, .any), (2, .any), (4, .any), (5, .any), (44, .any), (45, .any), (46, .any)], [(4, .any), (5, .any)])
  | 84, 4 => ([(0, .any), (3, .any)], [(2, .any), (3, .any)])
  | 86, 2 => ([(1, .any), (2, .any), (5, .any)], [(4, .any)])
  | 88, 2 => ([(0, .any), (1, .any), (5, .any)], [(4, .any)])
  | 90, 3 => ([(0, .any), (1, .any), (2, .any), (7, .any), (8, .any)], [(6, .any), (7, .any)])
  | 95, 3 => ([(0, .any), (5, .any), (10, .any), (11, .any)], [(4, .any), (5, .any)])
  | 103, 3 => ([(0, .any), (1, .any), (6, .any), (7, .any), (8, .any)], [(0, .any), (1, .any), (4, .any), (5, .any), (6, .any), (7, .any)])
  | 104, 2 => ([(2, .any), (3, .any), (5, .any)], [(4, .any)])
  | 108, 38 => ([(7, .any), (8, .any), (9, .any)], [(4, .any), (9, .any)])
  | 110, 4 => ([(0, .any), (3, .any)], [(2, .any)])
  | 115, 5 => ([(1, .any), (3, .any), (4, .any), (36, .any), (37, .any), (38, .any)], [(1, .any), (2, .any)])
  | 116, 6 => ([(1, .any), (2, .any), (5, .any), (6, .ownSlice 9), (21, .any), (22, .any), (23, .any)], [(2, .any), (4, .any), (5, .any), (6, .ownSlice 9)])
  | 122, 2 => ([(0, .any), (1, .any), (7, .any), (8, .any)], [(4, .any)])
  | 123, 1 => ([(0, .any), (2, .any), (3, .any), (1000000, .any)], [(1000000, .any)])
  | 126, 2 => ([(1, .any), (2, .any), (5, .any)], [(4, .any)])
  | 139, 4 => ([(0, .any), (1, .any), (12, .any), (13, .any)], [(4, .any)])
  | 140, 4 => ([(0, .any), (1, .any), (12, .any), (13, .any)], [(4, .any)])
  | 141, 4 => ([(1, .any), (2, .any), (15, .any), (16, .any), (17, .any)], [(6, .any)])
  | 143, 4 => ([(1, .any), (2, .any), (15, .any), (16, .any), (17, .any)], [(6, .any)])
  | 144, 2 => ([(0, .any), (5, .any), (6, .any), (7, .any)], [(2, .any)])
  | 145, 2 => ([(0, .any), (1, .any), (7, .any), (8, .any)], [(4, .any)])
  | 148, 2 => ([(0, .any), (1, .any), (7, .any), (8, .any)], [(4, .any)])
  | 149, 2 => ([(0, .any), (1, .any), (7, .any), (8, .any)], [(4, .any)])
  | 150, 2 => ([(0, .any), (1, .any), (7, .any), (8, .any)], [(4, .any)])
  | 156, 2 => ([(0, .any), (7, .any), (8, .any)], [(0, .any), (2, .any)])
  | _, _ => ([], [])
noncomputable def FT : FuncId → Option Func := fun f => Go.Proofs.Try.prog.funcs[f]?
end Go.Proofs.Ytlggbfmpfhohjaa.V
