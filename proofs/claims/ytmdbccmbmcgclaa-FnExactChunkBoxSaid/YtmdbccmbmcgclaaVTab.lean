/- The tables of this translation for the plain evaluator: types, functions, the slots that live at a loop's head. No condition. -/
import Derived.Test.YtmdbccmbmcgclaaProg
import Derived.Test.YtmdbccmbmcgclaaV21
namespace Go.Proofs.Ytmdbccmbmcgclaa.V
open Go
def tabL : List TyR := [
  ⟨.other, [], 0, false⟩,
  ⟨.func, [.func], 8, false⟩,
  ⟨.int .i64, [.int .i64], 8, false⟩,
  ⟨.int .i64, [.int .i64], 8, false⟩,
  ⟨.bool, [.bool], 1, false⟩,
  ⟨.int .u8, [.int .u8], 1, false⟩,
  ⟨.int .u8, [.int .u8], 1, false⟩,
  ⟨.struct [(0, 2), (1, 3), (2, 4), (3, 6)], [.int .i64, .int .i64, .bool, .int .u8], 24, false⟩,
  ⟨.struct [(0, 2), (1, 3), (2, 4), (3, 6)], [.int .i64, .int .i64, .bool, .int .u8], 24, false⟩,
  ⟨.str, [.str], 16, false⟩,
  ⟨.str, [.str], 16, false⟩,
  ⟨.str, [.str], 16, false⟩,
  ⟨.int .u64, [.int .u64], 8, false⟩,
  ⟨.struct [(0, 9), (1, 12)], [.str, .int .u64], 24, false⟩,
  ⟨.struct [(0, 9), (1, 12)], [.str, .int .u64], 24, false⟩,
  ⟨.ptr 189, [.ptr 189], 8, false⟩,
  ⟨.ptr 192, [.ptr 192], 8, false⟩,
  ⟨.ptr 199, [.ptr 199], 8, false⟩,
  ⟨.struct [(0, 17)], [.ptr 199], 8, false⟩,
  ⟨.struct [(0, 17)], [.ptr 199], 8, false⟩,
  ⟨.other, [], 0, false⟩,
  ⟨.int .i32, [.int .i32], 4, false⟩,
  ⟨.slice 2, [.slice 2], 24, false⟩,
  ⟨.func, [.func], 8, false⟩,
  ⟨.func, [.func], 8, false⟩,
  ⟨.func, [.func], 8, false⟩,
  ⟨.func, [.func], 8, false⟩,
  ⟨.func, [.func], 8, false⟩,
  ⟨.func, [.func], 8, false⟩,
  ⟨.struct [(0, 22), (1, 22)], [.slice 2, .slice 2], 48, false⟩,
  ⟨.struct [(0, 22), (1, 22)], [.slice 2, .slice 2], 48, false⟩,
  ⟨.other, [], 0, false⟩,
  ⟨.func, [.func], 8, false⟩,
  ⟨.func, [.func], 8, false⟩,
  ⟨.func, [.func], 8, false⟩,
  ⟨.func, [.func], 8, false⟩,
  ⟨.slice 113, [.slice 113], 24, false⟩,
  ⟨.struct [(0, 2), (1, 22), (2, 22), (3, 22), (4, 22), (5, 36)], [.int .i64, .slice 2, .slice 2, .slice 2, .slice 2, .slice 113], 128, false⟩,
  ⟨.struct [(0, 2), (1, 22), (2, 22), (3, 22), (4, 22), (5, 36)], [.int .i64, .slice 2, .slice 2, .slice 2, .slice 2, .slice 113], 128, false⟩,
  ⟨.func, [.func], 8, false⟩,
  ⟨.slice 71, [.slice 71], 24, false⟩,
  ⟨.other, [], 0, false⟩,
  ⟨.func, [.func], 8, false⟩,
  ⟨.slice 116, [.slice 116], 24, false⟩,
  ⟨.struct [(0, 2), (1, 22), (2, 22), (3, 22), (4, 22), (5, 43)], [.int .i64, .slice 2, .slice 2, .slice 2, .slice 2, .slice 116], 128, false⟩,
  ⟨.struct [(0, 2), (1, 22), (2, 22), (3, 22), (4, 22), (5, 43)], [.int .i64, .slice 2, .slice 2, .slice 2, .slice 2, .slice 116], 128, false⟩,
  ⟨.func, [.func], 8, false⟩,
  ⟨.func, [.func], 8, false⟩,
  ⟨.func, [.func], 8, false⟩,
  ⟨.func, [.func], 8, false⟩,
  ⟨.func, [.func], 8, false⟩,
  ⟨.func, [.func], 8, false⟩,
  ⟨.func, [.func], 8, false⟩,
  ⟨.func, [.func], 8, false⟩,
  ⟨.slice 5, [.slice 5], 24, false⟩,
  ⟨.other, [], 0, false⟩,
  ⟨.func, [.func], 8, false⟩,
  ⟨.func, [.func], 8, false⟩,
  ⟨.func, [.func], 8, false⟩,
  ⟨.func, [.func], 8, false⟩,
  ⟨.func, [.func], 8, false⟩,
  ⟨.func, [.func], 8, false⟩,
  ⟨.other, [], 0, false⟩,
  ⟨.func, [.func], 8, false⟩,
  ⟨.func, [.func], 8, false⟩,
  ⟨.slice 30, [.slice 30], 24, false⟩,
  ⟨.func, [.func], 8, false⟩,
  ⟨.func, [.func], 8, false⟩,
  ⟨.func, [.func], 8, false⟩,
  ⟨.slice 4, [.slice 4], 24, false⟩,
  ⟨.struct [(0, 2), (1, 22), (2, 22)], [.int .i64, .slice 2, .slice 2], 56, false⟩,
  ⟨.struct [(0, 2), (1, 22), (2, 22)], [.int .i64, .slice 2, .slice 2], 56, false⟩,
  ⟨.func, [.func], 8, false⟩,
  ⟨.func, [.func], 8, false⟩,
  ⟨.other, [], 0, false⟩,
  ⟨.func, [.func], 8, false⟩,
  ⟨.func, [.func], 8, false⟩,
  ⟨.other, [], 0, false⟩,
  ⟨.func, [.func], 8, false⟩,
  ⟨.func, [.func], 8, false⟩,
  ⟨.func, [.func], 8, false⟩,
  ⟨.func, [.func], 8, false⟩,
  ⟨.func, [.func], 8, false⟩,
  ⟨.func, [.func], 8, false⟩,
  ⟨.func, [.func], 8, false⟩,
  ⟨.func, [.func], 8, false⟩,
  ⟨.ptr 127, [.ptr 127], 8, false⟩,
  ⟨.func, [.func], 8, false⟩,
  ⟨.other, [], 0, false⟩,
  ⟨.func, [.func], 8, false⟩,
  ⟨.func, [.func], 8, false⟩,
  ⟨.func, [.func], 8, false⟩,
  ⟨.func, [.func], 8, false⟩,
  ⟨.func, [.func], 8, false⟩,
  ⟨.func, [.func], 8, false⟩,
  ⟨.func, [.func], 8, false⟩,
  ⟨.func, [.func], 8, false⟩,
  ⟨.ptr 99, [.ptr 99], 8, false⟩,
  ⟨.struct [(0, 97), (1, 54)], [.ptr 99, .slice 5], 32, false⟩,
  ⟨.bld 5, [], 0, false⟩,
  ⟨.func, [.func], 8, false⟩,
  ⟨.other, [], 0, false⟩,
  ⟨.other, [], 0, false⟩,
  ⟨.other, [], 0, false⟩,
  ⟨.func, [.func], 8, false⟩,
  ⟨.func, [.func], 8, false⟩,
  ⟨.func, [.func], 8, false⟩,
  ⟨.func, [.func], 8, false⟩,
  ⟨.func, [.func], 8, false⟩,
  ⟨.func, [.func], 8, false⟩,
  ⟨.func, [.func], 8, false⟩,
  ⟨.func, [.func], 8, false⟩,
  ⟨.struct [(0, 22)], [.slice 2], 24, false⟩,
  ⟨.struct [(0, 22)], [.slice 2], 24, false⟩,
  ⟨.func, [.func], 8, false⟩,
  ⟨.func, [.func], 8, false⟩,
  ⟨.struct [(0, 22)], [.slice 2], 24, false⟩,
  ⟨.func, [.func], 8, false⟩,
  ⟨.other, [], 0, false⟩,
  ⟨.func, [.func], 8, false⟩,
  ⟨.func, [.func], 8, false⟩,
  ⟨.func, [.func], 8, false⟩,
  ⟨.func, [.func], 8, false⟩,
  ⟨.func, [.func], 8, false⟩,
  ⟨.func, [.func], 8, false⟩,
  ⟨.int .u64, [.int .u64], 8, false⟩,
  ⟨.struct [(0, 54), (1, 3), (2, 125)], [.slice 5, .int .i64, .int .u64], 40, false⟩,
  ⟨.struct [(0, 54), (1, 3), (2, 125)], [.slice 5, .int .i64, .int .u64], 40, false⟩,
  ⟨.func, [.func], 8, false⟩,
  ⟨.func, [.func], 8, false⟩,
  ⟨.func, [.func], 8, false⟩,
  ⟨.func, [.func], 8, false⟩,
  ⟨.func, [.func], 8, false⟩,
  ⟨.int .u64, [.int .u64], 8, false⟩,
  ⟨.other, [], 0, false⟩,
  ⟨.func, [.func], 8, false⟩,
  ⟨.func, [.func], 8, false⟩,
  ⟨.func, [.func], 8, false⟩,
  ⟨.ptr 5, [.ptr 5], 8, false⟩,
  ⟨.func, [.func], 8, false⟩,
  ⟨.func, [.func], 8, false⟩,
  ⟨.func, [.func], 8, false⟩,
  ⟨.func, [.func], 8, false⟩,
  ⟨.func, [.func], 8, false⟩,
  ⟨.func, [.func], 8, false⟩,
  ⟨.func, [.func], 8, false⟩,
  ⟨.func, [.func], 8, false⟩,
  ⟨.func, [.func], 8, false⟩,
  ⟨.func, [.func], 8, false⟩,
  ⟨.func, [.func], 8, false⟩,
  ⟨.func, [.func], 8, false⟩,
  ⟨.func, [.func], 8, false⟩,
  ⟨.func, [.func], 8, false⟩,
  ⟨.other, [], 0, false⟩,
  ⟨.func, [.func], 8, false⟩,
  ⟨.int .u32, [.int .u32], 4, false⟩,
  ⟨.other, [], 0, false⟩,
  ⟨.func, [.func], 8, false⟩,
  ⟨.other, [], 0, false⟩,
  ⟨.func, [.func], 8, false⟩,
  ⟨.func, [.func], 8, false⟩,
  ⟨.func, [.func], 8, false⟩,
  ⟨.slice 22, [.slice 22], 24, false⟩,
  ⟨.func, [.func], 8, false⟩,
  ⟨.func, [.func], 8, false⟩,
  ⟨.func, [.func], 8, false⟩,
  ⟨.func, [.func], 8, false⟩,
  ⟨.func, [.func], 8, false⟩,
  ⟨.int .i64, [.int .i64], 8, false⟩,
  ⟨.other, [], 0, false⟩,
  ⟨.func, [.func], 8, false⟩,
  ⟨.func, [.func], 8, false⟩,
  ⟨.func, [.func], 8, false⟩,
  ⟨.func, [.func], 8, false⟩,
  ⟨.func, [.func], 8, false⟩,
  ⟨.func, [.func], 8, false⟩,
  ⟨.func, [.func], 8, false⟩,
  ⟨.func, [.func], 8, false⟩,
  ⟨.func, [.func], 8, false⟩,
  ⟨.int .u64, [.int .u64], 8, false⟩,
  ⟨.func, [.func], 8, false⟩,
  ⟨.func, [.func], 8, false⟩,
  ⟨.func, [.func], 8, false⟩,
  ⟨.ptr 3, [.ptr 3], 8, false⟩,
  ⟨.func, [.func], 8, false⟩,
  ⟨.ptr 179, [.ptr 179], 8, false⟩,
  ⟨.other, [], 0, false⟩,
  ⟨.func, [.func], 8, false⟩,
  ⟨.struct [(0, 17), (1, 17), (2, 17), (3, 9)], [.ptr 199, .ptr 199, .ptr 199, .str], 40, false⟩,
  ⟨.struct [(0, 17), (1, 17), (2, 17), (3, 9)], [.ptr 199, .ptr 199, .ptr 199, .str], 40, false⟩,
  ⟨.other, [], 0, false⟩,
  ⟨.other, [], 0, false⟩,
  ⟨.other, [], 0, false⟩,
  ⟨.int .u8, [.int .u8], 1, false⟩,
  ⟨.int .u8, [.int .u8], 1, false⟩,
  ⟨.func, [.func], 8, false⟩,
  ⟨.int .i32, [.int .i32], 4, false⟩,
  ⟨.int .i32, [.int .i32], 4, false⟩,
  ⟨.other, [], 0, false⟩,
  ⟨.other, [], 0, false⟩]
def methL : List (Nat × Nat) := [(16, 0), (23, 0), (31, 0), (32, 0), (70, 0), (94, 3), (95, 1), (97, 2), (102, 0), (184, 0)]
def tab : Tab := mkTab tabL methL
def live : FuncId → Nat → Live × Live
  | 8, 11 => ([(3, .any), (4, .any), (7, .any), (8, .any), (9, .any)], [(2, .any), (3, .any), (4, .any), (8, .any)])
  | 8, 18 => ([(3, .any), (4, .any), (8, .any), (12, .any)], [(2, .any), (3, .any), (8, .any)])
  | 9, 8 => ([(3, .any), (4, .any), (6, .any), (7, .any), (8, .any)], [(2, .any)])
  | 10, 11 => ([(3, .any), (4, .any), (7, .any), (11, .any), (12, .any), (13, .any)], [(2, .any), (12, .any)])
  | 10, 17 => ([(3, .any), (4, .any), (7, .any), (11, .any), (12, .any), (13, .any), (14, .any), (15, .any)], [(2, .any), (3, .any), (4, .any), (7, .any), (11, .any), (12, .any), (13, .any)])
  | 10, 27 => ([(12, .any), (19, .any)], [(2, .any)])
  | 11, 9 => ([(4, .any), (7, .any)], [(2, .any)])
  | 13, 3 => ([(0, .any), (3, .any), (4, .any)], [(2, .ownSlice 2), (3, .any)])
  | 15, 4 => ([(0, .any), (1, .any), (5, .any)], [(4, .any)])
  | 16, 2 => ([(0, .any), (1, .any), (5, .any), (1000000, .any)], [(1, .any), (4, .any), (1000000, .any)])
  | 17, 2 => ([(0, .any), (1, .any), (5, .any)], [(1, .any), (4, .any)])
  | 18, 7 => ([(7, .any), (8, .any), (9, .any), (10, .any)], [(6, .ownSlice 2), (7, .any)])
  | 21, 8 => ([(0, .any), (1, .any), (6, .any), (8, .any), (10, .any), (28, .alias), (29, .any), (30, .any)], [(6, .any), (7, .any), (10, .any)])
  | 29, 4 => ([(0, .any), (1, .any), (5, .any)], [(4, .any)])
  | 32, 2 => ([(0, .any), (1, .any), (5, .any), (1000000, .any)], [(1, .any), (4, .any), (1000000, .any)])
  | 33, 2 => ([(0, .any), (1, .any), (5, .any)], [(1, .any), (4, .any)])
  | 34, 6 => ([(0, .any), (1, .any), (2, .any), (9, .any), (10, .any), (11, .any)], [(8, .ownSlice 2), (9, .any)])
  | 34, 10 => ([(0, .any), (1, .any), (2, .any), (9, .any), (10, .any), (11, .any), (12, .any), (13, .any)], [(0, .any), (1, .any), (2, .any), (8, .ownSlice 2), (9, .any), (10, .any), (11, .any), (12, .any)])
  | 36, 6 => ([(4, .any), (6, .any), (7, .any), (8, .any), (9, .any), (10, .any), (11, .any)], [(2, .ownSlice 2), (3, .ownSlice 2), (4, .any), (5, .ownSlice 2), (7, .any), (8, .any), (9, .any), (10, .any)])
  | 45, 2 => ([(0, .any), (1, .any), (5, .any)], [(4, .any)])
  | 45, 6 => ([(0, .any), (1, .any), (5, .any), (6, .any), (7, .any)], [(0, .any), (1, .any), (4, .any), (5, .any), (6, .any)])
  | 47, 2 => ([(0, .any), (1, .any), (5, .any)], [(4, .any)])
  | 51, 5 => ([(0, .any), (4, .any), (5, .any)], [(2, .any), (3, .any), (4, .any)])
  | 52, 5 => ([(0, .any), (1, .any), (5, .any), (6, .any)], [(0, .any), (1, .any), (4, .any), (5, .any)])
  | 52, 12 => ([(5, .any), (7, .any), (8, .any)], [(4, .any), (5, .any), (7, .any)])
  | 53, 4 => ([(5, .any), (6, .any), (7, .any)], [(4, .ownSlice 2), (6, .any)])
  | 54, 4 => ([(5, .any), (6, .ownSlice 2), (12, .any), (13, .any)], [(4, .ownSlice 2), (6, .ownSlice 2)])
  | 56, 2 => ([(0, .any), (1, .any), (5, .any)], [(4, .any)])
  | 59, 4 => ([(0, .any), (1, .any), (6, .any), (7, .any), (8, .any), (9, .any)], [(6, .any), (8, .any)])
  | 60, 3 => ([(2, .any), (8, .any), (15, .any), (16, .any)], [(6, .ownSlice 2), (7, .any)])
  | 62, 5 => ([(0, .any), (1, .any), (5, .any)], [(1, .any), (4, .any)])
  | 63, 8 => ([(0, .any), (3, .any), (5, .any)], [(4, .any)])
  | 63, 14 => ([(0, .any), (3, .any), (6, .any)], [(4, .any)])
  | 64, 6 => ([(0, .any), (1, .any), (7, .any), (8, .any), (9, .any), (10, .any), (11, .any)], [(6, .ownSlice 71), (8, .any), (9, .any), (10, .any)])
  | 64, 14 => ([(8, .any), (9, .any), (10, .any), (14, .any), (15, .any)], [(6, .ownSlice 71), (14, .any)])
  | 64, 18 => ([(8, .any), (9, .any), (10, .any), (14, .any), (15, .any), (16, .any), (17, .any)], [(6, .ownSlice 71), (8, .any), (9, .any), (10, .any), (14, .any), (15, .any), (16, .any)])
  | 65, 3 => ([(0, .any), (3, .any), (4, .any)], [(2, .ownSlice 116), (3, .any)])
  | 67, 3 => ([(0, .any), (1, .any), (7, .ownSlice 71), (16, .any), (17, .any), (18, .any)], [(6, .ownSlice 71), (7, .ownSlice 71)])
  | 69, 4 => ([(0, .any), (1, .any), (5, .any)], [(4, .any)])
  | 70, 2 => ([(0, .any), (1, .any), (5, .any), (1000000, .any)], [(1, .any), (4, .any), (1000000, .any)])
  | 71, 3 => ([(0, .any), (3, .any), (4, .any)], [(2, .any), (3, .any)])
  | 72, 3 => ([(0, .any), (1, .any), (5, .any), (6, .any)], [(4, .ownSlice 2), (5, .any)])
  | 73, 4 => ([(0, .any), (1, .any), (5, .any)], [(4, .any)])
  | 74, 3 => ([(0, .any), (1, .any), (2, .any), (3, .any), (9, .ownSlice 2), (15, .any), (16, .any)], [(8, .ownSlice 2), (9, .ownSlice 2)])
  | 76, 5 => ([(0, .any), (4, .any), (5, .any), (6, .any), (7, .any)], [(2, .ownSlice 2), (3, .ownSlice 2), (4, .any), (5, .any)])
  | 77, 12 => ([(0, .any), (1, .any), (4, .any), (5, .any), (6, .any)], [(0, .any), (1, .any), (4, .any), (5, .any)])
  | 77, 16 => ([(0, .any), (1, .any), (4, .any), (5, .any), (6, .any), (7, .any), (8, .any)], [(0, .any), (1, .any), (4, .any), (5, .any), (6, .any), (7, .any)])
  | 82, 3 => ([(3, .any), (6, .any), (7, .any), (8, .any)], [(2, .any), (3, .any)])
  | 83, 3 => ([(1, .any), (5, .ownSlice 2), (8, .any), (9, .any), (10, .any)], [(4, .ownSlice 2), (5, .ownSlice 2)])
  | 84, 4 => ([(1, .any), (3, .any)], [(2, .any)])
  | 85, 3 => ([(1, .any), (3, .any), (4, .any)], [(2, .any), (3, .any)])
  | 86, 5 => ([(0, .any), (3, .any), (4, .any)], [(2, .any), (3, .any)])
  | 88, 4 => ([(0, .any), (12, .any), (13, .any), (14, .any)], [(4, .any)])
  | 89, 3 => ([(0, .any), (6, .ownSlice 2), (7, .ownSlice 2), (10, .any), (11, .any), (12, .any)], [(0, .any), (4, .any), (5, .any), (6, .ownSlice 2), (7, .ownSlice 2)])
  | 90, 3 => ([(0, .any), (1, .any), (5, .any), (6, .any)], [(4, .any), (5, .any)])
  | 91, 5 => ([(0, .any), (5, .any), (6, .any)], [(4, .ownSlice 2), (5, .any)])
  | 91, 10 => ([(0, .any), (3, .any), (5, .any), (7, .any)], [(4, .ownSlice 2), (5, .any)])
  | 91, 16 => ([(0, .any), (3, .any), (5, .any), (8, .any)], [(4, .ownSlice 2), (5, .any)])
  | 91, 21 => ([(0, .any), (3, .any), (5, .any), (8, .any), (9, .any), (10, .any), (11, .any)], [(0, .any), (3, .any), (4, .ownSlice 2), (5, .any), (8, .any), (10, .any)])
  | 91, 24 => ([(0, .any), (3, .any), (5, .any), (8, .any), (9, .any), (10, .any), (11, .any), (12, .any)], [(0, .any), (3, .any), (4, .ownSlice 2), (5, .any), (8, .any), (9, .any), (10, .any), (11, .any)])
  | 92, 3 => ([(0, .any), (3, .any), (4, .any)], [(0, .any), (2, .any), (3, .any)])
  | 92, 14 => ([(0, .any), (3, .any), (4, .any), (5, .any), (6, .any)], [(0, .any), (2, .any), (3, .any), (4, .any)])
  | 92, 20 => ([(0, .any), (3, .any), (4, .any), (7, .any), (8, .any)], [(0, .any), (2, .any), (3, .any), (4, .any)])
  | 93, 3 => ([(0, .any), (3, .ownSlice 5), (4, .any)], [(2, .any), (3, .ownSlice 5)])
  | 93, 5 => ([(0, .any), (3, .ownSlice 5), (4, .any), (5, .any)], [(0, .any), (2, .any), (3, .ownSlice 5), (4, .any), (5, .any)])
  | 96, 38 => ([(7, .any), (8, .any), (9, .any)], [(4, .any), (9, .any)])
  | 98, 3 => ([(0, .any), (1, .any), (5, .any), (6, .any)], [(4, .ownSlice 2), (5, .any)])
  | 99, 3 => ([(0, .any), (3, .any), (4, .any)], [(2, .any), (3, .any)])
  | 100, 3 => ([(3, .any), (6, .any), (7, .any), (8, .any)], [(2, .any), (3, .any)])
  | 102, 5 => ([(0, .any), (1, .any), (5, .any), (6, .any), (1000000, .any)], [(0, .any), (4, .ownSlice 2), (5, .any), (1000000, .any)])
  | 105, 3 => ([(1, .any), (5, .any), (6, .any)], [(4, .ownSlice 2), (5, .any)])
  | 110, 4 => ([(0, .any), (1, .any), (6, .any), (7, .any), (8, .any)], [(0, .any), (4, .any), (5, .any), (6, .any), (7, .any)])
  | 111, 4 => ([(0, .any), (1, .any), (5, .any), (6, .any), (7, .any)], [(1, .any), (4, .ownSlice 2), (5, .any), (6, .any)])
  | 114, 6 => ([(2, .any), (3, .any), (17, .any), (18, .any), (19, .any)], [(4, .any)])
  | 115, 5 => ([(5, .ownSlice 2), (14, .any), (15, .any)], [(4, .ownSlice 2), (5, .ownSlice 2)])
  | 115, 13 => ([(1, .any), (2, .any), (5, .ownSlice 2), (31, .any), (32, .any), (33, .any)], [(4, .ownSlice 2), (5, .ownSlice 2)])
  | 116, 3 => ([(0, .any), (1, .any), (2, .any), (8, .any), (9, .any), (10, .any)], [(0, .any), (1, .any), (2, .any), (6, .any), (7, .any), (8, .any), (9, .any)])
  | 124, 3 => ([(0, .any), (1, .any), (4, .any), (5, .any), (6, .any)], [(4, .any), (5, .any)])
  | 129, 3 => ([(0, .any), (5, .any), (8, .any), (9, .any), (10, .any)], [(4, .any), (5, .any)])
  | 130, 3 => ([(1, .any), (2, .any), (5, .any), (6, .any)], [(4, .ownSlice 2), (5, .any)])
  | 130, 6 => ([(1, .any), (2, .any), (5, .any), (6, .any), (7, .any)], [(1, .any), (2, .any), (4, .ownSlice 2), (5, .any), (6, .any)])
  | 131, 3 => ([(0, .any), (5, .any), (6, .any)], [(4, .any), (5, .any)])
  | 138, 2 => ([(0, .any), (1, .any), (7, .any), (8, .any)], [(4, .any)])
  | 139, 2 => ([(0, .any), (1, .any), (7, .any), (8, .any)], [(4, .any)])
  | 141, 5 => ([(1, .any), (3, .any), (4, .any)], [(2, .any)])
  | 142, 4 => ([(0, .any), (3, .any)], [(2, .any)])
  | 142, 9 => ([(0, .any), (3, .any), (4, .any)], [(0, .any), (2, .any), (3, .any)])
  | 144, 5 => ([(1, .any), (31, .any), (32, .any)], [(2, .any)])
  | 149, 3 => ([(2, .any), (5, .any), (14, .any), (15, .any), (16, .any)], [(4, .ownSlice 2), (5, .any)])
  | 149, 7 => ([(2, .any), (6, .any), (7, .any), (8, .ownSlice 2), (14, .any), (15, .any), (16, .any), (21, .any), (22, .any), (23, .any)], [(2, .any), (4, .ownSlice 2), (5, .any), (8, .ownSlice 2), (14, .any), (15, .any), (16, .any)])
  | 149, 10 => ([(2, .any), (6, .any), (7, .any), (8, .ownSlice 2), (10, .any), (14, .any), (15, .any), (16, .any), (21, .any), (22, .any), (23, .any), (29, .any), (30, .any), (31, .any)], [(2, .any), (4, .ownSlice 2), (5, .any), (6, .any), (7, .any), (8, .ownSlice 2), (14, .any), (15, .any), (16, .any), (21, .any), (22, .any), (23, .any)])
  | 153, 2 => ([(0, .any), (1, .any), (2, .any), (3, .any), (8, .any), (9, .any)], [])
  | 156, 2 => ([(0, .any), (1, .any), (5, .any)], [(0, .any), (4, .ownSlice 2), (5, .any)])
  | 162, 1 => ([(0, .any), (1, .any), (3, .any)], [])
  | 163, 4 => ([(1, .any), (2, .any), (15, .any), (16, .any), (17, .any)], [(6, .any)])
  | 165, 4 => ([(0, .any), (1, .any), (12, .any), (13, .any)], [(4, .any)])
  | 166, 4 => ([(1, .any), (2, .any), (15, .any), (16, .any), (17, .any)], [(6, .any)])
  | 169, 2 => ([(0, .any), (1, .any), (7, .any), (8, .any)], [(4, .any)])
  | 170, 3 => ([(1, .any), (2, .any), (5, .ownSlice 2), (12, .any), (13, .any)], [(4, .ownSlice 2), (5, .ownSlice 2)])
  | 170, 6 => ([(1, .any), (2, .any), (5, .ownSlice 2), (6, .any), (12, .any), (13, .any), (20, .any), (21, .any)], [(1, .any), (2, .any), (4, .ownSlice 2), (5, .ownSlice 2), (12, .any), (13, .any)])
  | 172, 1 => ([(0, .any), (1, .any), (2, .any), (6, .any)], [])
  | 172, 4 => ([(0, .any), (1, .any), (2, .any), (6, .any), (7, .any)], [(0, .any), (1, .any), (2, .any), (6, .any)])
  | 173, 4 => ([(0, .any), (6, .any), (7, .any), (8, .any), (9, .any)], [(0, .any), (6, .any), (7, .any), (8, .any)])
  | 173, 8 => ([(0, .any), (6, .any), (7, .any), (10, .any)], [])
  | 174, 5 => ([(0, .any), (1, .any), (6, .any), (7, .any), (8, .any), (9, .any)], [])
  | 176, 2 => ([(0, .any), (6, .any), (7, .any)], [])
  | 177, 3 => ([(0, .any), (1, .any), (2, .any), (7, .any), (8, .any)], [(6, .any)])
  | 177, 5 => ([(0, .any), (1, .any), (2, .any), (7, .any), (8, .any)], [(0, .any), (1, .any), (2, .any), (6, .any), (7, .any), (8, .any)])
  | 177, 14 => ([(0, .any), (1, .any), (2, .any), (7, .any), (8, .any), (9, .any)], [(0, .any), (1, .any), (2, .any), (6, .any), (7, .any), (8, .any)])
  | 177, 20 => ([(0, .any), (1, .any), (2, .any), (7, .any), (8, .any), (10, .any)], [(0, .any), (1, .any), (2, .any), (6, .any), (7, .any), (8, .any)])
  | 179, 3 => ([(0, .any), (1, .any), (9, .any), (10, .any)], [(8, .any), (9, .any)])
  | 179, 5 => ([(0, .any), (1, .any), (9, .any), (10, .any)], [(0, .any), (1, .any), (8, .any), (9, .any), (10, .any)])
  | 180, 3 => ([(0, .any), (1, .any), (10, .any), (11, .any)], [(0, .any), (1, .any), (8, .any), (9, .any), (10, .any), (11, .any)])
  | 180, 5 => ([(0, .any), (1, .any), (10, .any), (11, .any)], [(0, .any), (1, .any), (8, .any), (9, .any), (10, .any), (11, .any)])
  | 180, 13 => ([(0, .any), (1, .any), (10, .any), (11, .any)], [(0, .any), (1, .any), (8, .any), (9, .any), (11, .any)])
  | 180, 15 => ([(0, .any), (1, .any), (10, .any), (11, .any)], [(0, .any), (1, .any), (8, .any), (9, .any), (10, .any), (11, .any)])
  | 184, 1 => ([(0, .any), (2, .any), (3, .any), (1000000, .any)], [(1000000, .any)])
  | 185, 1 => ([(0, .any), (2, .any), (3, .any), (8, .any)], [])
  | _, _ => ([], [])
noncomputable def FT : FuncId → Option Func := fun f => Go.Proofs.Try.prog.funcs[f]?
end Go.Proofs.Ytmdbccmbmcgclaa.V
