/- The tables of this translation for the plain evaluator: types, functions, the slots that live at a loop's head. No condition. -/
import Derived.Test.YtghbndlkekaipaaProg
import Derived.Test.YtghbndlkekaipaaV21
namespace Go.Proofs.Ytghbndlkekaipaa.V
open Go
def tabL : List TyR := [
  ⟨.other, [], 0, false⟩,
  ⟨.func, [.func], 8, false⟩,
  ⟨.int .i64, [.int .i64], 8, false⟩,
  ⟨.int .i64, [.int .i64], 8, false⟩,
  ⟨.bool, [.bool], 1, false⟩,
  ⟨.int .u8, [.int .u8], 1, false⟩,
  ⟨.int .u8, [.int .u8], 1, false⟩,
  ⟨.struct [(0, 2), (1, 3), (2, 4), (3, 6)], [.int .i64, .int .i64, .bool, .int .u8], 24, false⟩,
  ⟨.struct [(0, 2), (1, 3), (2, 4), (3, 6)], [.int .i64, .int .i64, .bool, .int .u8], 24, false⟩,
  ⟨.str, [.str], 16, false⟩,
  ⟨.str, [.str], 16, false⟩,
  ⟨.str, [.str], 16, false⟩,
  ⟨.int .u64, [.int .u64], 8, false⟩,
  ⟨.struct [(0, 9), (1, 12)], [.str, .int .u64], 24, false⟩,
  ⟨.struct [(0, 9), (1, 12)], [.str, .int .u64], 24, false⟩,
  ⟨.ptr 220, [.ptr 220], 8, false⟩,
  ⟨.ptr 223, [.ptr 223], 8, false⟩,
  ⟨.ptr 232, [.ptr 232], 8, false⟩,
  ⟨.struct [(0, 17)], [.ptr 232], 8, false⟩,
  ⟨.struct [(0, 17)], [.ptr 232], 8, false⟩,
  ⟨.other, [], 0, false⟩,
  ⟨.int .i32, [.int .i32], 4, false⟩,
  ⟨.slice 25, [.slice 25], 24, false⟩,
  ⟨.slice 135, [.slice 135], 24, false⟩,
  ⟨.struct [(0, 2), (1, 2), (2, 9), (3, 22), (4, 23)], [.int .i64, .int .i64, .str, .slice 25, .slice 135], 80, false⟩,
  ⟨.struct [(0, 2), (1, 2), (2, 9), (3, 22), (4, 23)], [.int .i64, .int .i64, .str, .slice 25, .slice 135], 80, false⟩,
  ⟨.func, [.func], 8, false⟩,
  ⟨.func, [.func], 8, false⟩,
  ⟨.slice 31, [.slice 31], 24, false⟩,
  ⟨.slice 93, [.slice 93], 24, false⟩,
  ⟨.struct [(0, 2), (1, 2), (2, 9), (3, 28), (4, 29)], [.int .i64, .int .i64, .str, .slice 31, .slice 93], 80, false⟩,
  ⟨.struct [(0, 2), (1, 2), (2, 9), (3, 28), (4, 29)], [.int .i64, .int .i64, .str, .slice 31, .slice 93], 80, false⟩,
  ⟨.func, [.func], 8, false⟩,
  ⟨.func, [.func], 8, false⟩,
  ⟨.func, [.func], 8, false⟩,
  ⟨.func, [.func], 8, false⟩,
  ⟨.slice 9, [.slice 9], 24, false⟩,
  ⟨.func, [.func], 8, false⟩,
  ⟨.func, [.func], 8, false⟩,
  ⟨.func, [.func], 8, false⟩,
  ⟨.func, [.func], 8, false⟩,
  ⟨.slice 2, [.slice 2], 24, false⟩,
  ⟨.slice 189, [.slice 189], 24, false⟩,
  ⟨.slice 45, [.slice 45], 24, false⟩,
  ⟨.struct [(0, 2), (1, 2), (2, 4), (3, 4), (4, 36), (5, 41), (6, 42), (7, 43), (8, 2)], [.int .i64, .int .i64, .bool, .bool, .slice 9, .slice 2, .slice 189, .slice 45, .int .i64], 128, false⟩,
  ⟨.struct [(0, 2), (1, 2), (2, 4), (3, 4), (4, 36), (5, 41), (6, 42), (7, 43), (8, 2)], [.int .i64, .int .i64, .bool, .bool, .slice 9, .slice 2, .slice 189, .slice 45, .int .i64], 128, false⟩,
  ⟨.struct [(0, 45), (9, 41), (10, 9)], [.int .i64, .int .i64, .bool, .bool, .slice 9, .slice 2, .slice 189, .slice 45, .int .i64, .slice 2, .str], 168, false⟩,
  ⟨.struct [(0, 45), (9, 41), (10, 9)], [.int .i64, .int .i64, .bool, .bool, .slice 9, .slice 2, .slice 189, .slice 45, .int .i64, .slice 2, .str], 168, false⟩,
  ⟨.struct [(0, 9), (1, 47)], [.str, .int .i64, .int .i64, .bool, .bool, .slice 9, .slice 2, .slice 189, .slice 45, .int .i64, .slice 2, .str], 184, false⟩,
  ⟨.struct [(0, 9), (1, 47)], [.str, .int .i64, .int .i64, .bool, .bool, .slice 9, .slice 2, .slice 189, .slice 45, .int .i64, .slice 2, .str], 184, false⟩,
  ⟨.func, [.func], 8, false⟩,
  ⟨.func, [.func], 8, false⟩,
  ⟨.slice 147, [.slice 147], 24, false⟩,
  ⟨.slice 55, [.slice 55], 24, false⟩,
  ⟨.struct [(0, 2), (1, 2), (2, 4), (3, 4), (4, 36), (5, 41), (6, 52), (7, 53), (8, 2)], [.int .i64, .int .i64, .bool, .bool, .slice 9, .slice 2, .slice 147, .slice 55, .int .i64], 128, false⟩,
  ⟨.struct [(0, 2), (1, 2), (2, 4), (3, 4), (4, 36), (5, 41), (6, 52), (7, 53), (8, 2)], [.int .i64, .int .i64, .bool, .bool, .slice 9, .slice 2, .slice 147, .slice 55, .int .i64], 128, false⟩,
  ⟨.struct [(0, 55), (9, 41), (10, 9)], [.int .i64, .int .i64, .bool, .bool, .slice 9, .slice 2, .slice 147, .slice 55, .int .i64, .slice 2, .str], 168, false⟩,
  ⟨.struct [(0, 55), (9, 41), (10, 9)], [.int .i64, .int .i64, .bool, .bool, .slice 9, .slice 2, .slice 147, .slice 55, .int .i64, .slice 2, .str], 168, false⟩,
  ⟨.struct [(0, 9), (1, 57)], [.str, .int .i64, .int .i64, .bool, .bool, .slice 9, .slice 2, .slice 147, .slice 55, .int .i64, .slice 2, .str], 184, false⟩,
  ⟨.struct [(0, 9), (1, 57)], [.str, .int .i64, .int .i64, .bool, .bool, .slice 9, .slice 2, .slice 147, .slice 55, .int .i64, .slice 2, .str], 184, false⟩,
  ⟨.func, [.func], 8, false⟩,
  ⟨.func, [.func], 8, false⟩,
  ⟨.struct [(0, 41), (1, 41)], [.slice 2, .slice 2], 48, false⟩,
  ⟨.struct [(0, 41), (1, 41)], [.slice 2, .slice 2], 48, false⟩,
  ⟨.slice 151, [.slice 151], 24, false⟩,
  ⟨.struct [(0, 45), (9, 63), (11, 41), (12, 64), (13, 9), (14, 2)], [.int .i64, .int .i64, .bool, .bool, .slice 9, .slice 2, .slice 189, .slice 45, .int .i64, .slice 2, .slice 2, .slice 2, .slice 151, .str, .int .i64], 248, false⟩,
  ⟨.struct [(0, 45), (9, 63), (11, 41), (12, 64), (13, 9), (14, 2)], [.int .i64, .int .i64, .bool, .bool, .slice 9, .slice 2, .slice 189, .slice 45, .int .i64, .slice 2, .slice 2, .slice 2, .slice 151, .str, .int .i64], 248, false⟩,
  ⟨.func, [.func], 8, false⟩,
  ⟨.func, [.func], 8, false⟩,
  ⟨.struct [(0, 41), (1, 41)], [.slice 2, .slice 2], 48, false⟩,
  ⟨.slice 122, [.slice 122], 24, false⟩,
  ⟨.struct [(0, 55), (9, 69), (11, 41), (12, 70), (13, 9), (14, 2)], [.int .i64, .int .i64, .bool, .bool, .slice 9, .slice 2, .slice 147, .slice 55, .int .i64, .slice 2, .slice 2, .slice 2, .slice 122, .str, .int .i64], 248, false⟩,
  ⟨.struct [(0, 55), (9, 69), (11, 41), (12, 70), (13, 9), (14, 2)], [.int .i64, .int .i64, .bool, .bool, .slice 9, .slice 2, .slice 147, .slice 55, .int .i64, .slice 2, .slice 2, .slice 2, .slice 122, .str, .int .i64], 248, false⟩,
  ⟨.func, [.func], 8, false⟩,
  ⟨.func, [.func], 8, false⟩,
  ⟨.slice 163, [.slice 163], 24, false⟩,
  ⟨.struct [(0, 45), (9, 41), (10, 9), (11, 75)], [.int .i64, .int .i64, .bool, .bool, .slice 9, .slice 2, .slice 189, .slice 45, .int .i64, .slice 2, .str, .slice 163], 192, false⟩,
  ⟨.struct [(0, 45), (9, 41), (10, 9), (11, 75)], [.int .i64, .int .i64, .bool, .bool, .slice 9, .slice 2, .slice 189, .slice 45, .int .i64, .slice 2, .str, .slice 163], 192, false⟩,
  ⟨.func, [.func], 8, false⟩,
  ⟨.func, [.func], 8, false⟩,
  ⟨.slice 128, [.slice 128], 24, false⟩,
  ⟨.struct [(0, 55), (9, 41), (10, 9), (11, 80)], [.int .i64, .int .i64, .bool, .bool, .slice 9, .slice 2, .slice 147, .slice 55, .int .i64, .slice 2, .str, .slice 128], 192, false⟩,
  ⟨.struct [(0, 55), (9, 41), (10, 9), (11, 80)], [.int .i64, .int .i64, .bool, .bool, .slice 9, .slice 2, .slice 147, .slice 55, .int .i64, .slice 2, .str, .slice 128], 192, false⟩,
  ⟨.func, [.func], 8, false⟩,
  ⟨.func, [.func], 8, false⟩,
  ⟨.func, [.func], 8, false⟩,
  ⟨.func, [.func], 8, false⟩,
  ⟨.func, [.func], 8, false⟩,
  ⟨.ptr 31, [.ptr 31], 8, false⟩,
  ⟨.func, [.func], 8, false⟩,
  ⟨.func, [.func], 8, false⟩,
  ⟨.func, [.func], 8, false⟩,
  ⟨.struct [(0, 2), (1, 2), (2, 4)], [.int .i64, .int .i64, .bool], 24, false⟩,
  ⟨.struct [(0, 2), (1, 2), (2, 4)], [.int .i64, .int .i64, .bool], 24, true⟩,
  ⟨.func, [.func], 8, false⟩,
  ⟨.func, [.func], 8, false⟩,
  ⟨.func, [.func], 8, false⟩,
  ⟨.other, [], 0, false⟩,
  ⟨.func, [.func], 8, false⟩,
  ⟨.func, [.func], 8, false⟩,
  ⟨.func, [.func], 8, false⟩,
  ⟨.func, [.func], 8, false⟩,
  ⟨.func, [.func], 8, false⟩,
  ⟨.func, [.func], 8, false⟩,
  ⟨.func, [.func], 8, false⟩,
  ⟨.func, [.func], 8, false⟩,
  ⟨.func, [.func], 8, false⟩,
  ⟨.func, [.func], 8, false⟩,
  ⟨.func, [.func], 8, false⟩,
  ⟨.func, [.func], 8, false⟩,
  ⟨.func, [.func], 8, false⟩,
  ⟨.func, [.func], 8, false⟩,
  ⟨.func, [.func], 8, false⟩,
  ⟨.func, [.func], 8, false⟩,
  ⟨.func, [.func], 8, false⟩,
  ⟨.func, [.func], 8, false⟩,
  ⟨.func, [.func], 8, false⟩,
  ⟨.func, [.func], 8, false⟩,
  ⟨.func, [.func], 8, false⟩,
  ⟨.func, [.func], 8, false⟩,
  ⟨.func, [.func], 8, false⟩,
  ⟨.struct [(0, 2), (1, 2), (2, 4)], [.int .i64, .int .i64, .bool], 24, false⟩,
  ⟨.struct [(0, 2), (1, 2), (2, 4)], [.int .i64, .int .i64, .bool], 24, true⟩,
  ⟨.func, [.func], 8, false⟩,
  ⟨.slice 193, [.slice 193], 24, false⟩,
  ⟨.struct [(0, 2), (1, 41), (2, 41), (3, 41), (4, 41), (5, 124)], [.int .i64, .slice 2, .slice 2, .slice 2, .slice 2, .slice 193], 128, false⟩,
  ⟨.struct [(0, 2), (1, 41), (2, 41), (3, 41), (4, 41), (5, 124)], [.int .i64, .slice 2, .slice 2, .slice 2, .slice 2, .slice 193], 128, false⟩,
  ⟨.struct [(0, 9), (1, 126), (7, 126)], [.str, .int .i64, .slice 2, .slice 2, .slice 2, .slice 2, .slice 193, .int .i64, .slice 2, .slice 2, .slice 2, .slice 2, .slice 193], 272, false⟩,
  ⟨.struct [(0, 9), (1, 126), (7, 126)], [.str, .int .i64, .slice 2, .slice 2, .slice 2, .slice 2, .slice 193, .int .i64, .slice 2, .slice 2, .slice 2, .slice 2, .slice 193], 272, false⟩,
  ⟨.func, [.func], 8, false⟩,
  ⟨.func, [.func], 8, false⟩,
  ⟨.func, [.func], 8, false⟩,
  ⟨.func, [.func], 8, false⟩,
  ⟨.func, [.func], 8, false⟩,
  ⟨.func, [.func], 8, false⟩,
  ⟨.struct [(0, 2), (1, 2), (2, 4)], [.int .i64, .int .i64, .bool], 24, false⟩,
  ⟨.func, [.func], 8, false⟩,
  ⟨.func, [.func], 8, false⟩,
  ⟨.func, [.func], 8, false⟩,
  ⟨.func, [.func], 8, false⟩,
  ⟨.func, [.func], 8, false⟩,
  ⟨.func, [.func], 8, false⟩,
  ⟨.int .u64, [.int .u64], 8, false⟩,
  ⟨.slice 5, [.slice 5], 24, false⟩,
  ⟨.func, [.func], 8, false⟩,
  ⟨.func, [.func], 8, false⟩,
  ⟨.struct [(0, 9), (1, 2), (2, 55)], [.str, .int .i64, .int .i64, .int .i64, .bool, .bool, .slice 9, .slice 2, .slice 147, .slice 55, .int .i64], 152, false⟩,
  ⟨.struct [(0, 9), (1, 2), (2, 55)], [.str, .int .i64, .int .i64, .int .i64, .bool, .bool, .slice 9, .slice 2, .slice 147, .slice 55, .int .i64], 152, false⟩,
  ⟨.func, [.func], 8, false⟩,
  ⟨.func, [.func], 8, false⟩,
  ⟨.func, [.func], 8, false⟩,
  ⟨.struct [(0, 2), (1, 2), (2, 4)], [.int .i64, .int .i64, .bool], 24, false⟩,
  ⟨.func, [.func], 8, false⟩,
  ⟨.func, [.func], 8, false⟩,
  ⟨.func, [.func], 8, false⟩,
  ⟨.func, [.func], 8, false⟩,
  ⟨.func, [.func], 8, false⟩,
  ⟨.func, [.func], 8, false⟩,
  ⟨.func, [.func], 8, false⟩,
  ⟨.slice 215, [.slice 215], 24, false⟩,
  ⟨.struct [(0, 2), (1, 41), (2, 41), (3, 41), (4, 41), (5, 159)], [.int .i64, .slice 2, .slice 2, .slice 2, .slice 2, .slice 215], 128, false⟩,
  ⟨.struct [(0, 2), (1, 41), (2, 41), (3, 41), (4, 41), (5, 159)], [.int .i64, .slice 2, .slice 2, .slice 2, .slice 2, .slice 215], 128, false⟩,
  ⟨.struct [(0, 9), (1, 161), (7, 161)], [.str, .int .i64, .slice 2, .slice 2, .slice 2, .slice 2, .slice 215, .int .i64, .slice 2, .slice 2, .slice 2, .slice 2, .slice 215], 272, false⟩,
  ⟨.struct [(0, 9), (1, 161), (7, 161)], [.str, .int .i64, .slice 2, .slice 2, .slice 2, .slice 2, .slice 215, .int .i64, .slice 2, .slice 2, .slice 2, .slice 2, .slice 215], 272, false⟩,
  ⟨.func, [.func], 8, false⟩,
  ⟨.func, [.func], 8, false⟩,
  ⟨.func, [.func], 8, false⟩,
  ⟨.func, [.func], 8, false⟩,
  ⟨.other, [], 0, false⟩,
  ⟨.func, [.func], 8, false⟩,
  ⟨.func, [.func], 8, false⟩,
  ⟨.func, [.func], 8, false⟩,
  ⟨.func, [.func], 8, false⟩,
  ⟨.func, [.func], 8, false⟩,
  ⟨.func, [.func], 8, false⟩,
  ⟨.func, [.func], 8, false⟩,
  ⟨.int .i64, [.int .i64], 8, false⟩,
  ⟨.other, [], 0, false⟩,
  ⟨.func, [.func], 8, false⟩,
  ⟨.func, [.func], 8, false⟩,
  ⟨.func, [.func], 8, false⟩,
  ⟨.func, [.func], 8, false⟩,
  ⟨.func, [.func], 8, false⟩,
  ⟨.func, [.func], 8, false⟩,
  ⟨.int .u32, [.int .u32], 4, false⟩,
  ⟨.func, [.func], 8, false⟩,
  ⟨.int .u64, [.int .u64], 8, false⟩,
  ⟨.func, [.func], 8, false⟩,
  ⟨.struct [(0, 9), (1, 2), (2, 45)], [.str, .int .i64, .int .i64, .int .i64, .bool, .bool, .slice 9, .slice 2, .slice 189, .slice 45, .int .i64], 152, false⟩,
  ⟨.struct [(0, 9), (1, 2), (2, 45)], [.str, .int .i64, .int .i64, .int .i64, .bool, .bool, .slice 9, .slice 2, .slice 189, .slice 45, .int .i64], 152, false⟩,
  ⟨.func, [.func], 8, false⟩,
  ⟨.func, [.func], 8, false⟩,
  ⟨.struct [(0, 41)], [.slice 2], 24, false⟩,
  ⟨.struct [(0, 41)], [.slice 2], 24, false⟩,
  ⟨.func, [.func], 8, false⟩,
  ⟨.func, [.func], 8, false⟩,
  ⟨.slice 41, [.slice 41], 24, false⟩,
  ⟨.func, [.func], 8, false⟩,
  ⟨.func, [.func], 8, false⟩,
  ⟨.func, [.func], 8, false⟩,
  ⟨.func, [.func], 8, false⟩,
  ⟨.other, [], 0, false⟩,
  ⟨.func, [.func], 8, false⟩,
  ⟨.int .u64, [.int .u64], 8, false⟩,
  ⟨.func, [.func], 8, false⟩,
  ⟨.func, [.func], 8, false⟩,
  ⟨.func, [.func], 8, false⟩,
  ⟨.ptr 3, [.ptr 3], 8, false⟩,
  ⟨.func, [.func], 8, false⟩,
  ⟨.func, [.func], 8, false⟩,
  ⟨.func, [.func], 8, false⟩,
  ⟨.func, [.func], 8, false⟩,
  ⟨.ptr 203, [.ptr 203], 8, false⟩,
  ⟨.func, [.func], 8, false⟩,
  ⟨.func, [.func], 8, false⟩,
  ⟨.struct [(0, 41)], [.slice 2], 24, false⟩,
  ⟨.func, [.func], 8, false⟩,
  ⟨.func, [.func], 8, false⟩,
  ⟨.func, [.func], 8, false⟩,
  ⟨.struct [(0, 17), (1, 17), (2, 17), (3, 9)], [.ptr 232, .ptr 232, .ptr 232, .str], 40, false⟩,
  ⟨.struct [(0, 17), (1, 17), (2, 17), (3, 9)], [.ptr 232, .ptr 232, .ptr 232, .str], 40, false⟩,
  ⟨.other, [], 0, false⟩,
  ⟨.other, [], 0, false⟩,
  ⟨.other, [], 0, false⟩,
  ⟨.func, [.func], 8, false⟩,
  ⟨.int .u8, [.int .u8], 1, false⟩,
  ⟨.int .u8, [.int .u8], 1, false⟩,
  ⟨.func, [.func], 8, false⟩,
  ⟨.ptr 5, [.ptr 5], 8, false⟩,
  ⟨.int .i32, [.int .i32], 4, false⟩,
  ⟨.int .i32, [.int .i32], 4, false⟩,
  ⟨.other, [], 0, false⟩,
  ⟨.other, [], 0, false⟩,
  ⟨.func, [.func], 8, false⟩,
  ⟨.func, [.func], 8, false⟩,
  ⟨.func, [.func], 8, false⟩,
  ⟨.other, [], 0, false⟩]
def methL : List (Nat × Nat) := [(19, 0), (20, 0), (52, 0), (53, 0)]
def tab : Tab := mkTab tabL methL
def live : FuncId → Nat → Live × Live
  | 18, 4 => ([(0, .any), (1, .any), (5, .any)], [(4, .any)])
  | 20, 2 => ([(0, .any), (1, .any), (5, .any), (1000000, .any)], [(1, .any), (4, .any), (1000000, .any)])
  | 21, 2 => ([(0, .any), (1, .any), (5, .any)], [(1, .any), (4, .any)])
  | 33, 4 => ([(2, .any), (3, .any), (5, .any)], [(4, .any)])
  | 37, 5 => ([(0, .any), (1, .any), (5, .any)], [(1, .any), (4, .any)])
  | 39, 4 => ([(0, .any), (1, .any), (5, .any)], [(0, .any), (1, .any), (4, .any)])
  | 39, 9 => ([(0, .any), (1, .any), (6, .any)], [(4, .any)])
  | 40, 3 => ([(0, .any), (3, .any), (4, .any)], [(2, .ownSlice 31), (3, .any)])
  | 41, 3 => ([(0, .any), (3, .any), (4, .any)], [(2, .ownSlice 93), (3, .any)])
  | 42, 4 => ([(0, .any), (1, .any), (12, .any), (13, .any)], [(4, .any)])
  | 43, 4 => ([(1, .any), (2, .any), (15, .any), (16, .any), (17, .any)], [(6, .any)])
  | 44, 4 => ([(0, .any), (1, .any), (5, .any)], [(4, .any)])
  | 45, 4 => ([(0, .any), (1, .any), (5, .any)], [(4, .any)])
  | 46, 5 => ([(0, .any), (3, .any), (4, .any)], [(2, .any), (3, .any)])
  | 47, 6 => ([(1, .any), (2, .any), (19, .any), (20, .any), (21, .any)], [(1, .any), (4, .any), (5, .any)])
  | 48, 4 => ([(0, .any), (1, .any), (5, .any)], [(0, .any), (4, .ownSlice 9)])
  | 49, 5 => ([(1, .any), (3, .ownSlice 9), (13, .any), (14, .any), (15, .any)], [(2, .ownSlice 9), (3, .ownSlice 9)])
  | 51, 4 => ([(0, .any), (3, .any)], [(0, .any), (2, .ownSlice 9)])
  | 51, 9 => ([(0, .any), (3, .any), (4, .any), (5, .any)], [(0, .any), (2, .ownSlice 9), (3, .any)])
  | 52, 2 => ([(0, .any), (1, .any), (5, .any), (1000000, .any)], [(1, .any), (4, .any), (1000000, .any)])
  | 53, 2 => ([(0, .any), (1, .any), (5, .any), (1000000, .any)], [(1, .any), (4, .any), (1000000, .any)])
  | 54, 4 => ([(0, .any), (3, .any)], [(2, .any), (3, .any)])
  | 64, 4 => ([(2, .any), (3, .any), (5, .any)], [(2, .any), (3, .any), (4, .any)])
  | 64, 9 => ([(2, .any), (3, .any), (6, .any)], [(2, .any), (3, .any), (4, .any)])
  | 66, 4 => ([(0, .any), (1, .any), (5, .any)], [(4, .any)])
  | 67, 4 => ([(0, .any), (1, .any), (5, .any)], [(4, .any)])
  | 70, 3 => ([(0, .any), (3, .any), (4, .any)], [(2, .ownSlice 2), (3, .any)])
  | 71, 3 => ([(0, .any), (3, .any), (4, .any)], [(2, .ownSlice 122), (3, .any)])
  | 74, 4 => ([(0, .any), (1, .any), (12, .any), (13, .any)], [(4, .any)])
  | 75, 4 => ([(0, .any), (1, .any), (12, .any), (13, .any)], [(4, .any)])
  | 78, 4 => ([(0, .any), (1, .any), (5, .any)], [(4, .any)])
  | 79, 4 => ([(0, .any), (1, .any), (5, .any)], [(4, .any)])
  | 80, 5 => ([(0, .any), (1, .any), (5, .any)], [(1, .any), (4, .any)])
  | 81, 4 => ([(0, .any), (1, .any), (5, .any)], [(4, .any)])
  | 83, 3 => ([(0, .any), (3, .any), (4, .any)], [(2, .ownSlice 128), (3, .any)])
  | 84, 4 => ([(1, .any), (2, .any), (15, .any), (16, .any), (17, .any)], [(6, .any)])
  | 86, 4 => ([(0, .any), (1, .any), (5, .any)], [(4, .any)])
  | 89, 15 => ([(0, .any), (5, .any)], [(0, .any), (2, .any)])
  | 91, 4 => ([(0, .any), (1, .any), (5, .any), (6, .any), (7, .any)], [(1, .any), (4, .ownSlice 9), (5, .any), (6, .any)])
  | 92, 2 => ([(0, .any), (1, .any), (2, .any), (3, .any), (8, .any), (9, .any)], [])
  | 94, 5 => ([(0, .any), (1, .any), (5, .any)], [(1, .any), (4, .any)])
  | 95, 5 => ([(0, .any), (1, .any), (5, .any)], [(1, .any), (4, .any)])
  | 96, 5 => ([(0, .any), (1, .any), (5, .any)], [(1, .any), (4, .any)])
  | 97, 4 => ([(0, .any), (1, .any), (5, .any)], [(4, .any)])
  | 98, 3 => ([(0, .any), (3, .any), (4, .any)], [(2, .ownSlice 9), (3, .any)])
  | 99, 3 => ([(0, .any), (3, .any), (4, .any)], [(2, .ownSlice 147), (3, .any)])
  | 100, 3 => ([(0, .any), (3, .any), (4, .any)], [(2, .ownSlice 55), (3, .any)])
  | 102, 4 => ([(0, .any), (1, .any), (12, .any), (13, .any)], [(4, .any)])
  | 103, 4 => ([(1, .any), (2, .any), (15, .any), (16, .any), (17, .any)], [(6, .any)])
  | 105, 4 => ([(1, .any), (2, .any), (15, .any), (16, .any), (17, .any)], [(6, .any)])
  | 106, 4 => ([(0, .any), (1, .any), (5, .any)], [(4, .any)])
  | 107, 4 => ([(0, .any), (1, .any), (5, .any)], [(4, .any)])
  | 110, 4 => ([(0, .any), (1, .any), (5, .any)], [(4, .any)])
  | 115, 4 => ([(0, .any), (3, .any)], [(2, .any)])
  | 121, 2 => ([(0, .any), (7, .any), (8, .any)], [(0, .any), (2, .any)])
  | 126, 1 => ([(0, .any), (1, .any), (2, .any), (6, .any)], [])
  | 126, 4 => ([(0, .any), (1, .any), (2, .any), (6, .any), (7, .any)], [(0, .any), (1, .any), (2, .any), (6, .any)])
  | 127, 4 => ([(0, .any), (6, .any), (7, .any), (8, .any), (9, .any)], [(0, .any), (6, .any), (7, .any), (8, .any)])
  | 127, 8 => ([(0, .any), (6, .any), (7, .any), (10, .any)], [])
  | 128, 5 => ([(0, .any), (1, .any), (6, .any), (7, .any), (8, .any), (9, .any)], [])
  | 130, 2 => ([(0, .any), (6, .any), (7, .any)], [])
  | 131, 3 => ([(0, .any), (1, .any), (2, .any), (7, .any), (8, .any)], [(6, .any)])
  | 131, 5 => ([(0, .any), (1, .any), (2, .any), (7, .any), (8, .any)], [(0, .any), (1, .any), (2, .any), (6, .any), (7, .any), (8, .any)])
  | 131, 14 => ([(0, .any), (1, .any), (2, .any), (7, .any), (8, .any), (9, .any)], [(0, .any), (1, .any), (2, .any), (6, .any), (7, .any), (8, .any)])
  | 131, 20 => ([(0, .any), (1, .any), (2, .any), (7, .any), (8, .any), (10, .any)], [(0, .any), (1, .any), (2, .any), (6, .any), (7, .any), (8, .any)])
  | 133, 3 => ([(0, .any), (1, .any), (9, .any), (10, .any)], [(8, .any), (9, .any)])
  | 133, 5 => ([(0, .any), (1, .any), (9, .any), (10, .any)], [(0, .any), (1, .any), (8, .any), (9, .any), (10, .any)])
  | 134, 3 => ([(0, .any), (1, .any), (10, .any), (11, .any)], [(0, .any), (1, .any), (8, .any), (9, .any), (10, .any), (11, .any)])
  | 134, 5 => ([(0, .any), (1, .any), (10, .any), (11, .any)], [(0, .any), (1, .any), (8, .any), (9, .any), (10, .any), (11, .any)])
  | 134, 13 => ([(0, .any), (1, .any), (10, .any), (11, .any)], [(0, .any), (1, .any), (8, .any), (9, .any), (11, .any)])
  | 134, 15 => ([(0, .any), (1, .any), (10, .any), (11, .any)], [(0, .any), (1, .any), (8, .any), (9, .any), (10, .any), (11, .any)])
  | 142, 4 => ([(1, .any), (2, .any), (15, .any), (16, .any), (17, .any)], [(6, .any)])
  | 144, 4 => ([(1, .any), (2, .any), (15, .any), (16, .any), (17, .any)], [(6, .any)])
  | 149, 2 => ([(0, .any), (1, .any), (7, .any), (8, .any)], [(4, .any)])
  | 150, 1 => ([(0, .any), (2, .any), (3, .any), (8, .any)], [])
  | 156, 5 => ([(0, .any), (1, .any), (5, .any)], [(1, .any), (4, .any)])
  | 157, 3 => ([(0, .any), (3, .any), (4, .any)], [(2, .ownSlice 193), (3, .any)])
  | 158, 4 => ([(0, .any), (1, .any), (5, .any)], [(4, .any)])
  | 164, 2 => ([(0, .any), (1, .any), (7, .any), (8, .any)], [(4, .any)])
  | _, _ => ([], [])
noncomputable def FT : FuncId → Option Func := fun f => Go.Proofs.Try.prog.funcs[f]?
end Go.Proofs.Ytghbndlkekaipaa.V
