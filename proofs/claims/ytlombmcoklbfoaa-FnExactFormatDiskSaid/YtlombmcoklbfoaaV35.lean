import Derived.Test.YtlombmcoklbfoaaV34
import Derived.Laws.BitsLemmas
import Derived.Lib.EndianBits
namespace Go.Proofs.Ytlombmcoklbfoaa.V
open Go

def bits (k : IntKind) (f : BitVec k.bits → BitVec k.bits → BitVec k.bits) (x y : Int) : Int := k.wrap (f (BitVec.ofInt k.bits x) (BitVec.ofInt k.bits y)).toNat

noncomputable def hid {α : Type} (x : α) : α := Classical.choose (⟨x, rfl⟩ : ∃ y, y = x)
theorem hid_eq {α : Type} (x : α) : hid x = x := Classical.choose_spec (⟨x, rfl⟩ : ∃ y, y = x)

theorem u8_i64 (x : Int) : IntKind.wrap .u8 (IntKind.wrap .i64 x) = IntKind.wrap .u8 x := by
  rw [IntKind.wrap_u8, IntKind.wrap_u8, IntKind.wrap_i64]; omega
theorem u8_and (x : Int) : IntKind.wrap .u8 (bits .i64 (fun a b => a &&& b) x 255) = IntKind.wrap .u8 x := by
  unfold bits
  rw [u8_i64, IntKind.wrap_u8, IntKind.wrap_u8]
  have h : (BitVec.ofInt IntKind.i64.bits x &&& BitVec.ofInt IntKind.i64.bits 255).toNat = (BitVec.ofInt IntKind.i64.bits x).toNat % 256 := by
    rw [BitVec.toNat_and]
    exact Nat.and_two_pow_sub_one_eq_mod _ 8
  rw [h]
  have h2 : ((BitVec.ofInt IntKind.i64.bits x).toNat : Int) = x % 18446744073709551616 := by
    rw [BitVec.toNat_ofInt]
    show ((x % ((2 ^ 64 : Nat) : Int)).toNat : Int) = _
    rw [Int.toNat_of_nonneg (Int.emod_nonneg _ (by decide))]
    rfl
  omega

def bAt (n : Int) (p : Nat) : List TC := [.i (IntKind.wrap .u8 (Int.fdiv n (2 ^ (8 * p))))]
def bRows (n : Int) (sz : Nat) : List (List TC) := (List.range sz).map (bAt n)
def bytesL (n : Int) (sz : Nat) : List UInt8 := (bRows n sz).map byteOf
theorem bRows_len {n : Int} {sz : Nat} : (bRows n sz).length = sz := by simp [bRows]
theorem bytesL_len {n : Int} {sz : Nat} : (bytesL n sz).length = sz := by simp [bytesL, bRows]
theorem bRows_succ {n : Int} {sz : Nat} : bRows n sz ++ [bAt n sz] = bRows n (sz + 1) := by simp [bRows, List.range_succ]
theorem bAt_i64 {n : Int} {p : Nat} (h : p ≤ 8) : [TC.i (IntKind.wrap .u8 (Int.fdiv n (2 ^ (min (IntKind.wrap .i64 ((8 : Int) * (p : Int))).toNat 64))))] = bAt n p := by
  unfold bAt
  rw [wrap64 (i := (8 : Int) * (p : Int)) (by omega) (by omega), show ((8 : Int) * (p : Int)).toNat = 8 * p from by omega, Nat.min_eq_left (by omega)]
theorem bAt_u64 {n : Int} {p : Nat} (h : p ≤ 8) : [TC.i (IntKind.wrap .u8 (bits .i64 (fun a b => a &&& b) (Int.fdiv n (2 ^ (min ((IntKind.wrap .u64 ((8 : Int) * (IntKind.wrap .u64 (p : Int))))).toNat 64))) (255 : Int)))] = bAt n p := by
  unfold bAt
  have e : (IntKind.wrap .u64 ((8 : Int) * (IntKind.wrap .u64 (p : Int)))) = ((8 * p : Nat) : Int) := by
    rw [IntKind.wrap_u64, IntKind.wrap_u64]; omega
  rw [u8_and, e, Int.toNat_natCast, Nat.min_eq_left (by omega)]
theorem wr_bRows {n : Int} {sz : Nat} : wr sz (bAt n) (fun _ => [TC.i 0]) (fun p => decide (p < sz)) = bRows n sz := by
  unfold wr bRows
  refine List.map_congr_left fun p hp => ?_
  simp only
  rw [show decide (p < sz) = true from by simpa using hp]
  rfl
theorem wr_zero {n : Int} {sz : Nat} : List.replicate sz [TC.i 0] = wr sz (bAt n) (fun _ => [TC.i 0]) (fun p => decide (p < 0)) := by
  refine List.ext_getElem (by simp [wr_len]) fun i hi hi' => ?_
  simp [wr]
end Go.Proofs.Ytlombmcoklbfoaa.V
