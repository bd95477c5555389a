import Derived.Test.YtjhbfeeaehaniaaDoorV34
import Derived.Laws.BitsLemmas
import Derived.Lib.EndianBits
namespace Go.Proofs.YtjhbfeeaehaniaaDoor.V
open Go

def bits (k : IntKind) (f : BitVec k.bits → BitVec k.bits → BitVec k.bits) (x y : Int) : Int := k.wrap (f (BitVec.ofInt k.bits x) (BitVec.ofInt k.bits y)).toNat

def onR {α ω : Type} (Q : ω → Prop) : α ⊕ ω → Prop
  | .inl _ => True
  | .inr w => Q w
theorem onR_bif {α ω : Type} {Q : ω → Prop} {c : Bool} {x y : α ⊕ ω} (h : onR Q x) (h' : onR Q y) : onR Q (bif c then x else y) := by cases c; exact h'; exact h
theorem iter_onR {α ω : Type} {f : Nat → α → α ⊕ ω} {fin : α → ω} {Q : ω → Prop} (hf : ∀ i a, onR Q (f i a)) (hn : ∀ a, Q (fin a)) : ∀ (m i : Nat) (a : α), Q (iter f fin m i a)
  | 0, _, a => hn a
  | m + 1, i, a => by
    unfold iter
    have h := hf i a
    revert h
    cases f i a with
    | inl a' => exact fun _ => iter_onR hf hn m (i + 1) a'
    | inr w => exact fun h => h
def endsAs {α β : Type} (x : α) (y : β) : α ⊕ β → Prop
  | .inl a => a = x
  | .inr b => b = y
theorem auto_const {α β : Type} {σ : Type} {step : σ → Tr (σ ⊕ (α ⊕ β))} {s : σ} {R : α ⊕ β} {k c c' : Bool} {x : α} {y : β} {ow : α ⊕ β} (hk : k = sumIs R) (hq : endsAs x y R)
    (he : (c = true ∨ c' = true) → ∃ N, loopN step N s = some R) (h : (Told.br k (.leaf c (.inl x)) (.leaf c' (.inr y))).val = some ow) : ∃ fuel, loopN step fuel s = some ow := by
  simp only [Told.val] at h
  cases R with
  | inl a =>
    have hq : a = x := hq
    subst hq
    rw [hk] at h
    simp only [sumIs, if_true] at h
    split at h
    · rename_i hc
      obtain ⟨N, hw⟩ := he (.inl hc)
      exact ⟨N, hw.trans h⟩
    · cases h
  | inr b =>
    have hq : b = y := hq
    subst hq
    rw [hk] at h
    simp only [sumIs, Bool.false_eq_true, if_false] at h
    split at h
    · rename_i hc
      obtain ⟨N, hw⟩ := he (.inr hc)
      exact ⟨N, hw.trans h⟩
    · cases h
noncomputable def hid {α : Type} (x : α) : α := Classical.choose (⟨x, rfl⟩ : ∃ y, y = x)
theorem hid_eq {α : Type} (x : α) : hid x = x := Classical.choose_spec (⟨x, rfl⟩ : ∃ y, y = x)

def bAt (n : Int) (p : Nat) : List TC := [.i (IntKind.wrap .u8 (Int.fdiv n (2 ^ (8 * p))))]
def bRows (n : Int) (sz : Nat) : List (List TC) := (List.range sz).map (bAt n)
def bytesL (n : Int) (sz : Nat) : List UInt8 := (bRows n sz).map byteOf
theorem bytesL_len {n : Int} {sz : Nat} : (bytesL n sz).length = sz := by simp [bytesL, bRows]
theorem bAt_i64 {n : Int} {p : Nat} (h : p ≤ 8) : [TC.i (IntKind.wrap .u8 (Int.fdiv n (2 ^ (min (IntKind.wrap .i64 ((8 : Int) * (p : Int))).toNat 64))))] = bAt n p := by
  unfold bAt
  rw [wrap64 (i := (8 : Int) * (p : Int)) (by omega) (by omega), show ((8 : Int) * (p : Int)).toNat = 8 * p from by omega, Nat.min_eq_left (by omega)]
theorem wr_bRows {n : Int} {sz : Nat} : wr sz (bAt n) (fun _ => [TC.i 0]) (fun p => decide (p < sz)) = bRows n sz := by
  unfold wr bRows
  refine List.map_congr_left fun p hp => ?_
  simp only
  rw [show decide (p < sz) = true from by simpa using hp]
  rfl
theorem wr_zero {n : Int} {sz : Nat} : List.replicate sz [TC.i 0] = wr sz (bAt n) (fun _ => [TC.i 0]) (fun p => decide (p < 0)) := by
  refine List.ext_getElem (by simp [wr_len]) fun i hi hi' => ?_
  simp [wr]
end Go.Proofs.YtjhbfeeaehaniaaDoor.V
