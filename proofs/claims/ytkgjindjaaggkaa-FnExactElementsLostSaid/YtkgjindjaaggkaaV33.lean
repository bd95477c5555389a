import Derived.Test.YtkgjindjaaggkaaV32
namespace Go.Proofs.Ytkgjindjaaggkaa.V
open Go

def allI (P : Nat → Bool) (N : Nat) : Bool := (List.range N).all P
def foldI {α : Type} (g : Nat → α → α) (N : Nat) (a : α) : α := (List.range N).foldl (fun a i => g i a) a
def idxI (P : Nat → Bool) (N : Nat) : Nat := (List.range N).findIdx fun i => !P i

theorem allI_iff {P : Nat → Bool} {N : Nat} : allI P N = true ↔ ∀ i, i < N → P i = true := by
  simp [allI, List.all_eq_true]
theorem foldI_succ {α : Type} {g : Nat → α → α} {N : Nat} {a : α} : foldI g (N + 1) a = g N (foldI g N a) := by
  simp [foldI, List.range_succ]
end Go.Proofs.Ytkgjindjaaggkaa.V
