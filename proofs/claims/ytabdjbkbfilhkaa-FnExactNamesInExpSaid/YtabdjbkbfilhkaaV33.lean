import Derived.Test.YtabdjbkbfilhkaaV32
namespace Go.Proofs.Ytabdjbkbfilhkaa.V
open Go

def allI (P : Nat → Bool) (N : Nat) : Bool := (List.range N).all P
def foldI {α : Type} (g : Nat → α → α) (N : Nat) (a : α) : α := (List.range N).foldl (fun a i => g i a) a
theorem allI_iff {P : Nat → Bool} {N : Nat} : allI P N = true ↔ ∀ i, i < N → P i = true := by
  simp [allI, List.all_eq_true]
theorem allI_congr {P Q : Nat → Bool} {N : Nat} (h : ∀ i, i < N → P i = Q i) : allI P N = allI Q N := by
  rw [Bool.eq_iff_iff, allI_iff, allI_iff]
  exact forall_congr' fun i => forall_congr' fun hi => by rw [h i hi]
end Go.Proofs.Ytabdjbkbfilhkaa.V
