import Derived.Test.YtdcafhfnkblfkaaV32
namespace Go.Proofs.Ytdcafhfnkblfkaa.V
open Go

def allI (P : Nat → Bool) (N : Nat) : Bool := (List.range N).all P
def foldI {α : Type} (g : Nat → α → α) (N : Nat) (a : α) : α := (List.range N).foldl (fun a i => g i a) a
def idxI (P : Nat → Bool) (N : Nat) : Nat := (List.range N).findIdx fun i => !P i

theorem loopN_scanI {σ ω α : Type} {step : σ → Tr (σ ⊕ ω)} (N : Nat) (P : Nat → Bool) (g : Nat → α → α) (st : Nat → α → σ) (y : α → ω) (n : Nat → α → ω)
    (hs : ∀ i a, i < N → (step (st i a)).val = if P i = true then some (.inl (st (i + 1) (g i a))) else some (.inr (n i a)))
    (hN : ∀ a, (step (st N a)).val = some (.inr (y a))) (a : α) :
    loopN step (N + 1) (st 0 a) = some (if allI P N = true then y (foldI g N a) else n (idxI P N) (foldI g (idxI P N) a)) := by
  have hg : ∀ i, i < N → (List.range N).getD i 0 = i := fun i hi => by
    rw [List.getD_eq_getElem?_getD, List.getElem?_range hi]; rfl
  have h := loopN_scan (step := step) (List.range N) 0 P (fun a i => g i a) st y n (fun i a hi => by
    rw [List.length_range] at hi
    rw [hg i hi]; exact hs i a hi) (fun a => by rw [List.length_range]; exact hN a) N 0 a (by simp)
  rw [List.drop_zero, Nat.zero_add] at h
  rw [h]
  have ht : (List.range N).take ((List.range N).findIdx fun i => !P i) = List.range ((List.range N).findIdx fun i => !P i) := by
    rw [List.take_range, Nat.min_eq_left]
    have := List.findIdx_le_length (xs := List.range N) (p := fun i => !P i)
    rwa [List.length_range] at this
  rw [ht]
  rfl

theorem allI_iff {P : Nat → Bool} {N : Nat} : allI P N = true ↔ ∀ i, i < N → P i = true := by
  simp [allI, List.all_eq_true]
theorem allI_congr {P Q : Nat → Bool} {N : Nat} (h : ∀ i, i < N → P i = Q i) : allI P N = allI Q N := by
  rw [Bool.eq_iff_iff, allI_iff, allI_iff]
  exact forall_congr' fun i => forall_congr' fun hi => by rw [h i hi]
theorem foldI_succ {α : Type} {g : Nat → α → α} {N : Nat} {a : α} : foldI g (N + 1) a = g N (foldI g N a) := by
  simp [foldI, List.range_succ]
theorem foldI_zero {α : Type} {g : Nat → α → α} {a : α} : foldI g 0 a = a := rfl
end Go.Proofs.Ytdcafhfnkblfkaa.V
