import Derived.Test.YtabdjbkbfilhkaaV28
namespace Go.Proofs.Ytabdjbkbfilhkaa.V
open Go

theorem ite_bif {α : Type} {c : Bool} {d : Decidable (c = true)} {x y : α} : @ite α (c = true) d x y = bif c then x else y := by
  cases c
  · exact if_neg (by simp)
  · exact if_pos rfl
theorem Tr.s {ρ : Type} {c : Bool} {d : Decidable (c = true)} {a b : Tr ρ} {x y : ρ} (h : a.val = some x) (h' : b.val = some y) : (Tr.br (c = true) d a b).val = some (bif c then x else y) := by
  rw [Tr.val_br, h, h', ite_bif]; cases c <;> rfl

end Go.Proofs.Ytabdjbkbfilhkaa.V
