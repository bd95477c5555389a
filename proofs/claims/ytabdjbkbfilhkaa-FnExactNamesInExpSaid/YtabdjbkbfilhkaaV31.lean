import Derived.Test.YtabdjbkbfilhkaaV30
namespace Go.Proofs.Ytabdjbkbfilhkaa.V
open Go

theorem andT {a b : Bool} (h : a = true) (h' : b = true) : (a && b) = true := by rw [h, h']; rfl
theorem bifT {c a b : Bool} (h : c = true → a = true) (h' : c = false → b = true) : (bif c then a else b) = true := by
  cases c with
  | true => exact h rfl
  | false => exact h' rfl
end Go.Proofs.Ytabdjbkbfilhkaa.V
