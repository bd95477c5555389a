import Derived.Test.YtabdjbkbfilhkaaV25
namespace Go.Proofs.Ytabdjbkbfilhkaa.V
open Go

theorem wrap64 {i : Int} (h0 : -9223372036854775808 ≤ i) (h1 : i ≤ 9223372036854775807) : IntKind.wrap .i64 i = i := by
  rw [IntKind.wrap_i64]; omega
theorem row_nat (A : List (List TC)) (i : Nat) : row A (i : Int) = A.getD i [] := rfl
theorem getD_at {α : Type} {l : List α} {i : Nat} {d : α} (h : i < l.length) : l.getD i d = l[i] := by
  rw [List.getD_eq_getElem?_getD, List.getElem?_eq_getElem h]; rfl
theorem splice_whole {α : Type} {l ys : List α} (h : l.length ≤ ys.length) : splice l 0 ys = ys := by
  unfold splice
  rw [List.take_zero, List.nil_append, Nat.zero_add, List.drop_eq_nil_of_le h, List.append_nil]

def copied (A X : List (List TC)) (g : List TC → List TC) (i : Nat) : List (List TC) := (A.take i).map g ++ X.drop i

end Go.Proofs.Ytabdjbkbfilhkaa.V
