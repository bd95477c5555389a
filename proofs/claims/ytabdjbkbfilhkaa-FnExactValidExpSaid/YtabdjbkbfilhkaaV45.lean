import Derived.Test.YtabdjbkbfilhkaaV44
import Derived.Shelf.SortG.Plain
import Derived.Shelf.SortG.SortNone
import Derived.Shelf.SlicesG.CompactS
namespace Go.Proofs.Ytabdjbkbfilhkaa.V
open Go Go.RowKit Go.Shelf Go.Sort Go.Proofs

structure Enc (T : Tab) (e : TypeId) {α : Type} (enc : α → Value) (tc : α → TC) (un : TC → α) : Prop where
  cell : ∃ ct, (T e).cts = [ct] ∧ ct.mem = false ∧ (∀ (w : World) u c, RepC T w (fun _ => False) ct u c → u = enc (un c) ∧ c = tc (un c)) ∧ ∀ (w : World) x, RepC T w (fun _ => False) ct (enc x) (tc x)
section
variable {α : Type} [Inhabited α] {P : Program} {T : Tab} {w w' : World} {S : Nat → Prop} {enc : α → Value} {tc : α → TC} {un : TC → α} {e : TypeId}
def elems (un : TC → α) (A : List (List TC)) : List α := A.map fun x => un (nth x 0)
end
end Go.Proofs.Ytabdjbkbfilhkaa.V
