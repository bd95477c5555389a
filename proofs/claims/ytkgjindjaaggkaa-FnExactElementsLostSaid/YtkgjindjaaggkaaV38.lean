import Derived.Test.YtkgjindjaaggkaaV37
namespace Go.Proofs.Ytkgjindjaaggkaa.V
open Go Go.RowKit Go.ChangeShapes Go.WideShapes

/-! ### Depth -/
mutual
def TC.dep : TC → Nat
  | .l xs => rowsDep xs
  | _ => 0
def rowDep : List TC → Nat
  | [] => 0
  | c :: cs => Nat.max c.dep (rowDep cs)
def rowsDep : List (List TC) → Nat
  | [] => 0
  | x :: xs => Nat.max (rowDep x + 1) (rowsDep xs)
end

/-! ### The same data at another type -/
/-! ### Rows copied as they are -/
theorem typed_none {T : Tab} {e : TypeId} : Typed T (.slice e) (.l []) := .slice _ _ (by simp) (by simp) (fun x hx => by cases hx) (fun x hx => by cases hx)
/-! ### A law whose tellings hang on its arguments -/
section
variable {H : Type} {enc : TypeId × Value → H} {P : Program} {T : Tab} {w : World} {live : FuncId → Nat → Live × Live} {O : List TypeId}
end
end Go.Proofs.Ytkgjindjaaggkaa.V
