import Derived.Test.YthhmamgpcojooaaDoorV37
namespace Go.Proofs.YthhmamgpcojooaaDoor.V
open Go Go.RowKit Go.ChangeShapes Go.WideShapes

/-! ### Depth -/
mutual
def TC.dep : TC → Nat
  | .l xs => rowsDep xs
  | _ => 0
def rowDep : List TC → Nat
  | [] => 0
  | c :: cs => Nat.max c.dep (rowDep cs)
def rowsDep : List (List TC) → Nat
  | [] => 0
  | x :: xs => Nat.max (rowDep x + 1) (rowsDep xs)
end

/-! ### The same data at another type -/
/-! ### Rows copied as they are -/
theorem typed_str_eq {T : Tab} {c : TC} (h : Typed T .str c) : TC.s c.str = c := by cases h; rfl
theorem row_eta {x : List TC} {m : Nat} (h : x.length = m) : x = (List.range m).map fun k => nth x k := by
  apply List.ext_getElem
  · simp [h]
  · intro i h1 h2
    simp [nth, List.getElem?_eq_getElem h1]
theorem typed_elem {T : Tab} {e : TypeId} {A : List (List TC)} (h : Typed T (.slice e) (.l A)) {x : List TC} (hx : x ∈ A) : x.length = (T e).cts.length ∧ ∀ k, k < (T e).cts.length → Typed T ((T e).cts.getD k .bool) (nth x k) := by
  cases h with
  | slice _ _ _ _ h3 h4 => exact ⟨h3 x hx, h4 x hx⟩

theorem Tr.bh {β ρ : Type} {c : Bool} {d : Decidable (c = true)} {u v : Tr ρ} {φ : β → ρ} {x y : β} (h : c = true → u.val = some (φ x)) (h' : c = false → v.val = some (φ y)) : (Tr.br (c = true) d u v).val = some (φ (bif c then x else y)) := by
  cases c with
  | true => rw [Tr.val_br, if_pos rfl, h rfl]; rfl
  | false => rw [Tr.val_br, if_neg (by simp), h' rfl]; rfl

/-! ### A law whose tellings hang on its arguments -/
section
variable {H : Type} {enc : TypeId × Value → H} {P : Program} {T : Tab} {w : World} {live : FuncId → Nat → Live × Live} {O : List TypeId}
end
end Go.Proofs.YthhmamgpcojooaaDoor.V
