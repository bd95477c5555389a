import Derived.Test.YtlombmcoklbfoaaV27
namespace Go.Proofs.Ytlombmcoklbfoaa.V
open Go

noncomputable def is (p : Prop) : Bool := @decide p (Classical.propDecidable p)
theorem is_iff {p : Prop} : is p = true ↔ p := by simp [is]
theorem is_true {p : Prop} (h : p) : is p = true := is_iff.2 h

namespace Tr
variable {ρ : Type} {c : Prop} {d : Decidable c} {a b : Tr ρ} {r : Option ρ}
theorem t (h : c) (h' : a.val = r) : (Tr.br c d a b).val = r := by rw [val_br, if_pos h]; exact h'
theorem n (h : ¬c) (h' : b.val = r) : (Tr.br c d a b).val = r := by rw [val_br, if_neg h]; exact h'
theorem y {v : ρ} (h' : b.val = some v) : (Tr.br c d (.ok v) b).val = some v := by rw [val_br]; split; · rfl
                                                                                   · exact h'
end Tr

theorem loopN_run {σ ω : Type} {step : σ → Tr (σ ⊕ ω)} {w : ω} {N : Nat} (st : Nat → σ) (hs : ∀ i, i < N → (step (st i)).val = some (.inl (st (i + 1)))) (hN : (step (st N)).val = some (.inr w)) :
    ∀ m i, i + m = N → loopN step (m + 1) (st i) = some w
  | 0, i, h => by
    have : i = N := by omega
    subst this
    exact loopN_end hN
  | m + 1, i, h => by
    rw [loopN_next (hs i (by omega))]
    exact loopN_run st hs hN m (i + 1) (by omega)

section
variable {T : Tab} {e : TypeId} {A : List (List TC)}
theorem typed_room (h : Typed T (.slice e) (.l A)) : A.length * (T e).bytes ≤ 140737488351232 := by
  cases h with | slice _ _ h1 _ _ _ => exact h1
theorem typed_cell (h : Typed T (.slice e) (.l A)) : ∀ x, x ∈ A → ∀ k, k < (T e).cts.length → Typed T ((T e).cts.getD k .bool) (nth x k) := by
  cases h with | slice _ _ _ _ _ h1 => exact h1
theorem typed_int {k : IntKind} {c : TC} (h : Typed T (.int k) c) : ∃ n, c = .i n := by cases h with | int _ n _ => exact ⟨n, rfl⟩
theorem typed_s {c : TC} (h : Typed T .str c) : Typed T .str (.s c.str) := by cases h with | str l h1 => exact .str l h1
theorem mem_getD {A : List (List TC)} {i : Nat} (hi : i < A.length) : A.getD i [] ∈ A := by rw [getD_at hi]; exact List.getElem_mem _
end

theorem len_1 {α : Type} {l : List α} (h : l.length = 1) : ∃ a, l = [a] := by
  match l, h with | [a], _ => exact ⟨a, rfl⟩
theorem len_2 {α : Type} {l : List α} (h : l.length = 2) : ∃ a b, l = [a, b] := by
  match l, h with | [a, b], _ => exact ⟨a, b, rfl⟩
end Go.Proofs.Ytlombmcoklbfoaa.V
