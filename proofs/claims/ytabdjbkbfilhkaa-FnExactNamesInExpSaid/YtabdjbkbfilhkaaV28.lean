import Derived.Test.YtabdjbkbfilhkaaV27
namespace Go.Proofs.Ytabdjbkbfilhkaa.V
open Go

noncomputable def is (p : Prop) : Bool := @decide p (Classical.propDecidable p)
theorem is_iff {p : Prop} : is p = true ↔ p := by simp [is]
theorem is_true {p : Prop} (h : p) : is p = true := is_iff.2 h

namespace Tr
variable {ρ : Type} {c : Prop} {d : Decidable c} {a b : Tr ρ} {r : Option ρ}
theorem t (h : c) (h' : a.val = r) : (Tr.br c d a b).val = r := by rw [val_br, if_pos h]; exact h'
theorem n (h : ¬c) (h' : b.val = r) : (Tr.br c d a b).val = r := by rw [val_br, if_neg h]; exact h'
theorem y {v : ρ} (h' : b.val = some v) : (Tr.br c d (.ok v) b).val = some v := by rw [val_br]; split; · rfl
                                                                                   · exact h'
end Tr

theorem loopN_run {σ ω : Type} {step : σ → Tr (σ ⊕ ω)} {w : ω} {N : Nat} (st : Nat → σ) (hs : ∀ i, i < N → (step (st i)).val = some (.inl (st (i + 1)))) (hN : (step (st N)).val = some (.inr w)) :
    ∀ m i, i + m = N → loopN step (m + 1) (st i) = some w
  | 0, i, h => by
    have : i = N := by omega
    subst this
    exact loopN_end hN
  | m + 1, i, h => by
    rw [loopN_next (hs i (by omega))]
    exact loopN_run st hs hN m (i + 1) (by omega)

theorem loopN_ends {σ ω : Type} {step : σ → Tr (σ ⊕ ω)} {N : Nat} {α : Type} (st : Nat → α → σ) (hs : ∀ i a, i < N → (∃ a', (step (st i a)).val = some (.inl (st (i + 1) a'))) ∨ ∃ w, (step (st i a)).val = some (.inr w)) (hN : ∀ a, ∃ w, (step (st N a)).val = some (.inr w)) :
    ∀ m i a, i + m = N → ∃ w, loopN step (m + 1) (st i a) = some w
  | 0, i, a, h => by
    have : i = N := by omega
    subst this
    obtain ⟨w, hw⟩ := hN a
    exact ⟨w, loopN_end hw⟩
  | m + 1, i, a, h => by
    rcases hs i a (by omega) with ⟨a', h1⟩ | ⟨w, h1⟩
    · rw [loopN_next h1]
      exact loopN_ends st hs hN m (i + 1) a' (by omega)
    · exact ⟨w, loopN_end h1⟩

section
variable {T : Tab} {e : TypeId} {A : List (List TC)}
theorem typed_room (h : Typed T (.slice e) (.l A)) : A.length * (T e).bytes ≤ 140737488351232 := by
  cases h with | slice _ _ h1 _ _ _ => exact h1
theorem typed_cell (h : Typed T (.slice e) (.l A)) : ∀ x, x ∈ A → ∀ k, k < (T e).cts.length → Typed T ((T e).cts.getD k .bool) (nth x k) := by
  cases h with | slice _ _ _ _ _ h1 => exact h1
theorem typed_int {k : IntKind} {c : TC} (h : Typed T (.int k) c) : ∃ n, c = .i n := by cases h with | int _ n _ => exact ⟨n, rfl⟩
theorem typed_str {c : TC} (h : Typed T .str c) : ∃ l, c = .s l := by cases h with | str l _ => exact ⟨l, rfl⟩
theorem typed_slice {c : TC} (h : Typed T (.slice e) c) : ∃ A, c = .l A := by cases h with | slice _ A _ _ _ _ => exact ⟨A, rfl⟩
theorem typed_list {c : TC} (h : Typed T (.slice e) c) : Typed T (.slice e) (.l c.list) := by cases h with | slice _ A h1 h2 h3 h4 => exact .slice _ A h1 h2 h3 h4
theorem typed_s {c : TC} (h : Typed T .str c) : Typed T .str (.s c.str) := by cases h with | str l h1 => exact .str l h1
theorem typed_str_len {l : List UInt8} (h : Typed T .str (.s l)) : l.length ≤ 140737488351232 := by cases h with | str _ h1 => exact h1
theorem mem_getD {A : List (List TC)} {i : Nat} (hi : i < A.length) : A.getD i [] ∈ A := by rw [getD_at hi]; exact List.getElem_mem _
end

theorem len_1 {α : Type} {l : List α} (h : l.length = 1) : ∃ a, l = [a] := by
  match l, h with | [a], _ => exact ⟨a, rfl⟩
theorem len_3 {α : Type} {l : List α} (h : l.length = 3) : ∃ a b c, l = [a, b, c] := by
  match l, h with | [a, b, c], _ => exact ⟨a, b, c, rfl⟩
theorem len_5 {α : Type} {l : List α} (h : l.length = 5) : ∃ a b c d e, l = [a, b, c, d, e] := by
  match l, h with | [a, b, c, d, e], _ => exact ⟨a, b, c, d, e, rfl⟩
end Go.Proofs.Ytabdjbkbfilhkaa.V
