import Derived.Test.YtkgjindjaaggkaaV27
namespace Go.Proofs.Ytkgjindjaaggkaa.V
open Go

noncomputable def is (p : Prop) : Bool := @decide p (Classical.propDecidable p)
theorem is_iff {p : Prop} : is p = true ↔ p := by simp [is]
theorem is_true {p : Prop} (h : p) : is p = true := is_iff.2 h

namespace Tr
variable {ρ : Type} {c : Prop} {d : Decidable c} {a b : Tr ρ} {r : Option ρ}
theorem t (h : c) (h' : a.val = r) : (Tr.br c d a b).val = r := by rw [val_br, if_pos h]; exact h'
theorem n (h : ¬c) (h' : b.val = r) : (Tr.br c d a b).val = r := by rw [val_br, if_neg h]; exact h'
theorem y {v : ρ} (h' : b.val = some v) : (Tr.br c d (.ok v) b).val = some v := by rw [val_br]; split; · rfl
                                                                                   · exact h'
end Tr

theorem loopN_run {σ ω : Type} {step : σ → Tr (σ ⊕ ω)} {w : ω} {N : Nat} (st : Nat → σ) (hs : ∀ i, i < N → (step (st i)).val = some (.inl (st (i + 1)))) (hN : (step (st N)).val = some (.inr w)) :
    ∀ m i, i + m = N → loopN step (m + 1) (st i) = some w
  | 0, i, h => by
    have : i = N := by omega
    subst this
    exact loopN_end hN
  | m + 1, i, h => by
    rw [loopN_next (hs i (by omega))]
    exact loopN_run st hs hN m (i + 1) (by omega)

section
variable {T : Tab} {e : TypeId} {A : List (List TC)}
theorem typed_room (h : Typed T (.slice e) (.l A)) : A.length * (T e).bytes ≤ 140737488351232 := by
  cases h with | slice _ _ h1 _ _ _ => exact h1
theorem typed_int {k : IntKind} {c : TC} (h : Typed T (.int k) c) : ∃ n, c = .i n := by cases h with | int _ n _ => exact ⟨n, rfl⟩
theorem typed_slice {c : TC} (h : Typed T (.slice e) c) : ∃ A, c = .l A := by cases h with | slice _ A _ _ _ _ => exact ⟨A, rfl⟩
theorem typed_i {k : IntKind} {c : TC} (h : Typed T (.int k) c) : Typed T (.int k) (.i c.int) := by cases h with | int _ n h1 => exact .int _ n h1
theorem mem_getD {A : List (List TC)} {i : Nat} (hi : i < A.length) : A.getD i [] ∈ A := by rw [getD_at hi]; exact List.getElem_mem _
theorem typed_map {e' : TypeId} {g : List TC → List TC} (h : Typed T (.slice e) (.l A)) (hb : (T e').bytes ≤ (T e).bytes)
    (hg : ∀ x, x ∈ A → x.length = (T e).cts.length → (∀ k, k < (T e).cts.length → Typed T ((T e).cts.getD k .bool) (nth x k)) → (g x).length = (T e').cts.length ∧ ∀ k, k < (T e').cts.length → Typed T ((T e').cts.getD k .bool) (nth (g x) k)) :
    Typed T (.slice e') (.l (A.map g)) := by
  cases h with
  | slice _ _ h1 h2 h3 h4 =>
    refine .slice _ _ ?_ ?_ ?_ ?_
    · rw [List.length_map]
      exact Nat.le_trans (Nat.mul_le_mul_left _ hb) h1
    · rw [List.length_map]; exact h2
    · intro x hx
      obtain ⟨y, hy, rfl⟩ := List.mem_map.1 hx
      exact (hg y hy (h3 y hy) (h4 y hy)).1
    · intro x hx
      obtain ⟨y, hy, rfl⟩ := List.mem_map.1 hx
      exact (hg y hy (h3 y hy) (h4 y hy)).2
end

theorem len_1 {α : Type} {l : List α} (h : l.length = 1) : ∃ a, l = [a] := by
  match l, h with | [a], _ => exact ⟨a, rfl⟩
end Go.Proofs.Ytkgjindjaaggkaa.V
