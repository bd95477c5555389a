import Derived.Test.YtabdjbkbfilhkaaV39
namespace Go.Proofs.Ytabdjbkbfilhkaa.V
open Go

theorem auto_br {σ ω : Type} {step : σ → Tr (σ ⊕ ω)} {s : σ} {K k c c' : Bool} {x y ow : ω} (hk : k = K) (he : (c = true ∨ c' = true) → ∃ N, loopN step N s = some (bif K then x else y)) (h : (Told.br k (.leaf c x) (.leaf c' y)).val = some ow) :
    ∃ fuel, loopN step fuel s = some ow := by
  subst hk
  simp only [Told.val] at h
  cases k with
  | true =>
    rw [if_pos rfl] at h
    split at h
    · rename_i hc
      obtain ⟨N, hw⟩ := he (.inl hc)
      exact ⟨N, hw.trans h⟩
    · cases h
  | false =>
    rw [if_neg (by simp)] at h
    split at h
    · rename_i hc
      obtain ⟨N, hw⟩ := he (.inr hc)
      exact ⟨N, hw.trans h⟩
    · cases h
end Go.Proofs.Ytabdjbkbfilhkaa.V
