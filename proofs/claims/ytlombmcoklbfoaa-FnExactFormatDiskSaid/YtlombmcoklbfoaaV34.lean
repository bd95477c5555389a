import Derived.Test.YtlombmcoklbfoaaV33
namespace Go.Proofs.Ytlombmcoklbfoaa.V
open Go

theorem auto_leaf {ω : Type} {σ : Type} {step : σ → Tr (σ ⊕ ω)} {s : σ} {R ow : ω} {c : Bool} (he : c = true → ∃ N, loopN step N s = some R) (h : (Told.leaf c R).val = some ow) : ∃ fuel, loopN step fuel s = some ow := by
  simp only [Told.val] at h
  split at h
  · rename_i hc
    obtain ⟨N, hw⟩ := he hc
    exact ⟨N, hw.trans h⟩
  · cases h

end Go.Proofs.Ytlombmcoklbfoaa.V
