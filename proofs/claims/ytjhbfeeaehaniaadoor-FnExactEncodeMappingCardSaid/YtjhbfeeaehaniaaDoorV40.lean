import Derived.Test.YtjhbfeeaehaniaaDoorV39
namespace Go.Proofs.YtjhbfeeaehaniaaDoor.V
open Go

theorem allI_false_idx {P : Nat → Bool} {N k : Nat} (hk : k < N) (hb : ∀ j, j < k → P j = true) (hP : P k = false) : allI P N = false ∧ idxI P N = k := by
  constructor
  · cases h : allI P N with
    | false => rfl
    | true =>
      have := (allI_iff (P := P) (N := N)).1 h k hk
      rw [hP] at this; cases this
  · unfold idxI
    have hlt : k < (List.range N).length := by rw [List.length_range]; exact hk
    refine (List.findIdx_eq hlt).2 ⟨?_, fun j hj => ?_⟩
    · rw [List.getElem_range, hP]; rfl
    · rw [List.getElem_range, hb j hj]; rfl

theorem loopN_along {σ ω : Type} {step : σ → Tr (σ ⊕ ω)} (N : Nat) (P : Nat → Bool) (st : Nat → σ) (y : ω) (n : Nat → ω)
    (hs : ∀ i, i < N → (∀ j, j < i → P j = true) → (P i = true → (step (st i)).val = some (.inl (st (i + 1)))) ∧ (P i = false → (step (st i)).val = some (.inr (n i))))
    (hN : (∀ j, j < N → P j = true) → (step (st N)).val = some (.inr y)) : ∃ fuel, loopN step fuel (st 0) = some (bif allI P N then y else n (idxI P N)) := by
  have gen : ∀ m i, i + m = N → (∀ j, j < i → P j = true) → loopN step (m + 1) (st i) = some (bif allI P N then y else n (idxI P N)) := by
    intro m
    induction m with
    | zero =>
      intro i hi hb
      have : i = N := by omega
      subst this
      rw [loopN_end (hN hb), (allI_iff (P := P) (N := i)).2 hb]; rfl
    | succ m ih =>
      intro i hi hb
      obtain ⟨h1, h2⟩ := hs i (by omega) hb
      cases hP : P i with
      | true =>
        refine (loopN_next (h1 hP)).trans (ih (i + 1) (by omega) fun j hj => ?_)
        rcases Nat.lt_or_ge j i with h | h
        · exact hb j h
        · rw [show j = i by omega]; exact hP
      | false =>
        obtain ⟨q1, q2⟩ := allI_false_idx (by omega : i < N) hb hP
        rw [loopN_end (h2 hP), q1, q2]; rfl
  exact ⟨N + 1, gen N 0 (by omega) fun j hj => absurd hj (Nat.not_lt_zero _)⟩

theorem auto_br {σ ω : Type} {step : σ → Tr (σ ⊕ ω)} {s : σ} {K k c c' : Bool} {x y ow : ω} (hk : k = K) (he : (c = true ∨ c' = true) → ∃ N, loopN step N s = some (bif K then x else y)) (h : (Told.br k (.leaf c x) (.leaf c' y)).val = some ow) :
    ∃ fuel, loopN step fuel s = some ow := by
  subst hk
  simp only [Told.val] at h
  cases k with
  | true =>
    rw [if_pos rfl] at h
    split at h
    · rename_i hc
      obtain ⟨N, hw⟩ := he (.inl hc)
      exact ⟨N, hw.trans h⟩
    · cases h
  | false =>
    rw [if_neg (by simp)] at h
    split at h
    · rename_i hc
      obtain ⟨N, hw⟩ := he (.inr hc)
      exact ⟨N, hw.trans h⟩
    · cases h
end Go.Proofs.YtjhbfeeaehaniaaDoor.V
