import Derived.Test.YtkgjindjaaggkaaV33
namespace Go.Proofs.Ytkgjindjaaggkaa.V
open Go

def onS {α σ ω : Type} (g : α → σ) : α ⊕ ω → σ ⊕ ω
  | .inl a => .inl (g a)
  | .inr w => .inr w
theorem Tr.bf {β ρ : Type} {c : Bool} {d : Decidable (c = true)} {u v : Tr ρ} {φ : β → ρ} {x y : β} (h : u.val = some (φ x)) (h' : v.val = some (φ y)) : (Tr.br (c = true) d u v).val = some (φ (bif c then x else y)) := by
  rw [Tr.val_br, h, h', ite_bif]; cases c <;> rfl
theorem iter_loop {σ ω α : Type} {step : σ → Tr (σ ⊕ ω)} (N : Nat) (f : Nat → α → α ⊕ ω) (fin : α → ω) (st : Nat → α → σ) (I : Nat → α → Prop) {a : α} (h0 : I 0 a)
    (hs : ∀ i a, i < N → I i a → (step (st i a)).val = some (onS (st (i + 1)) (f i a)) ∧ ∀ a', f i a = .inl a' → I (i + 1) a') (hN : ∀ a, I N a → (step (st N a)).val = some (.inr (fin a))) :
    loopN step (N + 1) (st 0 a) = some (iter f fin N 0 a) := by
  refine loopN_iter N f fin st I (fun i a hi hI => ?_) hN N 0 a (by omega) h0
  obtain ⟨h1, h2⟩ := hs i a hi hI
  cases hf : f i a with
  | inl a' => rw [hf] at h1; exact ⟨h2 a' hf, h1⟩
  | inr w => rw [hf] at h1; exact h1
def sumIs {α β : Type} : α ⊕ β → Bool
  | .inl _ => true
  | _ => false
theorem auto_leaf {ω : Type} {σ : Type} {step : σ → Tr (σ ⊕ ω)} {s : σ} {R ow : ω} {c : Bool} (he : c = true → ∃ N, loopN step N s = some R) (h : (Told.leaf c R).val = some ow) : ∃ fuel, loopN step fuel s = some ow := by
  simp only [Told.val] at h
  split at h
  · rename_i hc
    obtain ⟨N, hw⟩ := he hc
    exact ⟨N, hw.trans h⟩
  · cases h

theorem iter_scan {α ω : Type} {f : Nat → α → α ⊕ ω} {fin : α → ω} {P : Nat → Bool} {g : Nat → α → α} {w : ω} : ∀ {m i : Nat} {a : α}, (∀ j a, i ≤ j → j < i + m → f j a = bif P j then .inl (g j a) else .inr w) →
    iter f fin m i a = bif (List.range' i m).all P then fin ((List.range' i m).foldl (fun a j => g j a) a) else w
  | 0, i, a, h => rfl
  | m + 1, i, a, h => by
    unfold iter
    rw [h i a (Nat.le_refl _) (by omega), List.range'_succ, List.all_cons, List.foldl_cons]
    cases hP : P i with
    | true =>
      simp only [cond_true, Bool.true_and]
      exact iter_scan fun j a h1 h2 => h j a (by omega) (by omega)
    | false => rfl
theorem iter_all {α ω : Type} {f : Nat → α → α ⊕ ω} {fin : α → ω} {P : Nat → Bool} {g : Nat → α → α} {w : ω} {N : Nat} {a : α} (h : ∀ j a, j < N → f j a = bif P j then .inl (g j a) else .inr w) :
    iter f fin N 0 a = bif allI P N then fin (foldI g N a) else w := by
  rw [iter_scan (P := P) (g := g) (w := w) fun j a _ h2 => h j a (by omega)]
  unfold allI foldI
  rw [List.range_eq_range']
theorem iter_each {α ω : Type} {f : Nat → α → α ⊕ ω} {fin : α → ω} {g : Nat → α → α} {N : Nat} {a : α} (h : ∀ j a, j < N → f j a = .inl (g j a)) : iter f fin N 0 a = fin (foldI g N a) := by
  have h1 := iter_all (f := f) (fin := fin) (P := fun _ => true) (g := g) (w := fin a) (N := N) (a := a) fun j a hj => by rw [h j a hj]; rfl
  rw [h1, show allI (fun _ => true) N = true from allI_iff.2 fun _ _ => rfl]
  rfl
end Go.Proofs.Ytkgjindjaaggkaa.V
