import Derived.Test.YtabdjbkbfilhkaaV33
namespace Go.Proofs.Ytabdjbkbfilhkaa.V
open Go

def isL {α β : Type} : Option (α ⊕ β) → Bool
  | some (.inl _) => true
  | _ => false
def getL {α β : Type} [Inhabited α] : Option (α ⊕ β) → α
  | some (.inl a) => a
  | _ => default
def getR {α β : Type} [Inhabited β] : Option (α ⊕ β) → β
  | some (.inr a) => a
  | _ => default

theorem auto_two {α β : Type} [Inhabited α] [Inhabited β] {σ : Type} {step : σ → Tr (σ ⊕ (α ⊕ β))} {s : σ} {N : Nat} {k c c' : Bool} {x : α} {y : β} {ow : α ⊕ β} (hk : k = isL (loopN step N s)) (hx : x = getL (loopN step N s)) (hy : y = getR (loopN step N s))
    (he : (c = true ∨ c' = true) → ∃ w, loopN step N s = some w) (h : (Told.br k (.leaf c (.inl x)) (.leaf c' (.inr y))).val = some ow) : ∃ fuel, loopN step fuel s = some ow := by
  refine ⟨N, ?_⟩
  simp only [Told.val] at h
  cases k with
  | true =>
    rw [if_pos rfl] at h
    split at h
    · rename_i hc
      obtain ⟨w, hw⟩ := he (.inl hc)
      rw [hw] at hk hx hy ⊢
      cases w with
      | inl a => rw [← h, hx]; rfl
      | inr b => cases hk
    · cases h
  | false =>
    rw [if_neg (by simp)] at h
    split at h
    · rename_i hc
      obtain ⟨w, hw⟩ := he (.inr hc)
      rw [hw] at hk hx hy ⊢
      cases w with
      | inl a => cases hk
      | inr b => rw [← h, hy]; rfl
    · cases h

def onS {α σ ω : Type} (g : α → σ) : α ⊕ ω → σ ⊕ ω
  | .inl a => .inl (g a)
  | .inr w => .inr w
theorem Tr.bf {β ρ : Type} {c : Bool} {d : Decidable (c = true)} {u v : Tr ρ} {φ : β → ρ} {x y : β} (h : u.val = some (φ x)) (h' : v.val = some (φ y)) : (Tr.br (c = true) d u v).val = some (φ (bif c then x else y)) := by
  rw [Tr.val_br, h, h', ite_bif]; cases c <;> rfl
theorem iter_loop {σ ω α : Type} {step : σ → Tr (σ ⊕ ω)} (N : Nat) (f : Nat → α → α ⊕ ω) (fin : α → ω) (st : Nat → α → σ) (I : Nat → α → Prop) {a : α} (h0 : I 0 a)
    (hs : ∀ i a, i < N → I i a → (step (st i a)).val = some (onS (st (i + 1)) (f i a)) ∧ ∀ a', f i a = .inl a' → I (i + 1) a') (hN : ∀ a, I N a → (step (st N a)).val = some (.inr (fin a))) :
    loopN step (N + 1) (st 0 a) = some (iter f fin N 0 a) := by
  refine loopN_iter N f fin st I (fun i a hi hI => ?_) hN N 0 a (by omega) h0
  obtain ⟨h1, h2⟩ := hs i a hi hI
  cases hf : f i a with
  | inl a' => rw [hf] at h1; exact ⟨h2 a' hf, h1⟩
  | inr w => rw [hf] at h1; exact h1
def sumIs {α β : Type} : α ⊕ β → Bool
  | .inl _ => true
  | _ => false
theorem auto_leaf {ω : Type} {σ : Type} {step : σ → Tr (σ ⊕ ω)} {s : σ} {R ow : ω} {c : Bool} (he : c = true → ∃ N, loopN step N s = some R) (h : (Told.leaf c R).val = some ow) : ∃ fuel, loopN step fuel s = some ow := by
  simp only [Told.val] at h
  split at h
  · rename_i hc
    obtain ⟨N, hw⟩ := he hc
    exact ⟨N, hw.trans h⟩
  · cases h

theorem iter_scan {α ω : Type} {f : Nat → α → α ⊕ ω} {fin : α → ω} {P : Nat → Bool} {g : Nat → α → α} {w : ω} : ∀ {m i : Nat} {a : α}, (∀ j a, i ≤ j → j < i + m → f j a = bif P j then .inl (g j a) else .inr w) →
    iter f fin m i a = bif (List.range' i m).all P then fin ((List.range' i m).foldl (fun a j => g j a) a) else w
  | 0, i, a, h => rfl
  | m + 1, i, a, h => by
    unfold iter
    rw [h i a (Nat.le_refl _) (by omega), List.range'_succ, List.all_cons, List.foldl_cons]
    cases hP : P i with
    | true =>
      simp only [cond_true, Bool.true_and]
      exact iter_scan fun j a h1 h2 => h j a (by omega) (by omega)
    | false => rfl
theorem iter_all {α ω : Type} {f : Nat → α → α ⊕ ω} {fin : α → ω} {P : Nat → Bool} {g : Nat → α → α} {w : ω} {N : Nat} {a : α} (h : ∀ j a, j < N → f j a = bif P j then .inl (g j a) else .inr w) :
    iter f fin N 0 a = bif allI P N then fin (foldI g N a) else w := by
  rw [iter_scan (P := P) (g := g) (w := w) fun j a _ h2 => h j a (by omega)]
  unfold allI foldI
  rw [List.range_eq_range']
theorem allI_rows {P : List TC → Bool} {A : List (List TC)} : allI (fun i : Nat => P (row A (i : Int))) A.length = A.all P := by
  rw [Bool.eq_iff_iff, allI_iff, List.all_eq_true]
  constructor
  · intro h x hx
    obtain ⟨i, hi, rfl⟩ := List.getElem_of_mem hx
    have := h i hi
    rwa [row_nat, getD_at hi] at this
  · intro h i hi
    rw [row_nat]
    exact h _ (mem_getD hi)
theorem allI_head {P : Nat → Bool} {n : Nat} : allI P (n + 1) = (P 0 && allI (fun i => P (i + 1)) n) := by
  rw [Bool.eq_iff_iff, Bool.and_eq_true, allI_iff, allI_iff]
  constructor
  · intro h
    exact ⟨h 0 (by omega), fun i hi => h (i + 1) (by omega)⟩
  · rintro ⟨h1, h2⟩ i hi
    cases i with
    | zero => exact h1
    | succ i => exact h2 i (by omega)
end Go.Proofs.Ytabdjbkbfilhkaa.V
