import Derived.Test.YtdcafhfnkblfkaaV28
namespace Go.Proofs.Ytdcafhfnkblfkaa.V
open Go

theorem loopN_find {χ σ ω : Type} {step : σ → Tr (σ ⊕ ω)} (A : List χ) (d : χ) (P : χ → Bool) (st : Nat → σ) (y : ω) (n : Nat → ω)
    (hs : ∀ i, i < A.length → (step (st i)).val = if P (A.getD i d) = true then some (.inl (st (i + 1))) else some (.inr (n i)))
    (hN : (step (st A.length)).val = some (.inr y)) : ∀ m i : Nat, i + m = A.length → loopN step (m + 1) (st i) = some (if (A.drop i).all P = true then y else n (i + (A.drop i).findIdx fun x => !P x))
  | 0, i, h => by
    have : i = A.length := by omega
    subst this
    rw [loopN_end hN, List.drop_eq_nil_of_le (Nat.le_refl _)]
    rfl
  | m + 1, i, h => by
    have hi : i < A.length := by omega
    have h1 := hs i hi
    rw [getD_at hi] at h1
    rw [List.drop_eq_getElem_cons hi]
    cases hP : P A[i] with
    | true =>
      rw [hP, if_pos rfl] at h1
      rw [loopN_next h1, loopN_find A d P st y n hs hN m (i + 1) (by omega)]
      simp only [List.all_cons, hP, Bool.true_and, List.findIdx_cons, Bool.not_true, cond_false]
      rw [show i + 1 + List.findIdx (fun x => !P x) (List.drop (i + 1) A) = i + (List.findIdx (fun x => !P x) (List.drop (i + 1) A) + 1) from by omega]
    | false =>
      rw [hP, if_neg (by simp)] at h1
      rw [loopN_end h1]
      simp only [List.all_cons, hP, Bool.false_and, List.findIdx_cons, Bool.not_false, cond_true, Nat.add_zero]
      rfl

theorem someif {α : Type} (c : Prop) [Decidable c] (x y : α) : (if c then some x else some y) = some (if c then x else y) := by split <;> rfl

theorem ite_bif {α : Type} {c : Bool} {d : Decidable (c = true)} {x y : α} : @ite α (c = true) d x y = bif c then x else y := by
  cases c
  · exact if_neg (by simp)
  · exact if_pos rfl
theorem somebif {α : Type} {c : Bool} {x y : α} : (bif c then some x else some y) = some (bif c then x else y) := by cases c <;> rfl
theorem Tr.s {ρ : Type} {c : Bool} {d : Decidable (c = true)} {a b : Tr ρ} {x y : ρ} (h : a.val = some x) (h' : b.val = some y) : (Tr.br (c = true) d a b).val = some (bif c then x else y) := by
  rw [Tr.val_br, h, h', ite_bif]; cases c <;> rfl

theorem loopN_each {χ σ ω α : Type} {step : σ → Tr (σ ⊕ ω)} (A : List χ) (d : χ) (st : Nat → α → σ) (g : α → χ → α) (fin : α → ω) (I : Nat → α → Prop)
    (hs : ∀ i a, i < A.length → I i a → I (i + 1) (g a (A.getD i d)) ∧ (step (st i a)).val = some (.inl (st (i + 1) (g a (A.getD i d)))))
    (hN : ∀ a, I A.length a → (step (st A.length a)).val = some (.inr (fin a))) :
    ∀ m i a, i + m = A.length → I i a → loopN step (m + 1) (st i a) = some (fin ((A.drop i).foldl g a))
  | 0, i, a, h, hI => by
    have : i = A.length := by omega
    subst this
    rw [loopN_end (hN a hI), List.drop_eq_nil_of_le (Nat.le_refl _)]
    rfl
  | m + 1, i, a, h, hI => by
    have hi : i < A.length := by omega
    obtain ⟨h1, h2⟩ := hs i a hi hI
    rw [loopN_next h2, List.drop_eq_getElem_cons hi, List.foldl_cons, loopN_each A d st g fin I hs hN m (i + 1) _ (by omega) h1, getD_at hi]

end Go.Proofs.Ytdcafhfnkblfkaa.V
