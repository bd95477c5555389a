import Derived.Test.YtabdjbkbfilhkaaV29
namespace Go.Proofs.Ytabdjbkbfilhkaa.V
open Go

namespace Tr
variable {ρ : Type}
theorem b {P : Bool} {d : Decidable ((!P) = true)} {u v : Tr ρ} {x y : Option ρ} (h : P = true → v.val = x) (h' : P = false → u.val = y) : (Tr.br ((!P) = true) d u v).val = if P = true then x else y := by
  rw [val_br]
  by_cases hP : P = true
  · rw [if_neg (by simp [hP]), if_pos hP, h hP]
  · rw [if_pos (by simp [hP]), if_neg hP, h' (by simpa using hP)]
theorem b2 {Q : Bool} {d : Decidable (Q = true)} {u v : Tr ρ} {x y : Option ρ} (h : Q = false → v.val = x) (h' : Q = true → u.val = y) : (Tr.br (Q = true) d u v).val = if (!Q) = true then x else y := by
  rw [val_br]
  by_cases hP : Q = true
  · rw [if_pos hP, if_neg (by simp [hP]), h' hP]
  · rw [if_neg hP, if_pos (by simp [hP]), h (by simpa using hP)]
theorem gs {g : Prop} {d : Decidable g} {c : Bool} {a : Tr ρ} {x : ρ} (h : (is g && c) = true) (ha : c = true → a.val = some x) : (Tr.br g d a .no).val = some x := by
  simp only [Bool.and_eq_true, is_iff] at h
  exact Tr.t h.1 (ha h.2)
theorem gb {g : Bool} {d : Decidable (g = true)} {c : Bool} {a : Tr ρ} {x : ρ} (h : (g && c) = true) (ha : c = true → a.val = some x) : (Tr.br (g = true) d a .no).val = some x := by
  simp only [Bool.and_eq_true] at h
  exact Tr.t h.1 (ha h.2)
theorem ss {q c1 c2 : Bool} {d : Decidable (q = true)} {a b : Tr ρ} {x y : ρ} (h : (bif q then c1 else c2) = true) (ha : c1 = true → a.val = some x) (hb : c2 = true → b.val = some y) : (Tr.br (q = true) d a b).val = some (bif q then x else y) := by
  cases q with
  | true => exact Tr.t rfl (ha h)
  | false => exact Tr.n (by simp) (hb h)
end Tr

theorem loopN_scan {χ σ ω α : Type} {step : σ → Tr (σ ⊕ ω)} (A : List χ) (d : χ) (P : χ → Bool) (g : α → χ → α) (st : Nat → α → σ) (y : α → ω) (n : Nat → α → ω)
    (hs : ∀ i a, i < A.length → (step (st i a)).val = if P (A.getD i d) = true then some (.inl (st (i + 1) (g a (A.getD i d)))) else some (.inr (n i a)))
    (hN : ∀ a, (step (st A.length a)).val = some (.inr (y a))) : ∀ (m i : Nat) (a : α), i + m = A.length →
      loopN step (m + 1) (st i a) = some (if (A.drop i).all P = true then y ((A.drop i).foldl g a) else n (i + (A.drop i).findIdx fun x => !P x) (((A.drop i).take ((A.drop i).findIdx fun x => !P x)).foldl g a))
  | 0, i, a, h => by
    have : i = A.length := by omega
    subst this
    rw [loopN_end (hN a), List.drop_eq_nil_of_le (Nat.le_refl _)]
    rfl
  | m + 1, i, a, h => by
    have hi : i < A.length := by omega
    have h1 := hs i a hi
    rw [getD_at hi] at h1
    rw [List.drop_eq_getElem_cons hi]
    cases hP : P A[i] with
    | true =>
      rw [hP, if_pos rfl] at h1
      rw [loopN_next h1, loopN_scan A d P g st y n hs hN m (i + 1) _ (by omega)]
      simp only [List.all_cons, hP, Bool.true_and, List.findIdx_cons, Bool.not_true, cond_false, List.foldl_cons, List.take_succ_cons]
      rw [show i + 1 + List.findIdx (fun x => !P x) (List.drop (i + 1) A) = i + (List.findIdx (fun x => !P x) (List.drop (i + 1) A) + 1) from by omega]
    | false =>
      rw [hP, if_neg (by simp)] at h1
      rw [loopN_end h1]
      simp only [List.all_cons, hP, Bool.false_and, List.findIdx_cons, Bool.not_false, cond_true, Nat.add_zero]
      rfl

theorem loopN_iter {σ ω α : Type} {step : σ → Tr (σ ⊕ ω)} (N : Nat) (f : Nat → α → α ⊕ ω) (fin : α → ω) (st : Nat → α → σ) (I : Nat → α → Prop)
    (hs : ∀ i a, i < N → I i a → match f i a with
      | .inl a' => I (i + 1) a' ∧ (step (st i a)).val = some (.inl (st (i + 1) a'))
      | .inr w => (step (st i a)).val = some (.inr w))
    (hN : ∀ a, I N a → (step (st N a)).val = some (.inr (fin a))) : ∀ (m i : Nat) (a : α), i + m = N → I i a → loopN step (m + 1) (st i a) = some (iter f fin m i a)
  | 0, i, a, h, hI => by
    have : i = N := by omega
    subst this
    exact loopN_end (hN a hI)
  | m + 1, i, a, h, hI => by
    have h1 := hs i a (by omega) hI
    unfold iter
    revert h1
    cases f i a with
    | inl a' =>
      intro h1
      rw [loopN_next h1.2]
      exact loopN_iter N f fin st I hs hN m (i + 1) a' (by omega) h1.1
    | inr w =>
      intro h1
      exact loopN_end h1

end Go.Proofs.Ytabdjbkbfilhkaa.V
