import Derived.Test.YtkgjindjaaggkaaV36
namespace Go.Proofs.Ytkgjindjaaggkaa.V
open Go

def madeL (f : Nat → List TC) (n : Nat) : List (List TC) := (List.range n).map f
theorem madeL_length {f : Nat → List TC} {n : Nat} : (madeL f n).length = n := by simp [madeL]
theorem madeL_getD {f : Nat → List TC} {n i : Nat} (h : i < n) : (madeL f n).getD i [] = f i := by
  simp [madeL, List.getD_eq_getElem?_getD, List.getElem?_range h]
theorem loopN_over {σ ω : Type} {step : σ → Tr (σ ⊕ ω)} (X : List (List TC)) (m : Nat) (f : Nat → List TC) (st : List (List TC) → Nat → σ) (w : ω)
    (hz : ∀ x, x ∈ X → x.length = m) (hf : ∀ i, (f i).length = m)
    (hs : ∀ (Y : List (List TC)) (i : Nat), i < X.length → Y.length = X.length → (Y.getD i []).length = m → (step (st Y i)).val = some (.inl (st (Y.set i (f i)) (i + 1))))
    (hN : (step (st (madeL f X.length) X.length)).val = some (.inr w)) : ∀ n i : Nat, i + n = X.length → loopN step (n + 1) (st (madeL f i ++ X.drop i) i) = some w
  | 0, i, h => by
    have : i = X.length := by omega
    subst this
    rw [List.drop_eq_nil_of_le (Nat.le_refl _), List.append_nil]
    exact loopN_end hN
  | n + 1, i, h => by
    have hx : i < X.length := by omega
    have hm : (madeL f i).length = i := madeL_length
    have hg : (madeL f i ++ X.drop i).getD i [] = X.getD i [] := by
      rw [List.getD_eq_getElem?_getD, List.getElem?_append_right (by omega), hm, Nat.sub_self, List.getElem?_drop, Nat.add_zero, ← List.getD_eq_getElem?_getD]
    have hset : (madeL f i ++ X.drop i).set i (f i) = madeL f (i + 1) ++ X.drop (i + 1) := by
      rw [List.set_append_right _ _ (by omega), hm, Nat.sub_self, List.drop_eq_getElem_cons hx, List.set_cons_zero]
      unfold madeL
      rw [List.range_succ, List.map_append, List.append_assoc]
      rfl
    have h1 := hs (madeL f i ++ X.drop i) i hx (by rw [List.length_append, hm, List.length_drop]; omega) (by rw [hg]; exact hz _ (by rw [getD_at hx]; exact List.getElem_mem _))
    rw [hset] at h1
    rw [loopN_next h1]
    exact loopN_over X m f st w hz hf hs hN n (i + 1) (by omega)

theorem row_set {Y : List (List TC)} {i : Nat} {a : List TC} (h : i < Y.length) : row (Y.set i a) (i : Int) = a := by
  unfold row
  rw [Int.toNat_natCast, List.getD_eq_getElem?_getD, List.getElem?_set_self h]
  rfl
theorem typed_rows {T : Tab} {e : TypeId} {A : List (List TC)} {m : Nat} (h : Typed T (.slice e) (.l A)) (he : (T e).cts.length = m) : ∀ x, x ∈ A → x.length = m := by
  cases h with
  | slice _ _ _ _ h3 _ => intro x hx; rw [h3 x hx, he]

theorem row_madeL {f : Nat → List TC} {n i : Nat} (h : i < n) : row (madeL f n) (i : Int) = f i := by
  unfold row
  rw [Int.toNat_natCast]
  exact madeL_getD h

end Go.Proofs.Ytkgjindjaaggkaa.V
