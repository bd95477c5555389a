import Derived.Test.YtdcafhfnkblfkaaV25
namespace Go.Proofs.Ytdcafhfnkblfkaa.V
open Go

theorem wrap64 {i : Int} (h0 : -9223372036854775808 ≤ i) (h1 : i ≤ 9223372036854775807) : IntKind.wrap .i64 i = i := by
  rw [IntKind.wrap_i64]; omega
theorem row_nat (A : List (List TC)) (i : Nat) : row A (i : Int) = A.getD i [] := rfl
theorem getD_at {α : Type} {l : List α} {i : Nat} {d : α} (h : i < l.length) : l.getD i d = l[i] := by
  rw [List.getD_eq_getElem?_getD, List.getElem?_eq_getElem h]; rfl
theorem splice_whole {α : Type} {l ys : List α} (h : l.length ≤ ys.length) : splice l 0 ys = ys := by
  unfold splice
  rw [List.take_zero, List.nil_append, Nat.zero_add, List.drop_eq_nil_of_le h, List.append_nil]

def copied (A X : List (List TC)) (g : List TC → List TC) (i : Nat) : List (List TC) := (A.take i).map g ++ X.drop i

theorem copy_loop {σ ρ : Type} {body : σ → (Ex → σ → Option ρ) → Option ρ} {K : Ex → σ → Option ρ} (A X : List (List TC)) (g : List TC → List TC) (st : List (List TC) → Nat → σ) (fin : ρ) (hl : X.length = A.length)
    (hz : ∀ i, i < A.length → (X.getD i []).length ≤ (g (A.getD i [])).length)
    (hs : ∀ (Y : List (List TC)) (i n : Nat), i < A.length → Y.length = A.length → rounds body K (n + 1) (st Y i) = rounds body K n (st (Y.set i (splice (Y.getD i []) 0 (g (A.getD i [])))) (i + 1)))
    (hN : ∀ n, rounds body K (n + 1) (st (A.map g) A.length) = some fin) : ∀ m i : Nat, i + m = A.length → rounds body K (m + 1) (st (copied A X g i) i) = some fin
  | 0, i, h => by
    have : i = A.length := by omega
    subst this
    have : copied A X g A.length = A.map g := by
      unfold copied
      rw [List.take_length, List.drop_eq_nil_of_le (by omega), List.append_nil]
    rw [this]
    exact hN 0
  | m + 1, i, h => by
    have hi : i < A.length := by omega
    have hx : i < X.length := by omega
    have hm : ((A.take i).map g).length = i := by simp; omega
    have hg : (copied A X g i).getD i [] = X.getD i [] := by
      unfold copied
      rw [List.getD_eq_getElem?_getD, List.getElem?_append_right (by omega), hm, Nat.sub_self, List.getElem?_drop, Nat.add_zero, ← List.getD_eq_getElem?_getD]
    have hset : (copied A X g i).set i (g (A.getD i [])) = copied A X g (i + 1) := by
      unfold copied
      rw [List.set_append_right _ _ (by omega), hm, Nat.sub_self, List.drop_eq_getElem_cons hx, List.set_cons_zero]
      have ht : A.take (i + 1) = A.take i ++ [A.getD i []] := by
        rw [List.take_add_one, getD_at hi, List.getElem?_eq_getElem hi]; rfl
      rw [ht, List.map_append, List.append_assoc]
      rfl
    rw [hs _ i (m + 1) hi (by simp [copied]; omega), hg, splice_whole (hz i hi), hset]
    exact copy_loop A X g st fin hl hz hs hN m (i + 1) (by omega)

def allEq (E : List TC → List TC → Bool) : List (List TC) → List (List TC) → Bool
  | [], [] => true
  | x :: xs, y :: ys => E x y && allEq E xs ys
  | _, _ => false

theorem allEq_len {E : List TC → List TC → Bool} : ∀ {A C : List (List TC)}, allEq E A C = true → A.length = C.length
  | [], [], _ => rfl
  | x :: xs, y :: ys, h => by
    simp only [allEq, Bool.and_eq_true] at h
    simp [allEq_len h.2]
  | [], _ :: _, h => by cases h
  | _ :: _, [], h => by cases h

theorem allEq_refl {E : List TC → List TC → Bool} : ∀ {A : List (List TC)}, (∀ x, x ∈ A → E x x = true) → allEq E A A = true
  | [], _ => rfl
  | x :: xs, h => by simp only [allEq, h x (by simp), Bool.true_and]; exact allEq_refl fun y hy => h y (by simp [hy])

theorem eq_loop {σ ρ : Type} {body : σ → (Ex → σ → Option ρ) → Option ρ} {K : Ex → σ → Option ρ} (A C : List (List TC)) (E : List TC → List TC → Bool) (st : Nat → σ) (yes_ no_ : ρ) (hl : A.length = C.length)
    (hs : ∀ i n : Nat, i < A.length → rounds body K (n + 1) (st i) = if (!(E (A.getD i []) (C.getD i []))) = true then some no_ else rounds body K n (st (i + 1)))
    (hN : ∀ n, rounds body K (n + 1) (st A.length) = some yes_) : ∀ m i : Nat, i + m = A.length → rounds body K (m + 1) (st i) = some (if allEq E (A.drop i) (C.drop i) = true then yes_ else no_)
  | 0, i, h => by
    have : i = A.length := by omega
    subst this
    rw [hN 0, List.drop_eq_nil_of_le (Nat.le_refl _), List.drop_eq_nil_of_le (by omega)]
    rfl
  | m + 1, i, h => by
    have hi : i < A.length := by omega
    have hc : i < C.length := by omega
    rw [hs i (m + 1) hi, getD_at hi, getD_at hc, List.drop_eq_getElem_cons hi, List.drop_eq_getElem_cons hc]
    rw [show allEq E (A[i] :: A.drop (i + 1)) (C[i] :: C.drop (i + 1)) = (E A[i] C[i] && allEq E (A.drop (i + 1)) (C.drop (i + 1))) from rfl]
    rw [eq_loop A C E st yes_ no_ hl hs hN m (i + 1) (by omega)]
    cases E A[i] C[i] <;> rfl

end Go.Proofs.Ytdcafhfnkblfkaa.V
