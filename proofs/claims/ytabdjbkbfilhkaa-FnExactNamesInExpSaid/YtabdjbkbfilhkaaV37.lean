import Derived.Test.YtabdjbkbfilhkaaV36
namespace Go.Proofs.Ytabdjbkbfilhkaa.V
open Go

def madeL (f : Nat → List TC) (n : Nat) : List (List TC) := (List.range n).map f
theorem madeL_length {f : Nat → List TC} {n : Nat} : (madeL f n).length = n := by simp [madeL]
theorem madeL_getD {f : Nat → List TC} {n i : Nat} (h : i < n) : (madeL f n).getD i [] = f i := by
  simp [madeL, List.getD_eq_getElem?_getD, List.getElem?_range h]
theorem loopN_over {σ ω : Type} {step : σ → Tr (σ ⊕ ω)} (X : List (List TC)) (m : Nat) (f : Nat → List TC) (st : List (List TC) → Nat → σ) (w : ω)
    (hz : ∀ x, x ∈ X → x.length = m) (hf : ∀ i, (f i).length = m)
    (hs : ∀ (Y : List (List TC)) (i : Nat), i < X.length → Y.length = X.length → (Y.getD i []).length = m → (step (st Y i)).val = some (.inl (st (Y.set i (f i)) (i + 1))))
    (hN : (step (st (madeL f X.length) X.length)).val = some (.inr w)) : ∀ n i : Nat, i + n = X.length → loopN step (n + 1) (st (madeL f i ++ X.drop i) i) = some w
  | 0, i, h => by
    have : i = X.length := by omega
    subst this
    rw [List.drop_eq_nil_of_le (Nat.le_refl _), List.append_nil]
    exact loopN_end hN
  | n + 1, i, h => by
    have hx : i < X.length := by omega
    have hm : (madeL f i).length = i := madeL_length
    have hg : (madeL f i ++ X.drop i).getD i [] = X.getD i [] := by
      rw [List.getD_eq_getElem?_getD, List.getElem?_append_right (by omega), hm, Nat.sub_self, List.getElem?_drop, Nat.add_zero, ← List.getD_eq_getElem?_getD]
    have hset : (madeL f i ++ X.drop i).set i (f i) = madeL f (i + 1) ++ X.drop (i + 1) := by
      rw [List.set_append_right _ _ (by omega), hm, Nat.sub_self, List.drop_eq_getElem_cons hx, List.set_cons_zero]
      unfold madeL
      rw [List.range_succ, List.map_append, List.append_assoc]
      rfl
    have h1 := hs (madeL f i ++ X.drop i) i hx (by rw [List.length_append, hm, List.length_drop]; omega) (by rw [hg]; exact hz _ (by rw [getD_at hx]; exact List.getElem_mem _))
    rw [hset] at h1
    rw [loopN_next h1]
    exact loopN_over X m f st w hz hf hs hN n (i + 1) (by omega)

theorem row_set {Y : List (List TC)} {i : Nat} {a : List TC} (h : i < Y.length) : row (Y.set i a) (i : Int) = a := by
  unfold row
  rw [Int.toNat_natCast, List.getD_eq_getElem?_getD, List.getElem?_set_self h]
  rfl
theorem typed_rows {T : Tab} {e : TypeId} {A : List (List TC)} {m : Nat} (h : Typed T (.slice e) (.l A)) (he : (T e).cts.length = m) : ∀ x, x ∈ A → x.length = m := by
  cases h with
  | slice _ _ _ _ h3 _ => intro x hx; rw [h3 x hx, he]

def digitsF (d : Int → List UInt8) : Nat → Int → List UInt8 → List UInt8
  | 0, _, s => s
  | n + 1, k, s => if 0 < k then digitsF d n (k / 10) (d k ++ s) else s
theorem digitsF_len {d : Int → List UInt8} (hd : ∀ k, (d k).length ≤ 1) : ∀ n k s, (digitsF d n k s).length ≤ n + s.length
  | 0, k, s => by simp [digitsF]
  | n + 1, k, s => by
    unfold digitsF
    split
    · have := digitsF_len hd n (k / 10) (d k ++ s)
      have := hd k
      simp only [List.length_append] at *
      omega
    · omega
theorem tdiv10 {k : Int} (h0 : 0 ≤ k) (h1 : k ≤ 9223372036854775807) : IntKind.wrap .i64 (Int.tdiv k 10) = k / 10 := by
  rw [Int.tdiv_eq_ediv_of_nonneg h0, wrap64 (by omega) (by omega)]
theorem loopN_digits {σ ω : Type} {step : σ → Tr (σ ⊕ ω)} (d : Int → List UInt8) (hd : ∀ k, (d k).length ≤ 1) (st : Int → List UInt8 → σ) (w : List UInt8 → ω) (B : Int)
    (hs : ∀ k s, 0 < k → k ≤ B → s.length ≤ 100 → (step (st k s)).val = some (.inl (st (k / 10) (d k ++ s))))
    (hN : ∀ k s, ¬ 0 < k → (step (st k s)).val = some (.inr (w s))) : ∀ (n : Nat) (k : Int) (s : List UInt8), k < 10 ^ n → k ≤ B → s.length + n ≤ 100 → loopN step (n + 1) (st k s) = some (w (digitsF d n k s))
  | 0, k, s, h, _, _ => loopN_end (hN k s (by have : (10 : Int) ^ 0 = 1 := rfl; omega))
  | n + 1, k, s, h, hb, hl => by
    unfold digitsF
    split
    · rename_i h0
      have hp : (10 : Int) ^ (n + 1) = 10 ^ n * 10 := Int.pow_succ 10 n
      rw [loopN_next (hs k s h0 hb (by omega))]
      have := hd k
      exact loopN_digits d hd st w B hs hN n (k / 10) (d k ++ s) (by omega) (by omega) (by rw [List.length_append]; omega)
    · rename_i h0
      exact loopN_end (hN k s h0)

theorem row_madeL {f : Nat → List TC} {n i : Nat} (h : i < n) : row (madeL f n) (i : Int) = f i := by
  unfold row
  rw [Int.toNat_natCast]
  exact madeL_getD h

end Go.Proofs.Ytabdjbkbfilhkaa.V
