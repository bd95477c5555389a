import Derived.Test.YtjhbfeeaehaniaaDoorV37
namespace Go.Proofs.YtjhbfeeaehaniaaDoor.V
open Go Go.RowKit Go.ChangeShapes Go.WideShapes

/-! ### Depth -/
mutual
def TC.dep : TC → Nat
  | .l xs => rowsDep xs
  | _ => 0
def rowDep : List TC → Nat
  | [] => 0
  | c :: cs => Nat.max c.dep (rowDep cs)
def rowsDep : List (List TC) → Nat
  | [] => 0
  | x :: xs => Nat.max (rowDep x + 1) (rowsDep xs)
end

/-! ### The same data at another type -/
def isoCT (L : List (Nat × Nat)) : CT → CT → Bool
  | .int k, .int k' => decide (k = k')
  | .bool, .bool => true
  | .str, .str => true
  | .slice e, .slice e' => decide (e = e') || L.contains (e, e')
  | _, _ => false
def isoCts (L : List (Nat × Nat)) : List CT → List CT → Bool
  | [], [] => true
  | a :: as, b :: bs => isoCT L a b && isoCts L as bs
  | _, _ => false
def isoOk (T : Tab) (L : List (Nat × Nat)) : Bool := L.all fun p => isoCts L (T p.1).cts (T p.2).cts && Nat.beq (T p.1).bytes (T p.2).bytes

theorem isoCts_len {L : List (Nat × Nat)} : ∀ {as bs : List CT}, isoCts L as bs = true → as.length = bs.length
  | [], [], _ => rfl
  | _ :: as, _ :: bs, h => by
    simp only [isoCts, Bool.and_eq_true] at h
    simp [isoCts_len h.2]
  | [], _ :: _, h => by cases h
  | _ :: _, [], h => by cases h
theorem isoCts_at {L : List (Nat × Nat)} : ∀ {as bs : List CT}, isoCts L as bs = true → ∀ k, k < as.length → isoCT L (as.getD k .bool) (bs.getD k .bool) = true
  | [], [], _, k, hk => by simp at hk
  | a :: as, b :: bs, h, k, hk => by
    simp only [isoCts, Bool.and_eq_true] at h
    cases k with
    | zero => exact h.1
    | succ k => simpa using isoCts_at h.2 k (by simpa using hk)
  | [], _ :: _, h, _, _ => by cases h
  | _ :: _, [], h, _, _ => by cases h

theorem typed_iso {T : Tab} {L : List (Nat × Nat)} (hL : isoOk T L = true) {ct : CT} {c : TC} (h : Typed T ct c) : ∀ {ct' : CT}, isoCT L ct ct' = true → Typed T ct' c := by
  induction h with
  | int k n hw =>
    intro ct' hi
    cases ct' <;> simp only [isoCT, decide_eq_true_eq, Bool.false_eq_true] at hi
    subst hi
    exact .int _ _ hw
  | bool b =>
    intro ct' hi
    cases ct' <;> simp only [isoCT, Bool.false_eq_true] at hi
    exact .bool b
  | str l hl =>
    intro ct' hi
    cases ct' <;> simp only [isoCT, Bool.false_eq_true] at hi
    exact .str l hl
  | slice e xs h1 h2 h3 h4 ih =>
    intro ct' hi
    cases ct' <;> simp only [isoCT, Bool.false_eq_true] at hi
    rename_i e'
    simp only [Bool.or_eq_true, decide_eq_true_eq] at hi
    rcases hi with rfl | hi
    · exact .slice _ xs h1 h2 h3 h4
    · unfold isoOk at hL
      rw [List.all_eq_true] at hL
      have hp := hL (e, e') (by simpa using hi)
      simp only [Bool.and_eq_true] at hp
      have hb := Nat.eq_of_beq_eq_true hp.2
      have hl := isoCts_len hp.1
      exact .slice e' xs (by rw [← hb]; exact h1) h2 (fun x hx => by rw [h3 x hx, hl]) (fun x hx k hk => ih x hx k (by rw [hl]; exact hk) (isoCts_at hp.1 k (by rw [hl]; exact hk)))

/-! ### Rows copied as they are -/
theorem typed_int_eq {T : Tab} {k : IntKind} {c : TC} (h : Typed T (.int k) c) : TC.i c.int = c := by cases h; rfl
theorem typed_list_eq {T : Tab} {e : TypeId} {c : TC} (h : Typed T (.slice e) c) : TC.l c.list = c := by cases h; rfl
theorem row_eta {x : List TC} {m : Nat} (h : x.length = m) : x = (List.range m).map fun k => nth x k := by
  apply List.ext_getElem
  · simp [h]
  · intro i h1 h2
    simp [nth, List.getElem?_eq_getElem h1]
theorem map_same {A : List (List TC)} {g : List TC → List TC} (h : ∀ x, x ∈ A → g x = x) : A.map g = A := by
  rw [List.map_congr_left h]; exact List.map_id A
theorem typed_elem {T : Tab} {e : TypeId} {A : List (List TC)} (h : Typed T (.slice e) (.l A)) {x : List TC} (hx : x ∈ A) : x.length = (T e).cts.length ∧ ∀ k, k < (T e).cts.length → Typed T ((T e).cts.getD k .bool) (nth x k) := by
  cases h with
  | slice _ _ _ _ h3 h4 => exact ⟨h3 x hx, h4 x hx⟩

noncomputable def eqL (A C : List (List TC)) : Bool := @decide (A = C) (Classical.propDecidable _)
theorem eqL_iff {A C : List (List TC)} : eqL A C = true ↔ A = C := by unfold eqL; exact @decide_eq_true_iff _ (Classical.propDecidable _)
theorem eqL_refl {A : List (List TC)} : eqL A A = true := eqL_iff.2 rfl
theorem allEq_eqL {E : List TC → List TC → Bool} : ∀ {A C : List (List TC)}, (∀ x y, x ∈ A → y ∈ C → (E x y = true ↔ x = y)) → allEq E A C = eqL A C := by
  intro A C h
  rw [Bool.eq_iff_iff, eqL_iff]
  induction A generalizing C with
  | nil => cases C with
    | nil => simp [allEq]
    | cons y ys => simp [allEq]
  | cons x xs ih => cases C with
    | nil => simp [allEq]
    | cons y ys =>
      rw [show allEq E (x :: xs) (y :: ys) = (E x y && allEq E xs ys) from rfl, Bool.and_eq_true, h x y List.mem_cons_self List.mem_cons_self, ih fun a b ha hb => h a b (List.mem_cons_of_mem _ ha) (List.mem_cons_of_mem _ hb), List.cons.injEq]
theorem bif_ft {a b : Bool} : (bif a then b else false) = (a && b) := by cases a <;> rfl
theorem bif_same {α : Type} {c : Bool} {x : α} : (bif c then x else x) = x := by cases c <;> rfl
theorem bneF {a b : Int} (h : (!(a == b)) = false) : a = b := by simpa using h
/-! ### A law whose tellings hang on its arguments -/
section
variable {H : Type} {enc : TypeId × Value → H} {P : Program} {T : Tab} {w : World} {live : FuncId → Nat → Live × Live} {O : List TypeId}
end
end Go.Proofs.YtjhbfeeaehaniaaDoor.V
