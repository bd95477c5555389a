import Derived.Test.YtabdjbkbfilhkaaV37
namespace Go.Proofs.Ytabdjbkbfilhkaa.V
open Go Go.RowKit Go.ChangeShapes Go.WideShapes

/-! ### Depth -/
mutual
def TC.dep : TC → Nat
  | .l xs => rowsDep xs
  | _ => 0
def rowDep : List TC → Nat
  | [] => 0
  | c :: cs => Nat.max c.dep (rowDep cs)
def rowsDep : List (List TC) → Nat
  | [] => 0
  | x :: xs => Nat.max (rowDep x + 1) (rowsDep xs)
end

theorem rowsDep_mem {x : List TC} : ∀ {xs : List (List TC)}, x ∈ xs → rowDep x < rowsDep xs
  | y :: ys, h => by
    unfold rowsDep
    have h1 : rowDep y + 1 ≤ Nat.max (rowDep y + 1) (rowsDep ys) := Nat.le_max_left _ _
    have h2 : rowsDep ys ≤ Nat.max (rowDep y + 1) (rowsDep ys) := Nat.le_max_right _ _
    rcases List.mem_cons.1 h with rfl | h
    · omega
    · have := rowsDep_mem h; omega
theorem rowDep_mem {c : TC} : ∀ {cs : List TC}, c ∈ cs → c.dep ≤ rowDep cs
  | d :: ds, h => by
    unfold rowDep
    have h1 : d.dep ≤ Nat.max d.dep (rowDep ds) := Nat.le_max_left _ _
    have h2 : rowDep ds ≤ Nat.max d.dep (rowDep ds) := Nat.le_max_right _ _
    rcases List.mem_cons.1 h with rfl | h
    · exact h1
    · have := rowDep_mem h; omega
theorem dep_list (c : TC) : rowsDep c.list ≤ c.dep := by
  cases c <;> simp [TC.list, TC.dep, rowsDep]
theorem dep_nth (x : List TC) (k : Nat) : (nth x k).dep ≤ rowDep x := by
  unfold nth
  rw [List.getD_eq_getElem?_getD]
  rcases Nat.lt_or_ge k x.length with h | h
  · rw [List.getElem?_eq_getElem h]
    exact rowDep_mem (List.getElem_mem h)
  · rw [List.getElem?_eq_none h]
    simp [TC.dep]
theorem dep_cell {A : List (List TC)} {x : List TC} (h : x ∈ A) (k : Nat) : rowsDep (nth x k).list < rowsDep A :=
  Nat.lt_of_le_of_lt (Nat.le_trans (dep_list _) (dep_nth x k)) (rowsDep_mem h)
/-! ### The same data at another type -/
def isoCT (L : List (Nat × Nat)) : CT → CT → Bool
  | .int k, .int k' => decide (k = k')
  | .bool, .bool => true
  | .str, .str => true
  | .slice e, .slice e' => decide (e = e') || L.contains (e, e')
  | _, _ => false
def isoCts (L : List (Nat × Nat)) : List CT → List CT → Bool
  | [], [] => true
  | a :: as, b :: bs => isoCT L a b && isoCts L as bs
  | _, _ => false
def isoOk (T : Tab) (L : List (Nat × Nat)) : Bool := L.all fun p => isoCts L (T p.1).cts (T p.2).cts && Nat.beq (T p.1).bytes (T p.2).bytes

theorem isoCts_len {L : List (Nat × Nat)} : ∀ {as bs : List CT}, isoCts L as bs = true → as.length = bs.length
  | [], [], _ => rfl
  | _ :: as, _ :: bs, h => by
    simp only [isoCts, Bool.and_eq_true] at h
    simp [isoCts_len h.2]
  | [], _ :: _, h => by cases h
  | _ :: _, [], h => by cases h
theorem isoCts_at {L : List (Nat × Nat)} : ∀ {as bs : List CT}, isoCts L as bs = true → ∀ k, k < as.length → isoCT L (as.getD k .bool) (bs.getD k .bool) = true
  | [], [], _, k, hk => by simp at hk
  | a :: as, b :: bs, h, k, hk => by
    simp only [isoCts, Bool.and_eq_true] at h
    cases k with
    | zero => exact h.1
    | succ k => simpa using isoCts_at h.2 k (by simpa using hk)
  | [], _ :: _, h, _, _ => by cases h
  | _ :: _, [], h, _, _ => by cases h

theorem typed_iso {T : Tab} {L : List (Nat × Nat)} (hL : isoOk T L = true) {ct : CT} {c : TC} (h : Typed T ct c) : ∀ {ct' : CT}, isoCT L ct ct' = true → Typed T ct' c := by
  induction h with
  | int k n hw =>
    intro ct' hi
    cases ct' <;> simp only [isoCT, decide_eq_true_eq, Bool.false_eq_true] at hi
    subst hi
    exact .int _ _ hw
  | bool b =>
    intro ct' hi
    cases ct' <;> simp only [isoCT, Bool.false_eq_true] at hi
    exact .bool b
  | str l hl =>
    intro ct' hi
    cases ct' <;> simp only [isoCT, Bool.false_eq_true] at hi
    exact .str l hl
  | slice e xs h1 h2 h3 h4 ih =>
    intro ct' hi
    cases ct' <;> simp only [isoCT, Bool.false_eq_true] at hi
    rename_i e'
    simp only [Bool.or_eq_true, decide_eq_true_eq] at hi
    rcases hi with rfl | hi
    · exact .slice _ xs h1 h2 h3 h4
    · unfold isoOk at hL
      rw [List.all_eq_true] at hL
      have hp := hL (e, e') (by simpa using hi)
      simp only [Bool.and_eq_true] at hp
      have hb := Nat.eq_of_beq_eq_true hp.2
      have hl := isoCts_len hp.1
      exact .slice e' xs (by rw [← hb]; exact h1) h2 (fun x hx => by rw [h3 x hx, hl]) (fun x hx k hk => ih x hx k (by rw [hl]; exact hk) (isoCts_at hp.1 k (by rw [hl]; exact hk)))

/-! ### Rows copied as they are -/
theorem typed_int_eq {T : Tab} {k : IntKind} {c : TC} (h : Typed T (.int k) c) : TC.i c.int = c := by cases h; rfl
theorem typed_bool_eq {T : Tab} {c : TC} (h : Typed T .bool c) : TC.b c.bool = c := by cases h; rfl
theorem typed_str_eq {T : Tab} {c : TC} (h : Typed T .str c) : TC.s c.str = c := by cases h; rfl
theorem typed_list_eq {T : Tab} {e : TypeId} {c : TC} (h : Typed T (.slice e) c) : TC.l c.list = c := by cases h; rfl
theorem row_eta {x : List TC} {m : Nat} (h : x.length = m) : x = (List.range m).map fun k => nth x k := by
  apply List.ext_getElem
  · simp [h]
  · intro i h1 h2
    simp [nth, List.getElem?_eq_getElem h1]
theorem map_same {A : List (List TC)} {g : List TC → List TC} (h : ∀ x, x ∈ A → g x = x) : A.map g = A := by
  rw [List.map_congr_left h]; exact List.map_id A
theorem typed_elem {T : Tab} {e : TypeId} {A : List (List TC)} (h : Typed T (.slice e) (.l A)) {x : List TC} (hx : x ∈ A) : x.length = (T e).cts.length ∧ ∀ k, k < (T e).cts.length → Typed T ((T e).cts.getD k .bool) (nth x k) := by
  cases h with
  | slice _ _ _ _ h3 h4 => exact ⟨h3 x hx, h4 x hx⟩

theorem attach_val {α : Type} {l : List α} : l.attach.map Subtype.val = l := by
  have h := List.attach_map_val (l := l) (f := id)
  rw [List.map_id] at h
  exact h
theorem attach_all {α : Type} {l : List α} {p : α → Bool} : (l.attach.all fun x => p x.1) = l.all p := by
  rw [show (fun x : { x // x ∈ l } => p x.1) = p ∘ Subtype.val from rfl, ← List.all_map, attach_val]
theorem attach_foldl {α β : Type} {l : List α} {f : β → α → β} {b : β} : (l.attach.foldl (fun b x => f b x.1) b) = l.foldl f b := by
  have := List.foldl_map (f := Subtype.val) (g := f) (l := l.attach) (init := b)
  rw [attach_val] at this
  exact this.symm
/-! ### A law whose tellings hang on its arguments -/
section
variable {H : Type} {enc : TypeId × Value → H} {P : Program} {T : Tab} {w : World} {live : FuncId → Nat → Live × Live} {O : List TypeId}
theorem law_told2 (hm : P.follows .mixedOrders = true) (hT : TabOk P T) (hO : openAll T O = true) (hl : laidOutB P = true)
    {f : FuncId} {fn : Func} {s : ChangeSpec} {tb : TypeId} (hvars : s.vars = []) (hspec : ∀ (H : Type) (ds : List (DataW H)), ds.length = fn.params.toList.length → s.fn H ds = { results := [.lit (.bool true)], args := ds })
    (hres : fn.resultTypes = #[tb]) (hb : P.underlying tb = some .bool) (hts : ∀ t, t ∈ fn.params.toList → t ∈ O ∧ P.readableRec t = true ∧ t < P.types.size)
    (hpure : ∀ as, ArgsTyped T fn.params.toList as → ∃ (D : Dt) (lo : LoopTeller), DOk P T D ∧ FnLoops T (fun f => P.funcs[f]?) D live f lo ∧ runF T (fun f => P.funcs[f]?) D live f lo as = yes)
    (W : World) (base : Nat) (args : Array Value) (ds gs : List (DataW H)) (before : List MemPlace)
    (hval : ∀ (j : Nat) (t : TypeId) (v : Value), fn.params[j]? = some t → args[j]? = some v → Value.okWide P W .any base t v)
    (hW : DataW.Whole enc P fn.params.toList s.vars false W args.toList ds gs before)
    (hsz : (DataW.weightsEach P (fn.params.toList ++ s.plain.varTypes P) (ds ++ gs)).all (· ≤ reachBytes) = true) (hI : intGl T W) :
    Calls P f args W fun e W' => ∃ v, e = .returned v ∧ s.post enc P fn false true false false W args v W' := by
  have hW' := hW
  obtain ⟨p, q, hA, hV, rfl, hfz, hnd⟩ := hW
  rw [hvars] at hV
  have hgs : gs = [] := by cases gs with | nil => rfl | cons => cases hV
  subst hgs
  have hvt : s.plain.varTypes P = [] := by simp [ChangeSpec.plain, DataSpec.varTypes, hvars]
  rw [hvt, List.append_nil, List.append_nil] at hsz
  obtain ⟨as, h1, h2⟩ := args_open hT hO hA (fun t ht => (hts t ht).1) (fun j t v ht hv => hval j t v (by rw [← Array.getElem?_toList]; exact ht) (by rw [← Array.getElem?_toList]; exact hv)) hsz
  obtain ⟨D, lo, hD, hlo, hrun⟩ := hpure as h2
  have hcall := (told_calls hm hT hD hlo hrun (S := There W) ⟨fun _ h => h, hI⟩ h1).2
  rw [Array.toArray_toList] at hcall
  refine hcall.mono fun e W' he => ?_
  obtain ⟨v, rfl, fq, ⟨hr, _⟩, _, _, bel⟩ := he
  refine ⟨v, rfl, ?_⟩
  obtain ⟨us, rfl, hc, _⟩ := hr
  have hv : mkv false us = .bool true := by
    cases hc with
    | cons h3 h4 =>
      cases h4
      have h3 := h3.1
      cases h3
      rfl
  rw [hv]
  have hlt : ∀ x, x ∈ p → x.block < W.heap.size := fun x hx => hW'.lt x (by simp [hx])
  have hsp := hspec H (ds ++ []) (by rw [List.append_nil]; exact trodAll_len hA)
  refine ⟨ds, [], _, [], p, [], hW', ?_, ?_, ?_, bel.frame _, fun h => by cases h⟩
  · rw [hsp, hres]
    exact trodAll_mk1 (shut_bool hb _)
  · rw [hsp]
    rw [List.append_nil]
    exact trodAll_stays hl bel (fun t ht => (hts t ht).2) hA hlt
  · rw [hsp, hvars]
    rfl
end
end Go.Proofs.Ytabdjbkbfilhkaa.V
