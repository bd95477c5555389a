import Derived.Test.YtabdjbkbfilhkaaV22
namespace Go.Proofs.Ytabdjbkbfilhkaa.V
open Go Go.RowKit Go.ChangeShapes Go.WideShapes

def argOf (T : Tab) (t : TypeId) (trees : List TC) : Arg := ((T t).kind.agg, (T t).cts.zip trees)

inductive ArgsTyped (T : Tab) : List TypeId → List Arg → Prop
  | nil : ArgsTyped T [] []
  | cons {t : TypeId} {ts : List TypeId} {trees : List TC} {as : List Arg} : trees.length = (T t).cts.length → (∀ k, k < (T t).cts.length → Typed T ((T t).cts.getD k .bool) (nth trees k)) →
      ArgsTyped T ts as → ArgsTyped T (t :: ts) (argOf T t trees :: as)

def yes : Option Res := some [(false, [⟨.bool, .sh, .b true⟩])]

section
variable {H : Type} {enc : TypeId × Value → H} {P : Program} {T : Tab} {w : World} {O : List TypeId}

theorem arg_rel (hT : TabOk P T) (hO : openAll T O = true) {t : TypeId} (ht : t ∈ O) {r : Reach} {base : Nat} {v : Value} (hv : Value.okWide P w r base t v) {trees : List TC} (h : Opens T w (T t).cts v.cells.toList trees) : ArgRel T w (There w) (argOf T t trees) v := by
  have hot : openTy T O t = true := by unfold openAll at hO; rw [List.all_eq_true] at hO; exact hO t ht
  obtain ⟨h1, h2, h3⟩ := h
  have hc : CellsRel T w (There w) (shCells ((T t).cts.zip trees)) v.cells.toList [] := by
    refine cellsRel_of (by simp [shCells, h1, h2]) fun k hk => ?_
    have hk' : k < (T t).cts.length := by
      simp only [shCells, List.length_map, List.length_zip] at hk; omega
    have e : (shCells ((T t).cts.zip trees))[k] = ⟨(T t).cts[k], .sh, trees[k]⟩ := by simp [shCells]
    rw [e]
    have := (h3 k hk').1
    rw [List.getD_eq_getElem?_getD, List.getElem?_eq_getElem hk'] at this
    unfold nth at this
    rw [List.getD_eq_getElem?_getD, List.getD_eq_getElem?_getD, List.getElem?_eq_getElem (show k < trees.length by omega)] at this
    rw [List.getElem?_eq_getElem (show k < v.cells.toList.length by omega)] at this
    refine ⟨?_, rfl⟩
    show RepC T w _ (T t).cts[k] (v.cells.toList.getD k undef) trees[k]
    rw [List.getD_eq_getElem?_getD, List.getElem?_eq_getElem (show k < v.cells.toList.length by omega)]
    exact this
  have hko : (T t).kind.isOther = false := by
    unfold openTy at hot
    cases hk : (T t).kind <;> rw [hk] at hot <;> first | rfl | simp at hot
  obtain ⟨i, hi⟩ := hT t hko
  have hki := hi.kind
  have hform : v = mkv (T t).kind.agg v.cells.toList := by
    unfold openTy at hot
    cases hk : (T t).kind <;> rw [hk] at hot hki <;> simp only [KindOk] at hki
    case int k => obtain ⟨n, rfl⟩ := okWide_int hki.1 hv; rfl
    case bool => obtain ⟨n, rfl⟩ := okWide_bool hki.1 hv; rfl
    case str => obtain ⟨n, rfl⟩ := okWide_string hki.1 hv; rfl
    case slice e => obtain ⟨a, l, c, rfl⟩ := okWide_slice hki.1 hv; rfl
    case struct fs =>
      obtain ⟨gs, hu, _⟩ := hki
      obtain ⟨cs, rfl, _⟩ := okWide_struct hu hv
      simp [TK.agg, mkv, Value.cells]
    all_goals simp at hot
  refine ⟨v.cells.toList, hform, hc, fun hg => ?_⟩
  have := agg_cts hT hko hg
  simp only [argOf, List.length_zip, h1]
  omega

theorem args_open (hT : TabOk P T) (hO : openAll T O = true) {r : Reach} {base : Nat} : ∀ {ts : List TypeId} {vs : List Value} {ds : List (DataW H)} {p : List MemPlace}, DataW.TrodAll enc P w 0 (fun _ => true) true ts vs ds p → (∀ t, t ∈ ts → t ∈ O) →
    (∀ (j : Nat) (t : TypeId) (v : Value), ts[j]? = some t → vs[j]? = some v → Value.okWide P w r base t v) → (DataW.weightsEach P ts ds).all (· ≤ reachBytes) = true → ∃ as, ArgsRel T w (There w) as vs ∧ ArgsTyped T ts as
  | [], [], [], p, _, _, _, _ => ⟨[], .nil, .nil⟩
  | t :: ts, v :: vs, d :: ds, p, h, hm, hv, hw => by
    obtain ⟨p1, q1, ⟨fuel, h1⟩, h2, _⟩ := h
    simp only [DataW.weightsEach] at hw
    obtain ⟨w1, w2⟩ := all_append_le hw
    obtain ⟨trees, ho⟩ := open_trod hT hO fuel t _ _ (hm t (by simp)) h1 w1
    obtain ⟨as, r1, r2⟩ := args_open hT hO h2 (fun t ht => hm t (by simp [ht])) (fun j t v ht hv' => hv (j + 1) t v (by simpa using ht) (by simpa using hv')) w2
    exact ⟨argOf T t trees :: as, .cons (arg_rel hT hO (hm t (by simp)) (hv 0 t v rfl rfl) ho) r1, .cons ho.1 (fun k hk => (ho.2.2 k hk).2) r2⟩
  | [], [], _ :: _, _, h, _, _, _ => by cases h
  | [], _ :: _, _, _, h, _, _, _ => by cases h
  | _ :: _, [], _, _, h, _, _, _ => by cases h
  | _ :: _, _ :: _, [], _, h, _, _, _ => by cases h

theorem trodAll_stays (hl : laidOutB P = true) {W W' : World} (hb : Below W.heap.size W W') : ∀ {ts : List TypeId} {vs : List Value} {ds : List (DataW H)} {ps : List MemPlace}, (∀ t, t ∈ ts → P.readableRec t = true ∧ t < P.types.size) →
    DataW.TrodAll enc P W 0 (fun _ => true) true ts vs ds ps → (∀ x, x ∈ ps → x.block < W.heap.size) → DataW.TrodAll enc P W' 0 (fun b => decide (b < W.heap.size)) true ts vs ds ps
  | [], [], [], ps, _, h, _ => h
  | t :: ts, v :: vs, d :: ds, ps, ht, h, hlt => by
    obtain ⟨p, q, h1, h2, rfl⟩ := h
    obtain ⟨hr, hrow⟩ := ht t (by simp)
    exact ⟨p, q, Below.trod hl hr hrow h1 hb (fun x hx => hlt x (by simp [hx])), trodAll_stays hl hb (fun t h => ht t (by simp [h])) h2 (fun x hx => hlt x (by simp [hx])), rfl⟩
  | [], [], _ :: _, _, _, h, _ => by cases h
  | [], _ :: _, _, _, _, h, _ => by cases h
  | _ :: _, [], _, _, _, h, _ => by cases h
  | _ :: _, _ :: _, [], _, _, h, _ => by cases h

theorem trodAll_len {W : World} {base : Nat} {sp : Nat → Bool} {held : Bool} : ∀ {ts : List TypeId} {vs : List Value} {ds : List (DataW H)} {ps : List MemPlace}, DataW.TrodAll enc P W base sp held ts vs ds ps → ds.length = ts.length
  | [], [], [], _, _ => rfl
  | t :: ts, v :: vs, d :: ds, ps, h => by
    obtain ⟨p, q, _, h2, _⟩ := h
    simp [trodAll_len h2]
  | [], [], _ :: _, _, h => by cases h
  | [], _ :: _, _, _, h => by cases h
  | _ :: _, [], _, _, h => by cases h
  | _ :: _, _ :: _, [], _, h => by cases h

end

end Go.Proofs.Ytabdjbkbfilhkaa.V
