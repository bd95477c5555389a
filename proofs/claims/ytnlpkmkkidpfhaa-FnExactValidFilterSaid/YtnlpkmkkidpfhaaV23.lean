/- A law's row, from what the evaluator says of the law. No condition beyond what is said of the types, the names and the functions told by hand. -/
import Derived.Test.YtnlpkmkkidpfhaaV22
namespace Go.Proofs.Ytnlpkmkkidpfhaa.V
open Go Go.RowKit Go.ChangeShapes Go.WideShapes

/-- An argument of type t with these trees. -/
def argOf (T : Tab) (t : TypeId) (trees : List TC) : Arg := ((T t).kind.agg, (T t).cts.zip trees)

inductive ArgsTyped (T : Tab) : List TypeId → List Arg → Prop
  | nil : ArgsTyped T [] []
  | cons {t : TypeId} {ts : List TypeId} {trees : List TC} {as : List Arg} : trees.length = (T t).cts.length → (∀ k, k < (T t).cts.length → Typed T ((T t).cts.getD k .bool) (nth trees k)) →
      ArgsTyped T ts as → ArgsTyped T (t :: ts) (argOf T t trees :: as)

def yes : Option Res := some [(false, [⟨.bool, .sh, .b true⟩])]

section
variable {H : Type} {enc : TypeId × Value → H} {P : Program} {T : Tab} {w : World} {O : List TypeId}

theorem arg_rel (hT : TabOk P T) (hO : openAll T O = true) {t : TypeId} (ht : t ∈ O) {r : Reach} {base : Nat} {v : Value} (hv : Value.okWide P w r base t v) {trees : List TC} (h : Opens T w (T t).cts v.cells.toList trees) : ArgRel T w (There w) (argOf T t trees) v := by
  have hot : openTy T O t = true := by unfold openAll at hO; rw [List.all_eq_true] at hO; exact hO t ht
  obtain ⟨h1, h2, h3⟩ := h
  have hc : CellsRel T w (There w) (shCells ((T t).cts.zip trees)) v.cells.toList [] := by
    refine cellsRel_of (by simp [shCells, h1, h2]) fun k hk => ?_
    have hk' : k < (T t).cts.length := by
      simp only [shCells, List.length_map, List.length_zip] at hk; omega
    have e : (shCells ((T t).cts.zip trees))[k] = ⟨(T t).cts[k], .sh, trees[k]⟩ := by simp [shCells]
    rw [e]
    have := (h3 k hk').1
    rw [List.getD_eq_getElem?_getD, List.getElem?_eq_getElem hk'] at this
    unfold nth at this
    rw [List.getD_eq_getElem?_getD, List.getD_eq_getElem?_getD, List.getElem?_eq_getElem (show k < trees.length by omega)] at this
    rw [List.getElem?_eq_getElem (show k < v.cells.toList.length by omega)] at this
    refine ⟨?_, rfl⟩
    show RepC T w _ (T t).cts[k] (v.cells.toList.getD k undef) trees[k]
    rw [List.getD_eq_getElem?_getD, List.getElem?_eq_getElem (show k < v.cells.toList.length by omega)]
    exact this
  have hko : (T t).kind.isOther = false := by
    unfold openTy at hot
    cases hk : (T t).kind <;> rw [hk] at hot <;> first | rfl | simp at hot
  obtain ⟨i, hi⟩ := hT t hko
  have hki := hi.kind
  have hform : v = mkv (T t).kind.agg v.cells.toList := by
    unfold openTy at hot
    cases hk : (T t).kind <;> rw [hk] at hot hki <;> simp only [KindOk] at hki
    case int k => obtain ⟨n, rfl⟩ := okWide_int hki.1 hv; rfl
    case bool => obtain ⟨n, rfl⟩ := okWide_bool hki.1 hv; rfl
    case str => obtain ⟨n, rfl⟩ := okWide_string hki.1 hv; rfl
    case slice e => obtain ⟨a, l, c, rfl⟩ := okWide_slice hki.1 hv; rfl
    case struct fs =>
      obtain ⟨gs, hu, _⟩ := hki
      obtain ⟨cs, rfl, _⟩ := okWide_struct hu hv
      simp [TK.agg, mkv, Value.cells]
    all_goals simp at hot
  refine ⟨v.cells.toList, hform, hc, fun hg => ?_⟩
  have := agg_cts hT hko hg
  simp only [argOf, List.length_zip, h1]
  omega

theorem args_open (hT : TabOk P T) (hO : openAll T O = true) {r : Reach} {base : Nat} : ∀ {ts : List TypeId} {vs : List Value} {ds : List (DataW H)} {p : List MemPlace}, DataW.TrodAll enc P w 0 (fun _ => true) true ts vs ds p → (∀ t, t ∈ ts → t ∈ O) →
    (∀ (j : Nat) (t : TypeId) (v : Value), ts[j]? = some t → vs[j]? = some v → Value.okWide P w r base t v) → (DataW.weightsEach P ts ds).all (· ≤ reachBytes) = true → ∃ as, ArgsRel T w (There w) as vs ∧ ArgsTyped T ts as
  | [], [], [], p, _, _, _, _ => ⟨[], .nil, .nil⟩
  | t :: ts, v :: vs, d :: ds, p, h, hm, hv, hw => by
    obtain ⟨p1, q1, ⟨fuel, h1⟩, h2, _⟩ := h
    simp only [DataW.weightsEach] at hw
    obtain ⟨w1, w2⟩ := all_append_le hw
    obtain ⟨trees, ho⟩ := open_trod hT hO fuel t _ _ (hm t (by simp)) h1 w1
    obtain ⟨as, r1, r2⟩ := args_open hT hO h2 (fun t ht => hm t (by simp [ht])) (fun j t v ht hv' => hv (j + 1) t v (by simpa using ht) (by simpa using hv')) w2
    exact ⟨argOf T t trees :: as, .cons (arg_rel hT hO (hm t (by simp)) (hv 0 t v rfl rfl) ho) r1, .cons ho.1 (fun k hk => (ho.2.2 k hk).2) r2⟩
  | [], [], _ :: _, _, h, _, _, _ => by cases h
  | [], _ :: _, _, _, h, _, _, _ => by cases h
  | _ :: _, [], _, _, h, _, _, _ => by cases h
  | _ :: _, _ :: _, [], _, h, _, _, _ => by cases h

/-- A function's call, from what the evaluator says. -/
theorem denote_calls {live : FuncId → Nat → Live × Live} {over : FuncId → List Arg → Option (Option Res)} (hm : P.follows .mixedOrders = true) (hT : TabOk P T) (hN : NamesOk P) (hO : OverOk P T over) {k : Nat} {f : FuncId} {as : List Arg} {r : Res}
    (he : denote T (fun f => P.funcs[f]?) live over k f as = some r) (hov : over f as = .none) {S : Nat → Prop} {vals : List Value} (hS : ∀ b, S b → b < w.heap.size) (hargs : ArgsRel T w S as vals) :
    Calls P f vals.toArray w fun e w' => ∃ v, e = .returned v ∧ (∃ fq, ResRel T w' (fun b => b < w'.heap.size ∧ (S b ∨ w.heap.size ≤ b) ∧ b ∉ fq) r v fq) ∧ Below w.heap.size w w' := by
  cases k with
  | zero => cases he
  | succ k =>
    simp only [denote, hov] at he
    obtain ⟨fn, hf, he⟩ := Option.bind_eq_some_iff.1 he
    obtain ⟨c, hb, he⟩ := Option.bind_eq_some_iff.1 he
    split at he
    · cases he
    · rename_i hle
      have hle' : as.length ≤ fn.ntmps := Nat.le_of_ble_eq_true (by simpa using hle)
      refine calls_of_wp hf hb (code_sound hm hT (denote_ok hm hT hN hO k) c he (enter_rel hS hargs hle') fun e σ' a' w' hk hr hbel => ?_)
      have fin : resultsOf T σ' fn.results.toList = some r → a'.defers = [] ∧ ∃ v, (results fn a'.tmps).run P w' = .ok v w' ∧ ∃ v', Ending.returned v = .returned v' ∧ (∃ fq, ResRel T w' (fun b => b < w'.heap.size ∧ (S b ∨ w.heap.size ≤ b) ∧ b ∉ fq) r v' fq) ∧ Below w.heap.size w w' := by
        intro hres
        obtain ⟨v, fq, q1, q2, q3, q4⟩ := results_sound hT hr hres
        obtain ⟨fp, us, blk, hF⟩ := hr
        exact ⟨hF.defers, v, q1, v, rfl, ⟨fq, q2⟩, hbel⟩
      cases e with
      | exit id => cases hk
      | normal => exact fin hk
      | ret => exact fin hk

theorem trodAll_stays (hl : laidOutB P = true) {W W' : World} (hb : Below W.heap.size W W') : ∀ {ts : List TypeId} {vs : List Value} {ds : List (DataW H)} {ps : List MemPlace}, (∀ t, t ∈ ts → P.readableRec t = true ∧ t < P.types.size) →
    DataW.TrodAll enc P W 0 (fun _ => true) true ts vs ds ps → (∀ x, x ∈ ps → x.block < W.heap.size) → DataW.TrodAll enc P W' 0 (fun b => decide (b < W.heap.size)) true ts vs ds ps
  | [], [], [], ps, _, h, _ => h
  | t :: ts, v :: vs, d :: ds, ps, ht, h, hlt => by
    obtain ⟨p, q, h1, h2, rfl⟩ := h
    obtain ⟨hr, hrow⟩ := ht t (by simp)
    exact ⟨p, q, Below.trod hl hr hrow h1 hb (fun x hx => hlt x (by simp [hx])), trodAll_stays hl hb (fun t h => ht t (by simp [h])) h2 (fun x hx => hlt x (by simp [hx])), rfl⟩
  | [], [], _ :: _, _, _, h, _ => by cases h
  | [], _ :: _, _, _, _, h, _ => by cases h
  | _ :: _, [], _, _, _, h, _ => by cases h
  | _ :: _, _ :: _, [], _, _, h, _ => by cases h

theorem trodAll_len {W : World} {base : Nat} {sp : Nat → Bool} {held : Bool} : ∀ {ts : List TypeId} {vs : List Value} {ds : List (DataW H)} {ps : List MemPlace}, DataW.TrodAll enc P W base sp held ts vs ds ps → ds.length = ts.length
  | [], [], [], _, _ => rfl
  | t :: ts, v :: vs, d :: ds, ps, h => by
    obtain ⟨p, q, _, h2, _⟩ := h
    simp [trodAll_len h2]
  | [], [], _ :: _, _, h => by cases h
  | [], _ :: _, _, _, h => by cases h
  | _ :: _, [], _, _, h => by cases h
  | _ :: _, _ :: _, [], _, h => by cases h

/-- A law's contract: it answers true, and what it was handed reads as it did. -/
theorem law_contract {live : FuncId → Nat → Live × Live} {over : FuncId → List Arg → Option (Option Res)} (hm : P.follows .mixedOrders = true) (hT : TabOk P T) (hN : NamesOk P) (hOv : OverOk P T over) (hO : openAll T O = true) (hl : laidOutB P = true)
    {f : FuncId} {fn : Func} {s : ChangeSpec} {tb : TypeId} (hvars : s.vars = []) (hspec : ∀ (H : Type) (ds : List (DataW H)), ds.length = fn.params.toList.length → s.fn H ds = { results := [.lit (.bool true)], args := ds })
    (hres : fn.resultTypes = #[tb]) (hb : P.underlying tb = some .bool) (hts : ∀ t, t ∈ fn.params.toList → t ∈ O ∧ P.readableRec t = true ∧ t < P.types.size) (hno : ∀ as, over f as = .none)
    (hpure : ∀ as, ArgsTyped T fn.params.toList as → ∃ k, denote T (fun f => P.funcs[f]?) live over k f as = yes)
    (W : World) (base : Nat) (args : Array Value) (ds gs : List (DataW H)) (before : List MemPlace)
    (hval : ∀ (j : Nat) (t : TypeId) (v : Value), fn.params[j]? = some t → args[j]? = some v → Value.okWide P W .any base t v)
    (hW : DataW.Whole enc P fn.params.toList s.vars false W args.toList ds gs before)
    (hsz : (DataW.weightsEach P (fn.params.toList ++ s.plain.varTypes P) (ds ++ gs)).all (· ≤ reachBytes) = true) :
    Calls P f args W fun e W' => ∃ v, e = .returned v ∧ s.post enc P fn false true false false W args v W' := by
  have hW' := hW
  obtain ⟨p, q, hA, hV, rfl, hfz, hnd⟩ := hW
  rw [hvars] at hV
  have hgs : gs = [] := by cases gs with | nil => rfl | cons => cases hV
  subst hgs
  have hvt : s.plain.varTypes P = [] := by simp [ChangeSpec.plain, DataSpec.varTypes, hvars]
  rw [hvt, List.append_nil, List.append_nil] at hsz
  obtain ⟨as, h1, h2⟩ := args_open hT hO hA (fun t ht => (hts t ht).1) (fun j t v ht hv => hval j t v (by rw [← Array.getElem?_toList]; exact ht) (by rw [← Array.getElem?_toList]; exact hv)) hsz
  obtain ⟨k, hk⟩ := hpure as h2
  have hcall := denote_calls hm hT hN hOv hk (hno as) (S := There W) (fun _ h => h) h1
  rw [Array.toArray_toList] at hcall
  refine hcall.mono fun e W' he => ?_
  obtain ⟨v, rfl, ⟨fq, hr, _⟩, bel⟩ := he
  refine ⟨v, rfl, ?_⟩
  obtain ⟨us, rfl, hc, _⟩ := hr
  have hv : mkv false us = .bool true := by
    cases hc with
    | cons h3 h4 =>
      cases h4
      have h3 := h3.1
      cases h3
      rfl
  rw [hv]
  have hlt : ∀ x, x ∈ p → x.block < W.heap.size := fun x hx => hW'.lt x (by simp [hx])
  have hsp := hspec H (ds ++ []) (by rw [List.append_nil]; exact trodAll_len hA)
  refine ⟨ds, [], _, [], p, [], hW', ?_, ?_, ?_, bel.frame _, fun h => by cases h⟩
  · rw [hsp, hres]
    exact trodAll_mk1 (shut_bool hb _)
  · rw [hsp]
    rw [List.append_nil]
    exact trodAll_stays hl bel (fun t ht => (hts t ht).2) hA hlt
  · rw [hsp, hvars]
    rfl
end

end Go.Proofs.Ytnlpkmkkidpfhaa.V
