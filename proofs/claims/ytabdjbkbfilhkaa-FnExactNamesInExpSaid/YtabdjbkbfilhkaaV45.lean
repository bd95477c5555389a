import Derived.Test.YtabdjbkbfilhkaaV44
import Derived.Shelf.SortG.Plain
import Derived.Shelf.SortG.SortNone
import Derived.Shelf.SlicesG.CompactS
namespace Go.Proofs.Ytabdjbkbfilhkaa.V
open Go Go.RowKit Go.Shelf Go.Sort Go.Proofs

def WriRes (T : Tab) (w : World) (us0 : List Value) (fp0 : List Nat) (ds : List Cell) (r : Res) (v : Value) (w' : World) : Prop :=
  ∃ (S1 : Nat → Prop) (fp' fq : List Nat), CellsRel T w' S1 ds us0 fp' ∧ ResRel T w' S1 r v fq ∧ (fp' ++ fq).Nodup ∧ (∀ b, b ∈ fp' ++ fq → (b ∈ fp0 ∨ w.heap.size ≤ b) ∧ b < w'.heap.size) ∧ Chg w w' fp0

theorem DOk.alsoWC {P : Program} {T : Tab} {D : Dt} (hN : NamesOk P) (hD : DOk P T D) {f : FuncId} {fn : Func} {c : Code} (hf : P.funcs[f]? = some fn) (hb : fn.body = some c) {S : List Arg → Option (Bool × Res)}
    (he : ∀ xs r0, S xs = some (true, r0) → ∀ a0 ys gg ds r, xs = a0 :: ys → r0 = (gg, ds) :: r → ∀ (w : World) (S' : Nat → Prop) (us0 : List Value) (fp0 : List Nat) (vals : List Value), FitW T w S' fp0 → CellsRel T w S' (ownCells a0.2) us0 fp0 → fp0.Nodup → ArgsRel T w S' ys vals →
      Calls P f (mkv a0.1 us0 :: vals).toArray w fun e w' => ∃ v, e = .returned v ∧ WriRes T w us0 fp0 ds r v w') : DOk P T (V.alsoW D f S) := by
  refine ⟨fun g xs r hr => ?_, fun g a0 ys gg ds r hr => ?_, hD.meth⟩
  · unfold V.alsoW at hr
    cases hg : (Nat.beq g f && isMark xs) with
    | false => rw [hg] at hr; exact hD.plain g xs r hr
    | true =>
      rw [Bool.and_eq_true] at hg
      exact fun w S' vals hS hargs => (hargs.notMark hg.2).elim
  · unfold V.alsoW at hr
    cases hg : (Nat.beq g f && isMark (mark :: a0 :: ys)) with
    | false => rw [hg] at hr; exact hD.wri g a0 ys gg ds r hr
    | true =>
      rw [hg] at hr
      have hr : (match S (a0 :: ys) with | some p => some p | .none => D g (mark :: a0 :: ys)) = some (true, (gg, ds) :: r) := hr
      cases hS : S (a0 :: ys) with
      | none => rw [hS] at hr; exact hD.wri g a0 ys gg ds r hr
      | some p =>
        rw [hS] at hr
        have hgf := Nat.eq_of_beq_eq_true (Bool.and_eq_true_iff.1 hg).1
        subst hgf
        intro w S' us0 fp0 vals hF h0 h01 hn hd hargs
        refine answers_of_calls hN hf hb ?_
        exact he _ _ (hS.trans hr) a0 ys gg ds r rfl rfl w S' us0 fp0 vals hF h0 hn hargs

theorem DOk.also0W {P : Program} {T : Tab} {D : Dt} (hD : DOk P T D) {f : FuncId} {S : List Arg → Option (Bool × Res)} (hS : ∀ xs r, S xs ≠ some (true, r)) : DOk P T (V.alsoW D f S) := by
  refine ⟨fun g xs r hr => ?_, fun g a0 ys gg ds r hr => hD.wri g a0 ys gg ds r ?_, hD.meth⟩
  · unfold V.alsoW at hr
    cases hg : (Nat.beq g f && isMark xs) with
    | false => rw [hg] at hr; exact hD.plain g xs r hr
    | true =>
      rw [Bool.and_eq_true] at hg
      exact fun w S' vals hS hargs => (hargs.notMark hg.2).elim
  · unfold V.alsoW at hr
    cases hg : (Nat.beq g f && isMark (mark :: a0 :: ys)) with
    | false => rw [hg] at hr; exact hr
    | true =>
      rw [hg] at hr
      have hr : (match S (a0 :: ys) with | some p => some p | .none => D g (mark :: a0 :: ys)) = some (true, (gg, ds) :: r) := hr
      cases hs : S (a0 :: ys) with
      | none => rw [hs] at hr; exact hr
      | some p => rw [hs] at hr; exact absurd (hs.trans hr) (hS _ _)

theorem own_plain {T : Tab} {w : World} {ct : CT} {u : Value} {c : TC} {fq : List Nat} (hm : ct.mem = false) (h : OwnC T w ct u c fq) : fq = [] ∧ RepC T w (fun _ => False) ct u c := by
  cases h with
  | flat _ _ _ _ h => exact ⟨rfl, h⟩
  | nils => simp [CT.mem] at hm
  | nil => simp [CT.mem] at hm
  | slice => simp [CT.mem] at hm

structure Enc (T : Tab) (e : TypeId) {α : Type} (enc : α → Value) (tc : α → TC) (un : TC → α) : Prop where
  cell : ∃ ct, (T e).cts = [ct] ∧ ct.mem = false ∧ (∀ (w : World) u c, RepC T w (fun _ => False) ct u c → u = enc (un c) ∧ c = tc (un c)) ∧ ∀ (w : World) x, RepC T w (fun _ => False) ct (enc x) (tc x)
theorem enc_str {T : Tab} {e : TypeId} (h : (T e).cts = [.str]) : Enc T e encStr TC.s TC.str := by
  refine ⟨.str, h, rfl, fun w u c h => ?_, fun w x => .str x⟩
  cases h with
  | str l => exact ⟨rfl, rfl⟩
section
variable {α : Type} [Inhabited α] {P : Program} {T : Tab} {w w' : World} {S : Nat → Prop} {enc : α → Value} {tc : α → TC} {un : TC → α} {e : TypeId}
def elems (un : TC → α) (A : List (List TC)) : List α := A.map fun x => un (nth x 0)
def rowsOf (tc : α → TC) (zs : List α) : List (List TC) := zs.map fun x => [tc x]

omit [Inhabited α] in
theorem own_row (hE : Enc T e enc tc un) {u : Value} {A : List (List TC)} {fq : List Nat} (h : OwnC T w (.slice e) u (.l A) fq) :
    (A = [] ∧ ∃ p cap, u = .slice p 0 cap) ∨
    ∃ g cap cur, A ≠ [] ∧ u = .slice (some ⟨g, 0, none⟩) A.length cap ∧ fq = [g] ∧ Blk w g cur e ∧ cur.length = cap ∧ A.length ≤ cap ∧ cap ≤ maxLen ∧ (∀ v, v ∈ cur → v.oneCell' = true) ∧ ∀ j, j < A.length → cur[j]? = some (enc (un (nth (A.getD j []) 0))) := by
  obtain ⟨ct, hct, hm, hun, -⟩ := hE.cell
  cases h with
  | flat _ _ _ hm => simp [CT.mem] at hm
  | nil => exact .inl ⟨rfl, _, _, rfl⟩
  | slice _ g _ cap cur fps h1 h2 h3 h4 h5 h6 h7 =>
    have h8 : (T e).cts.length = 1 := by rw [hct]; rfl
    rw [h8, Nat.mul_one] at h5
    have h7' : ∀ k, k < A.length → fps k = [] ∧ RepC T w (fun _ => False) ct (cur.getD k undef) (nth (A.getD k []) 0) := by
      intro k hk
      have := h7 k (by rw [h8, Nat.mul_one]; exact hk)
      rw [h8, Nat.mod_one, Nat.div_one, hct] at this
      exact own_plain (ct := ct) hm this
    by_cases hA : A = []
    · subst hA; exact .inl ⟨rfl, _, _, rfl⟩
    · refine .inr ⟨g, cap, cur, hA, rfl, ?_, h4, h5, h1, h2, h6, fun j hj => ?_⟩
      · rw [h8, Nat.mul_one]
        congr 1
        rw [List.flatMap_eq_nil_iff]
        intro k hk
        exact (h7' k (List.mem_range.1 hk)).1
      · have h9 := (hun w _ _ (h7' j hj).2).1
        rw [← h9, List.getD_eq_getElem?_getD, List.getElem?_eq_getElem (by omega)]
        rfl
theorem own_put (hE : Enc T e enc tc un) {g cap k : Nat} {cur : List Value} {D : List α} (hb : Blk w g cur e) (hc : cur.length = cap) (hcap : cap ≤ maxLen) (ho : ∀ v, v ∈ cur → v.oneCell' = true) (hD : D.length ≤ cap) (hk : k ≤ D.length)
    (hh : ∀ fr, w.heap[g]? = some (.cells cur.toArray e fr) → w'.heap[g]? = some (.cells (putCells enc 0 D.toArray cur.toArray) e fr)) :
    OwnC T w' (.slice e) (.slice (some ⟨g, 0, none⟩) k cap) (.l (rowsOf tc (D.take k))) [g] := by
  obtain ⟨ct, hct, hm, -, hrep⟩ := hE.cell
  have h8 : (T e).cts.length = 1 := by rw [hct]; rfl
  have hxl : (rowsOf tc (D.take k)).length = k := by unfold rowsOf; rw [List.length_map, List.length_take]; omega
  have hcl : (putCells enc 0 D.toArray cur.toArray).toList.length = cap := by simp [putCells, hc]
  have hat : ∀ j, j < D.length → (putCells enc 0 D.toArray cur.toArray).toList[j]? = some (enc (D[j]!)) := by
    intro j hj
    rw [Array.getElem?_toList]
    simp [putCells, hj, show j < cur.length by omega]
  obtain ⟨fr, hw, hf⟩ := hb
  have hb' : Blk w' g (putCells enc 0 D.toArray cur.toArray).toList e := ⟨fr, by rw [hh fr hw], by rw [hcl, ← hc]; exact hf⟩
  have hone : ∀ x, (enc x).oneCell' = true := fun x => (hrep w x).one
  have h0 := OwnC.slice (T := T) (w := w') e g (rowsOf tc (D.take k)) cap (putCells enc 0 D.toArray cur.toArray).toList (fun _ => []) (by rw [hxl]; omega) hcap (fun x hx => by
      unfold rowsOf at hx
      obtain ⟨j, -, rfl⟩ := List.mem_map.1 hx
      rw [h8]; rfl) hb' (by rw [h8, Nat.mul_one]; exact hcl) (fun v hv => by
      obtain ⟨j, hj, rfl⟩ := List.getElem_of_mem hv
      by_cases hjd : j < D.length
      · have := hat j hjd
        rw [List.getElem?_eq_getElem hj] at this
        rw [Option.some.inj this]; exact hone _
      · have : (putCells enc 0 D.toArray cur.toArray).toList[j]? = cur[j]? := by
          rw [Array.getElem?_toList]
          simp [putCells, hjd]
        rw [List.getElem?_eq_getElem hj, List.getElem?_eq_getElem (by omega)] at this
        rw [Option.some.inj this]; exact ho _ (List.getElem_mem _)) (fun j hj => by
      rw [hxl, h8, Nat.mul_one] at hj
      rw [h8, Nat.mod_one, Nat.div_one, hct]
      show OwnC T w' ct _ _ []
      rw [List.getD_eq_getElem?_getD, hat j (by omega)]
      have e2 : nth ((rowsOf tc (D.take k)).getD j []) 0 = tc (D[j]!) := by
        unfold rowsOf
        rw [List.getD_eq_getElem?_getD, List.getElem?_map, List.getElem?_take_of_lt hj, List.getElem?_eq_getElem (by omega)]
        simp [nth, getElem!_pos D j (by omega)]
      rw [e2]
      exact OwnC.flat ct _ _ hm (hrep w' _))
  rw [hxl] at h0
  have e0 : (g :: (List.range (k * (T e).cts.length)).flatMap fun _ => ([] : List Nat)) = [g] := by simp
  rw [e0] at h0
  exact h0

theorem chg_put {g n : Nat} {D : Array α} {os : Array Obj} : Chg w (grow (putRow enc (Sort.ahead w n) g 0 D) os) [g] := by
  refine ⟨rfl, rfl, rfl, by simp [grow, putRow, mapBlock, Sort.ahead], fun k hk hne => ?_⟩
  rw [heap_grow_old _ _ (by simpa [putRow, mapBlock, Sort.ahead] using hk)]
  have : g ≠ k := fun e => hne (by rw [e]; exact List.mem_singleton_self _)
  simp [putRow, mapBlock, Sort.ahead, Array.getElem?_modify, this]
theorem heap_put {g n : Nat} {D : Array α} {os : Array Obj} {cur : Array Value} {fr : Nat × Nat} (hb : w.heap[g]? = some (.cells cur e fr)) :
    (grow (putRow enc (Sort.ahead w n) g 0 D) os).heap[g]? = some (.cells (putCells enc 0 D cur) e fr) := by
  have hg : g < w.heap.size := (Array.getElem?_eq_some_iff.1 hb).1
  rw [heap_grow_old _ _ (by simpa [putRow, mapBlock, Sort.ahead] using hg)]
  simp [putRow, mapBlock, Sort.ahead, Array.getElem?_modify, hb, onCells]

theorem holds_of {g cap : Nat} {cur : List Value} {A : List (List TC)} (hb : Blk w g cur e) (hc : cur.length = cap) (hl : A.length ≤ cap) (hj : ∀ j, j < A.length → cur[j]? = some (enc (un (nth (A.getD j []) 0)))) :
    Holds enc w g 0 (elems un A).toArray := by
  intro j hlt
  have hlt' : j < A.length := by simpa [elems] using hlt
  refine ⟨?_, ?_⟩
  · rw [Nat.zero_add, hb.cell, hj j hlt']
    simp [elems, hlt']
  · rw [Nat.zero_add]; exact hb.frozen j (by omega)

theorem cells_one {c : CT} {x : TC} {us : List Value} {fp : List Nat} (h : CellsRel T w S (ownCells [(c, x)]) us fp) (hm : c.mem = true) : ∃ u, us = [u] ∧ OwnC T w c u x fp := by
  have h : CellsRel T w S [⟨c, bif c.mem then .own true else .sh, x⟩] us fp := h
  rw [hm] at h
  cases h with
  | cons h1 h2 =>
    cases h2
    refine ⟨_, rfl, ?_⟩
    rw [List.append_nil]
    exact h1

theorem sort_own (hE : Enc T e enc tc un) {f : FuncId} {le : α → α → Bool}
    (k0 : ∀ (p : Option Addr) (cap : Nat) (w : World), Calls P f #[.slice p 0 cap] w fun e w' => e = .returned (.tuple #[]) ∧ w' = w)
    (k1 : ∀ (blk off cap : Nat) (zs : List α) (w : World), Holds enc w blk off zs.toArray → blk < w.heap.size → zs.length < 4611686018427387904 → Calls P f #[.slice (some ⟨blk, off, none⟩) zs.length cap] w fun e w' =>
      e = .returned (.tuple #[]) ∧ ∃ n os, w' = grow (putRow enc (Sort.ahead w n) blk off (zs.mergeSort le).toArray) os)
    {A : List (List TC)} {us : List Value} {fp : List Nat} (hn : fp.Nodup) (h : CellsRel T w S (ownCells [(.slice e, .l A)]) us fp) (hl : A.length ≤ 140737488355328) :
    Calls P f (mkv false us :: []).toArray w fun x w' => ∃ v, x = .returned v ∧ WriRes T w us fp [⟨.slice e, .own true, .l (rowsOf tc ((elems un A).mergeSort le))⟩] [] v w' := by
  obtain ⟨u, rfl, hw⟩ := cells_one h rfl
  rcases own_row hE hw with ⟨rfl, p, cap, rfl⟩ | ⟨g, cap, cur, hA, rfl, rfl, hb, hc, hle, hcap, ho, hj⟩
  · refine (k0 p cap w).mono ?_
    rintro x w' ⟨rfl, rfl⟩
    refine ⟨_, rfl, fun _ => True, fp, [], ?_, ⟨⟨[], rfl, .nil⟩, fun x hx => by cases hx⟩, by rw [List.append_nil]; exact hn, fun b hb => ?_, Chg.refl _ _⟩
    · have : rowsOf tc ((elems un ([] : List (List TC))).mergeSort le) = [] := by simp [elems, rowsOf]
      rw [this]
      have := CellsRel.cons (T := T) (w := w') (S := fun _ => True) (c := ⟨.slice e, .own true, .l []⟩) (fp := fp) (fp' := []) hw .nil
      rw [List.append_nil] at this
      exact this
    · rw [List.append_nil] at hb; exact ⟨.inl hb, hw.lt b hb⟩
  · have hsz : (elems un A).length = A.length := by simp [elems]
    have hk := k1 g 0 cap (elems un A) w (holds_of hb hc hle hj) hb.lt (by rw [hsz]; omega)
    rw [hsz] at hk
    refine hk.mono ?_
    rintro x w' ⟨rfl, n, os, rfl⟩
    have hlen : ((elems un A).mergeSort le).length = A.length := by rw [List.length_mergeSort, hsz]
    have hput := own_put (w' := grow (putRow enc (Sort.ahead w n) g 0 ((elems un A).mergeSort le).toArray) os) hE (k := A.length) (D := (elems un A).mergeSort le) hb hc hcap ho (by omega) (by omega) (fun fr hh => heap_put hh)
    rw [List.take_of_length_le (by omega)] at hput
    refine ⟨_, rfl, fun _ => True, [g], [], ?_, ⟨⟨[], rfl, .nil⟩, fun x hx => by cases hx⟩, by rw [List.append_nil]; exact hn, fun b hb' => ?_, chg_put⟩
    · have := CellsRel.cons (T := T) (S := fun _ => True) (c := ⟨.slice e, .own true, .l (rowsOf tc ((elems un A).mergeSort le))⟩) (fp := [g]) (fp' := []) hput .nil
      rw [List.append_nil] at this
      exact this
    · rw [List.append_nil] at hb'
      have hc1 := (chg_put (w := w) (g := g) (enc := enc) (n := n) (D := ((elems un A).mergeSort le).toArray) (os := os)).size
      rw [List.mem_singleton.1 hb'] at *
      exact ⟨.inl (List.mem_singleton_self _), Nat.lt_of_lt_of_le hb.lt hc1⟩
theorem compact_own (hE : Enc T e enc tc un) {f : FuncId} {cp : List α → List α} {z : α} (hcp : ∀ zs, (cp zs).length ≤ zs.length)
    (k0 : ∀ (p : Option Addr) (cap : Nat) (w : World), Calls P f #[.slice p 0 cap] w fun e w' => e = .returned (.slice p 0 cap) ∧ w' = w)
    (k1 : ∀ (blk off cap : Nat) (zs : List α) (w : World), Holds enc w blk off zs.toArray → zs.length ≤ 9223372036854775807 → zs.length ≤ cap → Calls P f #[.slice (some ⟨blk, off, none⟩) zs.length cap] w fun e w' =>
      e = .returned (.slice (some ⟨blk, off, none⟩) (cp zs).length cap) ∧ ∃ q, w' = putRow enc (Sort.ahead w q) blk off (cp zs ++ List.replicate (zs.length - (cp zs).length) z).toArray)
    {A : List (List TC)} {us : List Value} {fp : List Nat} (hn : fp.Nodup) (h : CellsRel T w S (ownCells [(.slice e, .l A)]) us fp) (hl : A.length ≤ 140737488355328) :
    Calls P f (mkv false us :: []).toArray w fun x w' => ∃ v, x = .returned v ∧ WriRes T w us fp [⟨.slice e, .gone, .l A⟩] [(false, [⟨.slice e, .own true, .l (rowsOf tc (cp (elems un A)))⟩])] v w' := by
  obtain ⟨u, rfl, hw⟩ := cells_one h rfl
  rcases own_row hE hw with ⟨rfl, p, cap, rfl⟩ | ⟨g, cap, cur, hA, rfl, rfl, hb, hc, hle, hcap, ho, hj⟩
  · refine (k0 p cap w).mono ?_
    rintro x w' ⟨rfl, rfl⟩
    have h0 : rowsOf tc (cp (elems un ([] : List (List TC)))) = [] := by
      have := hcp []
      have : cp [] = [] := List.eq_nil_of_length_eq_zero (by simpa using this)
      simp [elems, rowsOf, this]
    rw [h0]
    refine ⟨_, rfl, fun _ => True, [], fp, ?_, ⟨⟨[_], rfl, ?_, fun _ => rfl⟩, fun x hx => by rw [List.mem_singleton.1 hx]; rfl⟩, by simpa using hn, fun b hb => ?_, Chg.refl _ _⟩
    · exact CellsRel.cons (T := T) (w := w') (S := fun _ => True) (c := ⟨.slice e, .gone, .l []⟩) (fp := []) (fp' := []) ⟨rfl, rfl⟩ .nil
    · have := CellsRel.cons (T := T) (w := w') (S := fun _ => True) (c := ⟨.slice e, .own true, .l []⟩) (fp := fp) (fp' := []) hw .nil
      rw [List.append_nil] at this
      exact this
    · rw [List.nil_append] at hb; exact ⟨.inl hb, hw.lt b hb⟩
  · have hsz : (elems un A).length = A.length := by simp [elems]
    have hcl := hcp (elems un A)
    have hk := k1 g 0 cap (elems un A) w (holds_of hb hc hle hj) (by rw [hsz]; omega) (by rw [hsz]; omega)
    rw [hsz] at hk hcl
    refine hk.mono ?_
    rintro x w' ⟨rfl, q, rfl⟩
    have hdl : (cp (elems un A) ++ List.replicate (A.length - (cp (elems un A)).length) z).length = A.length := by rw [List.length_append, List.length_replicate]; omega
    have hput := own_put (w' := grow (putRow enc (Sort.ahead w q) g 0 (cp (elems un A) ++ List.replicate (A.length - (cp (elems un A)).length) z).toArray) #[]) hE (k := (cp (elems un A)).length) (D := cp (elems un A) ++ List.replicate (A.length - (cp (elems un A)).length) z) hb hc hcap ho (by omega) (by omega) (fun fr hh => heap_put hh)
    have hchg := chg_put (w := w) (g := g) (enc := enc) (n := q) (D := (cp (elems un A) ++ List.replicate (A.length - (cp (elems un A)).length) z).toArray) (os := #[])
    rw [grow_empty] at hput hchg
    rw [List.take_append_of_le_length (Nat.le_refl _), List.take_length] at hput
    refine ⟨_, rfl, fun _ => True, [], [g], ?_, ⟨⟨[_], rfl, ?_, fun _ => rfl⟩, fun x hx => by rw [List.mem_singleton.1 hx]; rfl⟩, by simp, fun b hb' => ?_, hchg⟩
    · exact CellsRel.cons (T := T) (S := fun _ => True) (c := ⟨.slice e, .gone, .l A⟩) (fp := []) (fp' := []) ⟨rfl, rfl⟩ .nil
    · have := CellsRel.cons (T := T) (S := fun _ => True) (c := ⟨.slice e, .own true, .l (rowsOf tc (cp (elems un A)))⟩) (fp := [g]) (fp' := []) hput .nil
      rw [List.append_nil] at this
      exact this
    · rw [List.nil_append] at hb'
      have := hchg.size
      rw [List.mem_singleton.1 hb'] at *
      exact ⟨.inl (List.mem_singleton_self _), Nat.lt_of_lt_of_le hb.lt this⟩
end
end Go.Proofs.Ytabdjbkbfilhkaa.V
