import Derived.Test.YtabdjbkbfilhkaaV1
import Derived.Below
import Derived.Laws.AppendOwn
import Derived.Laws.CopyRow
import Derived.Laws.Cells
import Derived.OwnWalk
namespace Go.Proofs.Ytabdjbkbfilhkaa.V
open Go Go.RowKit

def mkv (g : Bool) (us : List Value) : Value := if g then .agg us.toArray else us.headD undef
def Blk (w : World) (g : Nat) (cur : List Value) (e : TypeId) : Prop :=
  ∃ fr : Nat × Nat, w.heap[g]? = some (.cells cur.toArray e fr) ∧ (fr.1 = fr.2 ∨ cur.length ≤ fr.1)

theorem Blk.lt {w : World} {g : Nat} {cur : List Value} {e : TypeId} (h : Blk w g cur e) : g < w.heap.size := by
  obtain ⟨fr, h, _⟩ := h
  exact (Array.getElem?_eq_some_iff.1 h).1

theorem Blk.cell {w : World} {g : Nat} {cur : List Value} {e : TypeId} (h : Blk w g cur e) (j : Nat) : w.cell? ⟨g, j, none⟩ = cur[j]? := by
  obtain ⟨fr, h, _⟩ := h
  simp [World.cell?, h]

theorem Blk.frozen {w : World} {g : Nat} {cur : List Value} {e : TypeId} (h : Blk w g cur e) (j : Nat) (hj : j < cur.length) : w.frozen? ⟨g, j, none⟩ = false := by
  obtain ⟨fr, h, hf⟩ := h
  simp [World.frozen?, h]
  omega

theorem Blk.of_same {w w' : World} {g : Nat} {cur : List Value} {e : TypeId} (h : Blk w g cur e) (hs : w'.heap[g]? = w.heap[g]?) : Blk w' g cur e := by
  obtain ⟨fr, h, hf⟩ := h
  exact ⟨fr, hs.trans h, hf⟩

theorem Blk.inj {w : World} {g : Nat} {cur cur' : List Value} {e e' : TypeId} (h : Blk w g cur e) (h' : Blk w g cur' e') : cur = cur' := by
  obtain ⟨fr, h, _⟩ := h
  obtain ⟨fr', h', _⟩ := h'
  rw [h] at h'
  simp at h'
  exact h'.1

theorem add_zero_block (g j : Nat) : (⟨g, 0, none⟩ : Addr).add j = ⟨g, j, none⟩ := by unfold Addr.add; split <;> simp_all
theorem add_at (g o j : Nat) : (⟨g, o, none⟩ : Addr).add j = ⟨g, o + j, none⟩ := by unfold Addr.add; split <;> simp_all
theorem add_add (a : Addr) (i j : Nat) : (a.add i).add j = a.add (i + j) := by
  unfold Addr.add
  by_cases hi : i = 0 <;> by_cases hj : j = 0 <;> simp_all <;> omega
theorem add_block (a : Addr) (i : Nat) : (a.add i).block = a.block := by unfold Addr.add; split <;> rfl

theorem splice_length {α : Type} (l : List α) (o : Nat) (ys : List α) (h : o + ys.length ≤ l.length) : (splice l o ys).length = l.length := by
  simp [splice]; omega

structure Chg (w w' : World) (gs : List Nat) : Prop where
  os : w'.os = w.os
  tape : w'.tape = w.tape
  output : w'.output = w.output
  size : w.heap.size ≤ w'.heap.size
  block : ∀ k, k < w.heap.size → k ∉ gs → w'.heap[k]? = w.heap[k]?

theorem Chg.refl (w : World) (gs : List Nat) : Chg w w gs := ⟨rfl, rfl, rfl, Nat.le_refl _, fun _ _ _ => rfl⟩
theorem Chg.trans {a b c : World} {gs : List Nat} (h : Chg a b gs) (k : Chg b c gs) : Chg a c gs :=
  ⟨k.os.trans h.os, k.tape.trans h.tape, k.output.trans h.output, Nat.le_trans h.size k.size,
    fun i hi hn => (k.block i (Nat.lt_of_lt_of_le hi h.size) hn).trans (h.block i hi hn)⟩
theorem Chg.mono {a b : World} {gs gs' : List Nat} (h : Chg a b gs) (hs : ∀ g, g ∈ gs → g ∈ gs') : Chg a b gs' :=
  ⟨h.os, h.tape, h.output, h.size, fun i hi hn => h.block i hi fun hg => hn (hs i hg)⟩
structure Bs where
  own : Nat → Prop
  pv : List Value
def Bs.above (n : Nat) (pv : List Value) : Bs := ⟨fun b => n ≤ b, pv⟩
def Bs.these (fp : List Nat) (n : Nat) (pv : List Value) : Bs := ⟨fun b => b ∈ fp ∨ n ≤ b, pv⟩
structure Bel (B : Bs) (w w' : World) : Prop where
  os : w'.os = w.os
  tape : w'.tape = w.tape
  output : w'.output = w.output
  size : w.heap.size ≤ w'.heap.size
  block : ∀ k, k < w.heap.size → ¬ B.own k → w'.heap[k]? = w.heap[k]?
theorem Bel.refl (B : Bs) (w : World) : Bel B w w := ⟨rfl, rfl, rfl, Nat.le_refl _, fun _ _ _ => rfl⟩
theorem Bel.trans {B : Bs} {a b c : World} (h : Bel B a b) (k : Bel B b c) : Bel B a c :=
  ⟨k.os.trans h.os, k.tape.trans h.tape, k.output.trans h.output, Nat.le_trans h.size k.size,
    fun i hi hn => (k.block i (Nat.lt_of_lt_of_le hi h.size) hn).trans (h.block i hi hn)⟩
theorem Bel.below {w w' : World} {pv : List Value} (h : Bel (Bs.above w.heap.size pv) w w') : Below w.heap.size w w' :=
  ⟨h.os, h.tape, h.output, h.size, fun k hk => h.block k hk (Nat.not_le.2 hk)⟩
theorem Bel.chg {w w' : World} {pv : List Value} {fp : List Nat} (h : Bel (Bs.these fp w.heap.size pv) w w') : Chg w w' fp :=
  ⟨h.os, h.tape, h.output, h.size, fun k hk hn => h.block k hk fun ho => ho.elim hn fun hge => absurd hk (Nat.not_lt.2 hge)⟩
theorem Chg.bel {a b : World} {gs : List Nat} {B : Bs} (h : Chg a b gs) (hg : ∀ g, g ∈ gs → B.own g) : Bel B a b :=
  ⟨h.os, h.tape, h.output, h.size, fun k hk hn => h.block k hk fun hm => hn (hg k hm)⟩
theorem Chg.of_below {a b : World} (h : Below a.heap.size a b) : Chg a b [] :=
  ⟨h.os, h.tape, h.output, h.size, fun k hk _ => h.block k hk⟩
theorem Chg.alloc (w : World) (o : Obj) (gs : List Nat) : Chg w (w.alloc o) gs :=
  ⟨rfl, rfl, rfl, by simp, fun k hk _ => Below.heap_alloc w o k hk⟩
theorem Chg.drew (w : World) (gs : List Nat) : Chg w { w with drawn := w.drawn + 1 } gs := ⟨rfl, rfl, rfl, Nat.le_refl _, fun _ _ _ => rfl⟩
theorem Chg.cell {w w' : World} {gs : List Nat} (h : Chg w w' gs) {a : Addr} {v : Value} (hc : w.cell? a = some v) (hn : a.block ∉ gs) : w'.cell? a = some v :=
  (World.cell?_of_block (h.block a.block (World.block_lt_of_cell? w a hc) hn)).trans hc
theorem Chg.blk {w w' : World} {gs : List Nat} (h : Chg w w' gs) {g : Nat} {cur : List Value} {e : TypeId} (hb : Blk w g cur e) (hn : g ∉ gs) : Blk w' g cur e :=
  hb.of_same (h.block g hb.lt hn)

theorem run_storeCells_blk (P : Program) (g : Nat) (e : TypeId) : ∀ (vs : List Value) (o i : Nat) (cur : List Value) (w : World), Blk w g cur e → o + i + vs.length ≤ cur.length → (∀ v ∈ vs, v.oneCell' = true) →
    ∃ w', (storeCells ⟨g, o, none⟩ vs i).run P w = .ok () w' ∧ Blk w' g (splice cur (o + i) vs) e ∧ Chg w w' [g] ∧ w'.heap.size = w.heap.size
  | [], o, i, cur, w, hb, _, _ => ⟨w, rfl, by simpa [splice] using hb, Chg.refl _ _, rfl⟩
  | v :: rest, o, i, cur, w, hb, hl, h1 => by
    simp only [List.length_cons] at hl
    have hcell : (w.cell? ⟨g, o + i, none⟩).isSome = true := by rw [hb.cell]; simp; omega
    obtain ⟨u, hu⟩ := Option.isSome_iff_exists.1 hcell
    have hfz := hb.frozen (o + i) (by omega)
    have hst : (Go.store ((⟨g, o, none⟩ : Addr).add i) v).run P w = .ok () (w.setCell ⟨g, o + i, none⟩ v) := by
      rw [add_at, run_store P w _ v _ (h1 v (by simp)), hu]
      simp [hfz]
    have hb1 : Blk (w.setCell ⟨g, o + i, none⟩ v) g (cur.set (o + i) v) e := by
      obtain ⟨fr, hh, hf⟩ := hb
      refine ⟨fr, ?_, by simpa using hf⟩
      simp [World.setCell, Array.getElem?_modify, hh]
    have hc1 : Chg w (w.setCell ⟨g, o + i, none⟩ v) [g] :=
      ⟨rfl, rfl, rfl, by simp [World.setCell], fun k hk hn => Below.heap_setCell _ _ _ _ (by simpa using hn)⟩
    obtain ⟨w', hr, hb2, hc2, hs2⟩ := run_storeCells_blk P g e rest o (i + 1) (cur.set (o + i) v) _ hb1 (by simp; omega) (fun x hx => h1 x (by simp [hx]))
    refine ⟨w', ?_, ?_, hc1.trans hc2, hs2.trans (by simp [World.setCell])⟩
    · simp only [storeCells, Sem.run_bind, hst, Result.andThen_ok, hr]
    · have e1 := list_seg_step cur (o + i) v rest (by omega)
      unfold splice at hb2 ⊢
      rw [show o + (i + 1) = o + i + 1 by omega] at hb2
      rw [e1] at hb2
      simpa using hb2

/-! ### Shared data -/
inductive RepC (T : Tab) (w : World) (S : Nat → Prop) : CT → Value → TC → Prop
  | int (k : IntKind) (n : Int) : RepC T w S (.int k) (.int k n) (.i n)
  | bool (b : Bool) : RepC T w S .bool (.bool b) (.b b)
  | str (l : List UInt8) : RepC T w S .str (.string ⟨l.toArray⟩) (.s l)
  | nils : RepC T w S .nils (.slice none 0 0) (.l [])
  | nil (e : TypeId) : RepC T w S (.slice e) (.slice none 0 0) (.l [])
  | slice (e : TypeId) (a : Addr) (xs : List (List TC)) (cap : Nat) (us : Nat → Value) : xs.length ≤ cap →
      (∀ x, x ∈ xs → x.length = (T e).cts.length) →
      (∀ k, k < xs.length * (T e).cts.length → S a.block ∧ w.cell? (a.add k) = some (us k)) →
      (∀ k, k < xs.length * (T e).cts.length → RepC T w S ((T e).cts.getD (k % (T e).cts.length) .bool) (us k) (nth (xs.getD (k / (T e).cts.length) []) (k % (T e).cts.length))) →
      RepC T w S (.slice e) (.slice (some a) xs.length cap) (.l xs)
  | ptr (e : TypeId) (a : Addr) (cs : List TC) (us : Nat → Value) : cs.length = (T e).cts.length →
      (∀ k, k < (T e).cts.length → S a.block ∧ w.cell? (a.add k) = some (us k)) →
      (∀ k, k < (T e).cts.length → RepC T w S ((T e).cts.getD k .bool) (us k) (nth cs k)) →
      RepC T w S (.ptr e) (.pointer (some a)) (.p cs)
  | func (fn : FuncId) (caps : List (TypeId × List TC)) (vs : Nat → Value) :
      (∀ j, j < caps.length → RepC T w S (.ptr (caps.getD j (0, [])).1) (vs j) (.p (caps.getD j (0, [])).2)) →
      RepC T w S .func (.func (.func fn) #[] ((List.range caps.length).map vs).toArray) (.f fn caps)

theorem RepC.mono {T : Tab} {w w' : World} {S S' : Nat → Prop} {ct : CT} {u : Value} {c : TC} (h : RepC T w S ct u c)
    (hS : ∀ b, S b → S' b) (hw : ∀ a v, S a.block → w.cell? a = some v → w'.cell? a = some v) : RepC T w' S' ct u c := by
  induction h with
  | int k n => exact .int k n
  | bool b => exact .bool b
  | str l => exact .str l
  | nils => exact .nils
  | nil e => exact .nil e
  | slice e a xs cap us h1 h2 h3 _ ih => exact .slice e a xs cap us h1 h2 (fun k hk => ⟨hS _ (h3 k hk).1, hw _ _ (by rw [add_block]; exact (h3 k hk).1) (h3 k hk).2⟩) ih
  | ptr e a cs us h1 h2 _ ih => exact .ptr e a cs us h1 (fun k hk => ⟨hS _ (h2 k hk).1, hw _ _ (by rw [add_block]; exact (h2 k hk).1) (h2 k hk).2⟩) ih
  | func fn caps vs _ ih => exact .func fn caps vs ih

theorem RepC.one {T : Tab} {w : World} {S : Nat → Prop} {ct : CT} {u : Value} {c : TC} (h : RepC T w S ct u c) : u.oneCell' = true := by
  cases h <;> rfl

theorem RepC.flat {T : Tab} {w w' : World} {S S' : Nat → Prop} {ct : CT} {u : Value} {c : TC} (h : RepC T w S ct u c) (hm : ct.mem = false) : RepC T w' S' ct u c := by
  cases h with
  | int k n => exact .int k n
  | bool b => exact .bool b
  | str l => exact .str l
  | _ => simp [CT.mem] at hm

/-! ### Data of the call's own -/
inductive OwnC (T : Tab) (w : World) : CT → Value → TC → List Nat → Prop
  | flat (ct : CT) (u : Value) (c : TC) : ct.mem = false → RepC T w (fun _ => False) ct u c → OwnC T w ct u c []
  | nils : OwnC T w .nils (.slice none 0 0) (.l []) []
  | nil (e : TypeId) : OwnC T w (.slice e) (.slice none 0 0) (.l []) []
  | slice (e : TypeId) (g : Nat) (xs : List (List TC)) (cap : Nat) (cur : List Value) (fps : Nat → List Nat) : xs.length ≤ cap → cap ≤ maxLen →
      (∀ x, x ∈ xs → x.length = (T e).cts.length) → Blk w g cur e → cur.length = cap * (T e).cts.length → (∀ u, u ∈ cur → u.oneCell' = true) →
      (∀ k, k < xs.length * (T e).cts.length → OwnC T w ((T e).cts.getD (k % (T e).cts.length) .bool) (cur.getD k undef) (nth (xs.getD (k / (T e).cts.length) []) (k % (T e).cts.length)) (fps k)) →
      OwnC T w (.slice e) (.slice (some ⟨g, 0, none⟩) xs.length cap) (.l xs) (g :: (List.range (xs.length * (T e).cts.length)).flatMap fps)

inductive OwnT (T : Tab) (w : World) (S : Nat → Prop) : CT → Value → TC → List Nat → Prop
  | flat (ct : CT) (u : Value) (c : TC) : ct.mem = false → RepC T w (fun _ => False) ct u c → OwnT T w S ct u c []
  | nils : OwnT T w S .nils (.slice none 0 0) (.l []) []
  | nil (e : TypeId) : OwnT T w S (.slice e) (.slice none 0 0) (.l []) []
  | slice (e : TypeId) (g : Nat) (xs : List (List TC)) (cap : Nat) (cur : List Value) : xs.length ≤ cap → cap ≤ maxLen →
      (∀ x, x ∈ xs → x.length = (T e).cts.length) → Blk w g cur e → cur.length = cap * (T e).cts.length → (∀ u, u ∈ cur → u.oneCell' = true) →
      (∀ k, k < xs.length * (T e).cts.length → RepC T w S ((T e).cts.getD (k % (T e).cts.length) .bool) (cur.getD k undef) (nth (xs.getD (k / (T e).cts.length) []) (k % (T e).cts.length))) →
      OwnT T w S (.slice e) (.slice (some ⟨g, 0, none⟩) xs.length cap) (.l xs) [g]

theorem OwnC.one {T : Tab} {w : World} {ct : CT} {u : Value} {c : TC} {fp : List Nat} (h : OwnC T w ct u c fp) : u.oneCell' = true := by
  cases h with
  | flat _ _ _ _ h => exact h.one
  | _ => rfl
theorem OwnT.one {T : Tab} {w : World} {S : Nat → Prop} {ct : CT} {u : Value} {c : TC} {fp : List Nat} (h : OwnT T w S ct u c fp) : u.oneCell' = true := by
  cases h with
  | flat _ _ _ _ h => exact h.one
  | _ => rfl

theorem OwnC.lt {T : Tab} {w : World} {ct : CT} {u : Value} {c : TC} {fp : List Nat} (h : OwnC T w ct u c fp) : ∀ b, b ∈ fp → b < w.heap.size := by
  induction h with
  | flat => simp
  | nils => simp
  | nil => simp
  | slice e g xs cap cur fps _ _ _ hb _ _ _ ih =>
    intro b hm
    rcases List.mem_cons.1 hm with rfl | hm
    · exact hb.lt
    · obtain ⟨k, hk, hm⟩ := List.mem_flatMap.1 hm
      exact ih k (List.mem_range.1 hk) b hm

theorem OwnC.same {T : Tab} {w w' : World} {ct : CT} {u : Value} {c : TC} {fp : List Nat} (h : OwnC T w ct u c fp) (hw : ∀ b, b ∈ fp → w'.heap[b]? = w.heap[b]?) : OwnC T w' ct u c fp := by
  induction h with
  | flat ct u c hm h => exact .flat ct u c hm (h.flat hm)
  | nils => exact .nils
  | nil e => exact .nil e
  | slice e g xs cap cur fps h1 h1m h2 hb hl ho _ ih =>
    exact .slice e g xs cap cur fps h1 h1m h2 (hb.of_same (hw g List.mem_cons_self)) hl ho
      (fun k hk => ih k hk fun b hm => hw b (List.mem_cons_of_mem _ (List.mem_flatMap.2 ⟨k, List.mem_range.2 hk, hm⟩)))

theorem OwnT.same {T : Tab} {w w' : World} {S S' : Nat → Prop} {ct : CT} {u : Value} {c : TC} {fp : List Nat} (h : OwnT T w S ct u c fp) (hw : ∀ b, b ∈ fp → w'.heap[b]? = w.heap[b]?)
    (hS : ∀ b, S b → S' b) (hs : ∀ a v, S a.block → w.cell? a = some v → w'.cell? a = some v) : OwnT T w' S' ct u c fp := by
  cases h with
  | flat ct u c hm h => exact .flat ct u c hm (h.flat hm)
  | nils => exact .nils
  | nil e => exact .nil e
  | slice e g xs cap cur h1 h1m h2 hb hl ho hr =>
    exact .slice e g xs cap cur h1 h1m h2 (hb.of_same (hw g List.mem_cons_self)) hl ho (fun k hk => (hr k hk).mono hS hs)

theorem OwnT.lt {T : Tab} {w : World} {S : Nat → Prop} {ct : CT} {u : Value} {c : TC} {fp : List Nat} (h : OwnT T w S ct u c fp) : ∀ b, b ∈ fp → b < w.heap.size := by
  cases h with
  | slice e g xs cap cur h1 h1m h2 hb => intro b hm; rw [List.mem_singleton.1 hm]; exact hb.lt
  | _ => simp

theorem OwnC.toRep {T : Tab} {w : World} {S : Nat → Prop} {ct : CT} {u : Value} {c : TC} {fp : List Nat} (h : OwnC T w ct u c fp) (hS : ∀ b, b ∈ fp → S b) : RepC T w S ct u c := by
  induction h with
  | flat ct u c hm h => exact h.flat hm
  | nils => exact .nils
  | nil e => exact .nil e
  | slice e g xs cap cur fps h1 h1m h2 hb hl ho _ ih =>
    refine .slice e ⟨g, 0, none⟩ xs cap (fun k => cur.getD k undef) h1 h2 (fun k hk => ⟨hS g List.mem_cons_self, ?_⟩)
      (fun k hk => ih k hk fun b hm => hS b (List.mem_cons_of_mem _ (List.mem_flatMap.2 ⟨k, List.mem_range.2 hk, hm⟩)))
    have hk' : k < cur.length := by
      rw [hl]; exact Nat.lt_of_lt_of_le hk (Nat.mul_le_mul_right _ h1)
    rw [add_zero_block, hb.cell, List.getElem?_eq_getElem hk']
    simp [List.getD_eq_getElem?_getD, List.getElem?_eq_getElem hk']

theorem OwnT.toRep {T : Tab} {w : World} {S S' : Nat → Prop} {ct : CT} {u : Value} {c : TC} {fp : List Nat} (h : OwnT T w S ct u c fp) (hS : ∀ b, b ∈ fp → S' b) (hSS : ∀ b, S b → S' b) : RepC T w S' ct u c := by
  cases h with
  | flat ct u c hm h => exact h.flat hm
  | nils => exact .nils
  | nil e => exact .nil e
  | slice e g xs cap cur h1 h1m h2 hb hl ho hr =>
    refine .slice e ⟨g, 0, none⟩ xs cap (fun k => cur.getD k undef) h1 h2 (fun k hk => ⟨hS g List.mem_cons_self, ?_⟩) (fun k hk => (hr k hk).mono hSS fun _ _ _ h => h)
    have hk' : k < cur.length := by
      rw [hl]; exact Nat.lt_of_lt_of_le hk (Nat.mul_le_mul_right _ h1)
    rw [add_zero_block, hb.cell, List.getElem?_eq_getElem hk']
    simp [List.getD_eq_getElem?_getD, List.getElem?_eq_getElem hk']

/-! ### Cells of slots -/
def CellRel (T : Tab) (w : World) (S : Nat → Prop) (c : Cell) (u : Value) (fp : List Nat) : Prop :=
  match c.fl with
  | .sh => RepC T w S c.ct u c.c ∧ fp = []
  | .own true => OwnC T w c.ct u c.c fp
  | .own false => OwnT T w S c.ct u c.c fp
  | .gone => u.oneCell' = true ∧ fp = []

inductive CellsRel (T : Tab) (w : World) (S : Nat → Prop) : List Cell → List Value → List Nat → Prop
  | nil : CellsRel T w S [] [] []
  | cons {c : Cell} {cs : List Cell} {u : Value} {us : List Value} {fp fp' : List Nat} : CellRel T w S c u fp → CellsRel T w S cs us fp' → CellsRel T w S (c :: cs) (u :: us) (fp ++ fp')

section
variable {T : Tab} {w w' : World} {S S' : Nat → Prop}

theorem CellRel.one {c : Cell} {u : Value} {fp : List Nat} (h : CellRel T w S c u fp) : u.oneCell' = true := by
  unfold CellRel at h
  split at h
  · exact h.1.one
  · exact h.one
  · exact h.one
  · exact h.1

theorem CellRel.lt {c : Cell} {u : Value} {fp : List Nat} (h : CellRel T w S c u fp) : ∀ b, b ∈ fp → b < w.heap.size := by
  unfold CellRel at h
  split at h
  · simp [h.2]
  · exact h.lt
  · exact h.lt
  · simp [h.2]

theorem CellRel.same {c : Cell} {u : Value} {fp : List Nat} (h : CellRel T w S c u fp) (hw : ∀ b, b ∈ fp → w'.heap[b]? = w.heap[b]?)
    (hS : ∀ b, S b → S' b) (hs : ∀ a v, S a.block → w.cell? a = some v → w'.cell? a = some v) : CellRel T w' S' c u fp := by
  unfold CellRel at h ⊢
  split
  · rename_i hf; simp only [hf] at h; exact ⟨h.1.mono hS hs, h.2⟩
  · rename_i hf; simp only [hf] at h; exact h.same hw
  · rename_i hf; simp only [hf] at h; exact h.same hw hS hs
  · rename_i hf; simp only [hf] at h; exact h

theorem CellRel.toRep {c : Cell} {u : Value} {fp : List Nat} (h : CellRel T w S c u fp) (hg : c.isGone = false) (hS : ∀ b, b ∈ fp → S' b) (hSS : ∀ b, S b → S' b) : RepC T w S' c.ct u c.c := by
  unfold CellRel at h
  split at h
  · exact h.1.mono hSS fun _ _ _ h => h
  · exact h.toRep hS
  · exact h.toRep hS hSS
  · rename_i hf; simp [Cell.isGone, hf] at hg

theorem CellRel.ofFree {c : Cell} {u : Value} {fp : List Nat} (h : CellRel T w S c u fp) (hf : c.free = true) (hg : c.isGone = false) : RepC T w S c.ct u c.c := by
  unfold Cell.free at hf
  simp only [Bool.or_eq_true, Bool.not_eq_true', beq_iff_eq] at hf
  rcases hf with hm | hs
  · exact (h.toRep (S' := fun b => S b ∨ b ∈ fp) hg (fun b hb => .inr hb) (fun b hb => .inl hb)).flat hm
  · unfold CellRel at h
    rw [hs] at h
    exact h.1

theorem CellRel.mem_nil {c : Cell} {u : Value} {fp : List Nat} (h : CellRel T w S c u fp) (hm : c.ct.mem = false) : fp = [] := by
  obtain ⟨ct, fl, tc⟩ := c
  unfold CellRel at h
  split at h
  · exact h.2
  · cases h <;> first | rfl | simp [CT.mem] at hm
  · cases h <;> first | rfl | simp [CT.mem] at hm
  · exact h.2

theorem CellRel.ofDeep {c : Cell} {u : Value} {fp : List Nat} (h : CellRel T w S c u fp) (hd : c.deep = true) (hg : c.isGone = false) : OwnC T w c.ct u c.c fp := by
  unfold Cell.deep at hd
  simp only [Bool.or_eq_true, Bool.not_eq_true', beq_iff_eq] at hd
  rcases hd with hm | hs
  · have hr := (h.toRep (S' := fun b => S b ∨ b ∈ fp) hg (fun b hb => .inr hb) (fun b hb => .inl hb)).flat (w' := w) (S' := fun _ => False) hm
    rw [h.mem_nil hm]
    exact .flat _ _ _ hm hr
  · unfold CellRel at h
    rw [hs] at h
    exact h

theorem CellsRel.length {cs : List Cell} {us : List Value} {fp : List Nat} (h : CellsRel T w S cs us fp) : us.length = cs.length := by
  induction h with
  | nil => rfl
  | cons _ _ ih => simp [ih]

theorem CellsRel.one {cs : List Cell} {us : List Value} {fp : List Nat} (h : CellsRel T w S cs us fp) : ∀ u, u ∈ us → u.oneCell' = true := by
  induction h with
  | nil => simp
  | cons h _ ih => intro u hu; exact (List.mem_cons.1 hu).elim (fun e => e ▸ h.one) (ih u)

theorem CellsRel.lt {cs : List Cell} {us : List Value} {fp : List Nat} (h : CellsRel T w S cs us fp) : ∀ b, b ∈ fp → b < w.heap.size := by
  induction h with
  | nil => simp
  | cons h _ ih => intro b hb; exact (List.mem_append.1 hb).elim (h.lt b) (ih b)

theorem CellsRel.same {cs : List Cell} {us : List Value} {fp : List Nat} (h : CellsRel T w S cs us fp) (hw : ∀ b, b ∈ fp → w'.heap[b]? = w.heap[b]?)
    (hS : ∀ b, S b → S' b) (hs : ∀ a v, S a.block → w.cell? a = some v → w'.cell? a = some v) : CellsRel T w' S' cs us fp := by
  induction h with
  | nil => exact .nil
  | cons h _ ih => exact .cons (h.same (fun b hb => hw b (List.mem_append_left _ hb)) hS hs) (ih fun b hb => hw b (List.mem_append_right _ hb))

theorem CellsRel.append {cs ds : List Cell} {us vs : List Value} {fp fq : List Nat} (h : CellsRel T w S cs us fp) (k : CellsRel T w S ds vs fq) : CellsRel T w S (cs ++ ds) (us ++ vs) (fp ++ fq) := by
  induction h with
  | nil => exact k
  | cons h _ ih => rw [List.append_assoc]; exact .cons h ih

theorem CellsRel.split {cs ds : List Cell} : ∀ {us : List Value} {fp : List Nat}, CellsRel T w S (cs ++ ds) us fp →
    ∃ us1 us2 fp1 fp2, us = us1 ++ us2 ∧ fp = fp1 ++ fp2 ∧ CellsRel T w S cs us1 fp1 ∧ CellsRel T w S ds us2 fp2 := by
  induction cs with
  | nil => exact fun h => ⟨[], _, [], _, rfl, rfl, .nil, h⟩
  | cons c cs ih =>
    intro us fp h
    cases h with
    | cons h1 h2 =>
      obtain ⟨us1, us2, fp1, fp2, rfl, rfl, ha, hb⟩ := ih h2
      exact ⟨_ :: us1, us2, _ ++ fp1, fp2, rfl, (List.append_assoc _ _ _).symm, .cons h1 ha, hb⟩

theorem CellsRel.shared {cs : List Cell} {us : List Value} {fp : List Nat} (h : CellsRel T w S cs us fp) (hf : cs.all Cell.free = true) (hg : cs.any Cell.isGone = false) : CellsRel T w S (cs.map Cell.share) us [] := by
  induction h with
  | nil => exact .nil
  | @cons c cs u us fp fp' h _ ih =>
    simp only [List.all_cons, Bool.and_eq_true] at hf
    simp only [List.any_cons, Bool.or_eq_false_iff] at hg
    have := CellsRel.cons (T := T) (w := w) (S := S) (c := c.share) (u := u) (fp := []) ⟨h.ofFree hf.1 hg.1, rfl⟩ (ih hf.2 hg.2)
    simpa using this
end

end Go.Proofs.Ytabdjbkbfilhkaa.V
