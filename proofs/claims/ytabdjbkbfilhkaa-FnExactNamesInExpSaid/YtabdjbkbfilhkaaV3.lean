import Derived.Test.YtabdjbkbfilhkaaV2
import Derived.Control
namespace Go.Proofs.Ytabdjbkbfilhkaa.V
open Go Go.RowKit

/-! ### The evaluator's steps -/
section
variable {α β ρ : Type} (D : FuncId → List Arg → Option (Bool × Res)) (σ : St)

def R.evR : R α → List Nat → Option (α × List Nat)
  | .ret a, rs => some (a, rs)
  | .fail, _ => .none
  | .get n k, rs => (k (σ n)).evR (n :: rs)
  | .chk c d k, rs => @ite _ c d (k.evR rs) .none
  | .br c k, rs => if c = true then (k true).evR rs else (k false).evR rs
  | .call g as k, rs => (D g as).bind fun p => if p.1 = true then (k p.2).evR rs else .none

def R.ev : R α → Option α
  | .ret a => some a
  | .fail => .none
  | .get n k => (k (σ n)).ev
  | .chk c d k => @ite _ c d k.ev .none
  | .br c k => if c = true then (k true).ev else (k false).ev
  | .call g as k => (D g as).bind fun p => if p.1 = true then (k p.2).ev else .none

theorem R.exec_eq (m : R α) : ∀ (rs : List Nat) (K : α → List Nat → Option ρ), m.exec D σ rs K = (m.evR D σ rs).bind fun p => K p.1 p.2 := by
  induction m with
  | ret a => intro rs K; rfl
  | fail => intro rs K; rfl
  | get n k ih => intro rs K; exact ih _ _ _
  | chk c d k ih =>
    intro rs K
    simp only [R.exec, R.evR]
    by_cases h : c
    · rw [if_pos h, if_pos h]; exact ih _ _
    · rw [if_neg h, if_neg h]; rfl
  | br c k ih =>
    intro rs K
    simp only [R.exec, R.evR]
    by_cases h : c = true
    · rw [if_pos h, if_pos h]; exact ih _ _ _
    · rw [if_neg h, if_neg h]; exact ih _ _ _
  | call g as k ih =>
    intro rs K
    simp only [R.exec, R.evR]
    cases D g as with
    | none => rfl
    | some r =>
      obtain ⟨b, r⟩ := r
      cases b with
      | true => exact ih _ _ _
      | false => rfl

theorem R.ev_of_evR (m : R α) : ∀ (rs : List Nat) (p : α × List Nat), m.evR D σ rs = some p → m.ev D σ = some p.1 := by
  induction m with
  | ret a => intro rs p h; cases h; rfl
  | fail => intro rs p h; cases h
  | get n k ih => intro rs p h; exact ih _ _ _ h
  | chk c d k ih =>
    intro rs p h
    simp only [R.evR, R.ev] at h ⊢
    by_cases hc : c
    · rw [if_pos hc] at h ⊢; exact ih _ _ h
    · rw [if_neg hc] at h; cases h
  | br c k ih =>
    intro rs p h
    simp only [R.evR, R.ev] at h ⊢
    by_cases hc : c = true
    · rw [if_pos hc] at h ⊢; exact ih _ _ _ h
    · rw [if_neg hc] at h ⊢; exact ih _ _ _ h
  | call g as k ih =>
    intro rs p h
    simp only [R.evR, R.ev] at h ⊢
    cases hd : D g as with
    | none => rw [hd] at h; cases h
    | some r =>
      obtain ⟨b, r⟩ := r
      rw [hd] at h
      cases b with
      | true => exact ih _ _ _ h
      | false => cases h

theorem R.evR_frame {σ' : St} (m : R α) : ∀ (rs : List Nat) (p : α × List Nat), m.evR D σ rs = some p → (∀ n, n ∈ rs → n ∈ p.2) ∧ ((∀ n, n ∈ p.2 → σ' n = σ n) → m.evR D σ' rs = some p) := by
  induction m with
  | ret a => intro rs p h; cases h; exact ⟨fun _ h => h, fun _ => rfl⟩
  | fail => intro rs p h; cases h
  | get n k ih =>
    intro rs p h
    have h' : (k (σ n)).evR D σ (n :: rs) = some p := h
    obtain ⟨h1, h2⟩ := ih _ _ _ h'
    refine ⟨fun m hm => h1 m (List.mem_cons_of_mem _ hm), fun hs => ?_⟩
    show (k (σ' n)).evR D σ' (n :: rs) = some p
    rw [hs n (h1 n List.mem_cons_self)]
    exact h2 hs
  | chk c d k ih =>
    intro rs p h
    simp only [R.evR] at h ⊢
    by_cases hc : c
    · rw [if_pos hc] at h ⊢; exact ih _ _ h
    · rw [if_neg hc] at h; cases h
  | br c k ih =>
    intro rs p h
    simp only [R.evR] at h ⊢
    by_cases hc : c = true
    · rw [if_pos hc] at h ⊢; exact ih _ _ _ h
    · rw [if_neg hc] at h ⊢; exact ih _ _ _ h
  | call g as k ih =>
    intro rs p h
    simp only [R.evR] at h ⊢
    cases hd : D g as with
    | none => rw [hd] at h; cases h
    | some r =>
      obtain ⟨b, r⟩ := r
      rw [hd] at h
      cases b with
      | true => exact ih _ _ _ h
      | false => cases h

@[simp] theorem R.ev_pure (a : α) : (pure a : R α).ev D σ = some a := rfl
@[simp] theorem R.ev_ret (a : α) : (R.ret a).ev D σ = some a := rfl
@[simp] theorem R.ev_fail : (R.fail : R α).ev D σ = .none := rfl
@[simp] theorem R.ev_slot (n : Nat) : (R.slot n).ev D σ = some (σ n) := rfl
@[simp] theorem R.ev_get (n : Nat) (k : Slot → R α) : (R.get n k).ev D σ = (k (σ n)).ev D σ := rfl
@[simp] theorem R.ev_call (g : FuncId) (as : List Arg) (k : Res → R α) : (R.call g as k).ev D σ = (D g as).bind fun p => if p.1 = true then (k p.2).ev D σ else .none := rfl
theorem R.ev_bind' (m : R α) (f : α → R β) : (m.bind f).ev D σ = (m.ev D σ).bind fun x => (f x).ev D σ := by
  induction m with
  | ret a => rfl
  | fail => rfl
  | get n k ih => exact ih _
  | chk c d k ih =>
    simp only [R.bind, R.ev]
    by_cases hc : c
    · rw [if_pos hc, if_pos hc]; exact ih
    · rw [if_neg hc, if_neg hc]; rfl
  | br c k ih =>
    simp only [R.bind, R.ev]
    by_cases hc : c = true
    · rw [if_pos hc, if_pos hc]; exact ih _
    · rw [if_neg hc, if_neg hc]; exact ih _
  | call g as k ih =>
    simp only [R.bind, R.ev]
    cases D g as with
    | none => rfl
    | some r =>
      obtain ⟨b, r⟩ := r
      cases b with
      | true => exact ih _
      | false => rfl
@[simp] theorem R.ev_bind (m : R α) (f : α → R β) : (m >>= f).ev D σ = (m.ev D σ).bind fun x => (f x).ev D σ := R.ev_bind' D σ m f
@[simp] theorem R.ev_opt (o : Option α) : (R.opt o).ev D σ = o := by cases o <;> rfl
theorem R.ev_chk (c : Prop) (d : Decidable c) (k : R α) (x : α) : (R.chk c d k).ev D σ = some x ↔ c ∧ k.ev D σ = some x := by
  simp only [R.ev]
  by_cases h : c
  · rw [if_pos h]; simp [h]
  · rw [if_neg h]; simp [h]
theorem R.ev_guard (c : Prop) [Decidable c] (x : Unit) : (R.guard c).ev D σ = some x ↔ c := by
  unfold R.guard; rw [R.ev_chk]; simp
theorem R.ev_br (c : Bool) (k : Bool → R α) : (R.br c k).ev D σ = (k c).ev D σ := by
  cases c <;> simp [R.ev]
end

/-! ### Slots -/
theorem St.set_at (σ : St) (n : Nat) (s : Slot) : (σ.set n s) n = s := by simp [St.set]
theorem St.set_ne (σ : St) {n m : Nat} (s : Slot) (h : m ≠ n) : (σ.set n s) m = σ m := by
  have : m.beq n = false := by
    cases hb : m.beq n with
    | false => rfl
    | true => exact absurd (Nat.eq_of_beq_eq_true hb) h
  simp [St.set, this]

def viewSlot (σ : St) (n : Nat) : Slot :=
  match (σ n).sv with
  | .gal g off k => ⟨.al g gh off k (σ gh).v, (σ n).v⟩
  | _ => σ n
@[simp] theorem R.ev_view (D : FuncId → List Arg → Option (Bool × Res)) (σ : St) (n : Nat) : (R.view n).ev D σ = some (viewSlot σ n) := by
  unfold R.view viewSlot
  simp only [R.ev_bind, R.ev_slot, Option.bind_some]
  cases (σ n).sv <;> rfl
theorem viewSlot_same {σ σ' : St} {n : Nat} (h1 : σ' n = σ n) (h2 : σ' gh = σ gh) : viewSlot σ' n = viewSlot σ n := by
  unfold viewSlot
  rw [h1, h2]
theorem viewSlot_v (σ : St) (n : Nat) : (viewSlot σ n).v = (σ n).v := by
  unfold viewSlot
  split <;> rfl
theorem viewSlot_eq {σ : St} {n : Nat} {sv : SV} (h : (viewSlot σ n).sv = sv) (hn : ∀ g h off k v, sv ≠ .al g h off k v) : (σ n).sv = sv := by
  unfold viewSlot at h
  split at h
  · exact absurd h.symm (hn _ _ _ _ _)
  · exact h

def Ver.le (v cur : Ver) : Prop := v.w < cur.w ∨ (v.w = cur.w ∧ v.c ≤ cur.c)

inductive TupRel (T : Tab) (w : World) (S : Nat → Prop) : List (Bool × List Cell) → List Value → List Nat → Prop
  | nil : TupRel T w S [] [] []
  | cons {g : Bool} {cs : List Cell} {vs : List (Bool × List Cell)} {us ws : List Value} {fp fp' : List Nat} : CellsRel T w S cs us fp → (g = false → cs.length = 1) →
      TupRel T w S vs ws fp' → TupRel T w S ((g, cs) :: vs) (mkv g us :: ws) (fp ++ fp')

def IsBld (T : Tab) (w : World) (t e : TypeId) (b : Nat) (l : List UInt8) (fp : List Nat) : Prop :=
  (T t).kind = .bld e ∧ ∃ p v fp', Blk w b [p, v] t ∧ (p = .pointer none ∨ p = .pointer (some ⟨b, 0, none⟩)) ∧ fp = b :: fp' ∧ OwnC T w (.slice e) v (.l (bytesRow l)) fp'
theorem IsBld.lt {T : Tab} {w : World} {t e : TypeId} {b : Nat} {l : List UInt8} {fp : List Nat} (h : IsBld T w t e b l fp) : ∀ x, x ∈ fp → x < w.heap.size := by
  obtain ⟨_, p, v, fp', hb, _, rfl, ho⟩ := h
  intro x hm
  rcases List.mem_cons.1 hm with rfl | hm
  · exact hb.lt
  · exact ho.lt x hm
theorem IsBld.same {T : Tab} {w w' : World} {t e : TypeId} {b : Nat} {l : List UInt8} {fp : List Nat} (h : IsBld T w t e b l fp) (hw : ∀ x, x ∈ fp → w'.heap[x]? = w.heap[x]?) : IsBld T w' t e b l fp := by
  obtain ⟨h0, p, v, fp', hb, h2, rfl, ho⟩ := h
  exact ⟨h0, p, v, fp', hb.of_same (hw _ List.mem_cons_self), h2, rfl, ho.same fun b hm => hw b (List.mem_cons_of_mem _ hm)⟩

def SlotRel (T : Tab) (w : World) (S : Nat → Prop) (vers : Nat → Ver) (us : Nat → List Value) (blk : Nat → Nat) (n : Nat) (u : Value) (fp : List Nat) : SV → Prop
  | .dead => ∀ b, b ∈ fp → b < w.heap.size
  | .und => u = undef ∧ fp = []
  | .val g cs => u = mkv g (us n) ∧ CellsRel T w S cs (us n) fp ∧ (g = false → cs.length = 1)
  | .tup vs => ∃ ws : List Value, u = .tuple ws.toArray ∧ TupRel T w S vs ws fp
  | .bx e cs => u = .pointer (some ⟨blk n, 0, none⟩) ∧ Blk w (blk n) (us n) e ∧ (∃ fp', fp = blk n :: fp' ∧ CellsRel T w S cs (us n) fp') ∧ ctsOf cs = (T e).cts
  | .al g h off k v => fp = [] ∧ v.le (vers h) ∧ (g = false → k = 1) ∧ (vers h = v → u = mkv g (((us h).drop off).take k))
  | .fa h off v => fp = [] ∧ v ≤ (vers h).w ∧ ((vers h).w = v → u = .pointer (some ⟨blk h, off, none⟩))
  | .ea h off e i j v => fp = [] ∧ v.le (vers h) ∧ (vers h = v → ∃ g len cap, (us h)[off]? = some (.slice (some ⟨g, 0, none⟩) len cap) ∧ 0 ≤ i ∧ i < (len : Int) ∧ u = .pointer (some ⟨g, i.toNat * (T e).cts.length + j, none⟩))
  | .clo f caps => fp = [] ∧ (∀ p, p ∈ caps → p.2 ≤ (vers p.1).w) ∧ ((∀ p, p ∈ caps → (vers p.1).w = p.2) → u = .func (.func f) #[] (caps.map fun p => Value.pointer (some ⟨blk p.1, 0, none⟩)).toArray)
  | .gv cs => CellsRel T w S cs (us n) fp
  | .gal g off k => fp = [] ∧ (g = false → k = 1) ∧ u = mkv g (((us gh).drop off).take k)
  | .gbx e off k => u = .pointer (some ⟨blk n, 0, none⟩) ∧ Blk w (blk n) (((us gh).drop off).take k) e ∧ fp = [blk n]
  | .bld t e l => u = .pointer (some ⟨blk n, 0, none⟩) ∧ IsBld T w t e (blk n) l fp
  | .sub h off e lo hi v => fp = [] ∧ v.le (vers h) ∧ (vers h = v → ∃ ao len cap, (us h)[off]? = some (.slice ao len cap) ∧ 0 ≤ lo ∧ lo ≤ hi ∧ hi ≤ (len : Int) ∧ u = .slice (if cap = lo.toNat then ao else ao.map (·.add (lo.toNat * (T e).cts.length))) (hi.toNat - lo.toNat) (cap - lo.toNat))

def Sh (w : World) (fp : Nat → List Nat) (F : List Nat) (b : Nat) : Prop := b < w.heap.size ∧ (∀ n, b ∉ fp n) ∧ b ∉ F

def SV.ghost : SV → Bool
  | .dead => true
  | .gv _ => true
  | _ => false

def isGl (T : Tab) (g : Nat) : Prop := (T (fnBase + 600000)).kind = .meth (10 + g)
def intGl (T : Tab) (w : World) : Prop := ∀ g, isGl T g → ∃ m, w.cell? ⟨g, 0, none⟩ = some (.int .i64 m)
theorem intGl.chg {T : Tab} {w w' : World} {gs : List Nat} (h : intGl T w) (hc : Chg w w' gs) (hg : ∀ g, isGl T g → g ∉ gs) : intGl T w' := fun g k => by
  obtain ⟨m, hm⟩ := h g k
  exact ⟨m, hc.cell hm (hg g k)⟩
def noGlB (T : Tab) : Bool := match (T (fnBase + 600000)).kind with | .meth _ => false | _ => true
theorem noGl {T : Tab} (h : noGlB T = true) (g : Nat) : ¬ isGl T g := fun k => by
  unfold noGlB at h
  unfold isGl at k
  rw [k] at h
  cases h
def Fit (T : Tab) (w : World) (S : Nat → Prop) : Prop := (∀ b, S b → b < w.heap.size) ∧ intGl T w
def FitW (T : Tab) (w : World) (S : Nat → Prop) (fp : List Nat) : Prop := (∀ b, S b → b < w.heap.size) ∧ intGl T w ∧ ∀ g, isGl T g → g ∉ fp

structure RelF (T : Tab) (G : Nat → Prop) (base : Bs) (nt : Nat) (σ : St) (a : Act) (w : World) (F : List Nat) (fp : Nat → List Nat) (us : Nat → List Value) (blk : Nat → Nat) : Prop where
  slot : ∀ n, SlotRel T w (Sh w fp F) (fun n => (σ n).v) us blk n (a.tmps.getD n undef) (fp n) (σ n).sv
  disj : ∀ m n, m ≠ n → ∀ b, b ∈ fp m → b ∉ fp n
  dF : ∀ n b, b ∈ fp n → b ∉ F
  nodup : ∀ n, (fp n).Nodup
  lo : ∀ n b, ((σ n).sv ≠ .dead ∨ n < nt) → b ∈ fp n → base.own b
  low : ∀ b, ¬ base.own b → (∀ n, b ∉ fp n) → G b
  loF : ∀ b, b ∈ F → base.own b
  ltF : ∀ b, b ∈ F → b < w.heap.size
  ndF : F.Nodup
  top : ∀ b, w.heap.size ≤ b → base.own b
  gus : us gh = base.pv
  gsv : (σ gh).sv.ghost = true
  gnt : nt ≤ gh
  size : a.tmps.size = nt
  defers : a.defers = []
  off : ∀ g, isGl T g → ¬ base.own g
  int : intGl T w

def Rel (T : Tab) (G : Nat → Prop) (base : Bs) (nt : Nat) (σ : St) (a : Act) (w : World) : Prop := ∃ fp us blk, RelF T G base nt σ a w [] fp us blk

theorem TupRel.lt {T : Tab} {w : World} {S : Nat → Prop} {vs : List (Bool × List Cell)} {us : List Value} {fp : List Nat} (h : TupRel T w S vs us fp) : ∀ b, b ∈ fp → b < w.heap.size := by
  induction h with
  | nil => simp
  | cons h _ _ ih => intro b hb; exact (List.mem_append.1 hb).elim (h.lt b) (ih b)

theorem TupRel.same {T : Tab} {w w' : World} {S S' : Nat → Prop} {vs : List (Bool × List Cell)} {us : List Value} {fp : List Nat} (h : TupRel T w S vs us fp) (hw : ∀ b, b ∈ fp → w'.heap[b]? = w.heap[b]?)
    (hS : ∀ b, S b → S' b) (hs : ∀ a v, S a.block → w.cell? a = some v → w'.cell? a = some v) : TupRel T w' S' vs us fp := by
  induction h with
  | nil => exact .nil
  | cons h hg _ ih => exact .cons (h.same (fun b hb => hw b (List.mem_append_left _ hb)) hS hs) hg (ih fun b hb => hw b (List.mem_append_right _ hb))

theorem SlotRel.lt {T : Tab} {w : World} {S : Nat → Prop} {vers : Nat → Ver} {us : Nat → List Value} {blk : Nat → Nat} {n : Nat} {u : Value} {fp : List Nat} {sv : SV}
    (h : SlotRel T w S vers us blk n u fp sv) : ∀ b, b ∈ fp → b < w.heap.size := by
  cases sv with
  | dead => exact h
  | und => intro b hb; rw [h.2] at hb; cases hb
  | val g cs => exact h.2.1.lt
  | tup vs => obtain ⟨ws, _, h⟩ := h; exact h.lt
  | bx e cs =>
    obtain ⟨_, hb, ⟨fp', rfl, hc⟩, _⟩ := h
    intro b hm
    rcases List.mem_cons.1 hm with rfl | hm
    · exact hb.lt
    · exact hc.lt b hm
  | al => intro b hb; rw [h.1] at hb; cases hb
  | fa => intro b hb; rw [h.1] at hb; cases hb
  | ea => intro b hb; rw [h.1] at hb; cases hb
  | clo => intro b hb; rw [h.1] at hb; cases hb
  | gv cs => exact CellsRel.lt h
  | gal => intro b hb; rw [h.1] at hb; cases hb
  | gbx e off k =>
    intro b hb
    rw [h.2.2] at hb
    rw [List.mem_singleton.1 hb]
    exact h.2.1.lt
  | bld t e l =>
    exact h.2.lt
  | sub => intro b hb; rw [h.1] at hb; cases hb

theorem SlotRel.same {T : Tab} {w w' : World} {S S' : Nat → Prop} {vers : Nat → Ver} {us : Nat → List Value} {blk : Nat → Nat} {n : Nat} {u : Value} {fp : List Nat} {sv : SV}
    (h : SlotRel T w S vers us blk n u fp sv) (hw : ∀ b, b ∈ fp → w'.heap[b]? = w.heap[b]?)
    (hS : ∀ b, S b → S' b) (hs : ∀ a v, S a.block → w.cell? a = some v → w'.cell? a = some v) : SlotRel T w' S' vers us blk n u fp sv := by
  cases sv with
  | dead =>
    intro b hb
    have h1 := hw b hb
    have h2 : b < w.heap.size := h b hb
    rw [Array.getElem?_eq_getElem h2] at h1
    exact (Array.getElem?_eq_some_iff.1 h1).1
  | und => exact h
  | val g cs => exact ⟨h.1, h.2.1.same hw hS hs, h.2.2⟩
  | tup vs => obtain ⟨ws, h1, h2⟩ := h; exact ⟨ws, h1, h2.same hw hS hs⟩
  | bx e cs =>
    obtain ⟨h1, hb, ⟨fp', rfl, hc⟩, h2⟩ := h
    exact ⟨h1, hb.of_same (hw _ List.mem_cons_self), ⟨fp', rfl, hc.same (fun b hm => hw b (List.mem_cons_of_mem _ hm)) hS hs⟩, h2⟩
  | al => exact h
  | fa => exact h
  | ea => exact h
  | clo => exact h
  | gv cs => exact CellsRel.same h hw hS hs
  | gal => exact h
  | gbx e off k => exact ⟨h.1, h.2.1.of_same (hw _ (by rw [h.2.2]; exact List.mem_cons_self)), h.2.2⟩
  | bld t e l =>
    exact ⟨h.1, h.2.same hw⟩
  | sub => exact h

theorem RelF.lt {T : Tab} {G : Nat → Prop} {base : Bs} {nt : Nat} {σ : St} {a : Act} {w : World} {F : List Nat} {fp : Nat → List Nat} {us : Nat → List Value} {blk : Nat → Nat}
    (h : RelF T G base nt σ a w F fp us blk) (n b : Nat) (hb : b ∈ fp n) : b < w.heap.size := (h.slot n).lt b hb

theorem RelF.ngh {T : Tab} {G : Nat → Prop} {base : Bs} {nt : Nat} {σ : St} {a : Act} {w : World} {F : List Nat} {fp : Nat → List Nat} {us : Nat → List Value} {blk : Nat → Nat}
    (h : RelF T G base nt σ a w F fp us blk) {n : Nat} (hn : (σ n).sv.ghost = false) : n ≠ gh := fun e => by
  have := h.gsv
  rw [← e, hn] at this
  cases this
theorem RelF.view {T : Tab} {G : Nat → Prop} {base : Bs} {nt : Nat} {σ : St} {a : Act} {w : World} {F : List Nat} {fp : Nat → List Nat} {us : Nat → List Value} {blk : Nat → Nat}
    (h : RelF T G base nt σ a w F fp us blk) (n : Nat) : SlotRel T w (Sh w fp F) (fun n => (σ n).v) us blk n (a.tmps.getD n undef) (fp n) (viewSlot σ n).sv := by
  have hs := h.slot n
  unfold viewSlot
  split
  · rename_i g off k hsv
    rw [hsv] at hs
    exact ⟨hs.1, .inr ⟨rfl, Nat.le_refl _⟩, hs.2.1, fun _ => hs.2.2⟩
  · exact hs

theorem RelF.chg {T : Tab} {G : Nat → Prop} {base : Bs} {nt : Nat} {σ : St} {a : Act} {w w' : World} {F : List Nat} {fp : Nat → List Nat} {us : Nat → List Value} {blk : Nat → Nat}
    (h : RelF T G base nt σ a w F fp us blk) {gs : List Nat} (hc : Chg w w' gs) (hg : ∀ g, g ∈ gs → g ∈ F) (N : List Nat) (hN : ∀ b, b ∈ N → w.heap.size ≤ b ∧ b < w'.heap.size) (hnd : N.Nodup) :
    RelF T G base nt σ a w' (F ++ N) fp us blk where
  slot n := by
    refine (h.slot n).same (fun b hb => hc.block b (h.lt n b hb) fun hm => h.dF n b hb (hg b hm)) (fun b hb => ?_) (fun a v ha hv => hc.cell hv fun hm => ha.2.2 (hg _ hm))
    refine ⟨Nat.lt_of_lt_of_le hb.1 hc.size, hb.2.1, fun hm => ?_⟩
    rcases List.mem_append.1 hm with hm | hm
    · exact hb.2.2 hm
    · have := (hN b hm).1; have := hb.1; omega
  disj := h.disj
  dF n b hb hm := by
    rcases List.mem_append.1 hm with hm | hm
    · exact h.dF n b hb hm
    · have := (hN b hm).1; have := h.lt n b hb; omega
  nodup := h.nodup
  lo := h.lo
  low := h.low
  loF b hb := by
    rcases List.mem_append.1 hb with hm | hm
    · exact h.loF b hm
    · exact h.top b (hN b hm).1
  ltF b hb := by
    rcases List.mem_append.1 hb with hm | hm
    · exact Nat.lt_of_lt_of_le (h.ltF b hm) hc.size
    · exact (hN b hm).2
  ndF := List.nodup_append.2 ⟨h.ndF, hnd, fun x hx y hy e => by subst e; have := h.ltF x hx; have := (hN x hy).1; omega⟩
  top b hb := h.top b (Nat.le_trans hc.size hb)
  gus := h.gus
  gsv := h.gsv
  gnt := h.gnt
  size := h.size
  defers := h.defers
  off := h.off
  int := h.int.chg hc fun g k hx => h.off g k (h.loF g (hg g hx))

theorem RelF.drop {T : Tab} {G : Nat → Prop} {base : Bs} {nt : Nat} {σ : St} {a : Act} {w : World} {F F' : List Nat} {fp : Nat → List Nat} {us : Nat → List Value} {blk : Nat → Nat}
    (h : RelF T G base nt σ a w F fp us blk) (hF : ∀ b, b ∈ F' → b ∈ F) (hn : F'.Nodup) : RelF T G base nt σ a w F' fp us blk where
  slot n := (h.slot n).same (fun _ _ => rfl) (fun b hb => ⟨hb.1, hb.2.1, fun hm => hb.2.2 (hF b hm)⟩) (fun _ _ _ h => h)
  disj := h.disj
  dF n b hb hm := h.dF n b hb (hF b hm)
  nodup := h.nodup
  lo := h.lo
  low := h.low
  loF b hb := h.loF b (hF b hb)
  ltF b hb := h.ltF b (hF b hb)
  ndF := hn
  top := h.top
  gus := h.gus
  gsv := h.gsv
  gnt := h.gnt
  size := h.size
  defers := h.defers
  off := h.off
  int := h.int

theorem RelF.toRel {T : Tab} {G : Nat → Prop} {base : Bs} {nt : Nat} {σ : St} {a : Act} {w : World} {F : List Nat} {fp : Nat → List Nat} {us : Nat → List Value} {blk : Nat → Nat}
    (h : RelF T G base nt σ a w F fp us blk) : Rel T G base nt σ a w := ⟨fp, us, blk, h.drop (F' := []) (fun _ h => by cases h) .nil⟩

def upd {α : Type} (f : Nat → α) (n : Nat) (x : α) : Nat → α := fun m => if m = n then x else f m
theorem upd_at {α : Type} (f : Nat → α) (n : Nat) (x : α) : upd f n x n = x := by simp [upd]
theorem upd_ne {α : Type} (f : Nat → α) {n m : Nat} (x : α) (h : m ≠ n) : upd f n x m = f m := by simp [upd, h]

theorem upd_gh {α : Type} {f : Nat → α} {d : Nat} {x : α} (h : d = gh → x = f d) : upd f d x gh = f gh := by
  by_cases e : gh = d
  · rw [← e, upd_at]; rw [← e] at h; exact h rfl
  · exact upd_ne _ _ e
theorem set_gh {σ : St} {d : Nat} {sv : SV} {v : Ver} (h : (σ gh).sv.ghost = true) (hd : d = gh → sv.ghost = true) : ((σ.set d ⟨sv, v⟩) gh).sv.ghost = true := by
  by_cases e : gh = d
  · rw [← e, St.set_at]; exact hd e.symm
  · rw [St.set_ne _ _ e]; exact h
theorem SlotRel.other {T : Tab} {w : World} {S : Nat → Prop} {vers vers' : Nat → Ver} {us us' : Nat → List Value} {blk blk' : Nat → Nat} {n d : Nat} {u : Value} {fp : List Nat} {sv : SV}
    (h : SlotRel T w S vers us blk n u fp sv) (hn : n ≠ d) (hv : ∀ m, m ≠ d → vers' m = vers m)
    (hd : (vers d).w < (vers' d).w ∨ ((vers' d).w = (vers d).w ∧ (vers d).c < (vers' d).c ∧ blk' d = blk d))
    (hu : ∀ m, m ≠ d → us' m = us m) (hb : ∀ m, m ≠ d → blk' m = blk m) (hg : us' gh = us gh) : SlotRel T w S vers' us' blk' n u fp sv := by
  cases sv with
  | dead => exact h
  | und => exact h
  | val g cs => simpa only [SlotRel, hu n hn] using h
  | tup vs => exact h
  | bx e cs => simpa only [SlotRel, hu n hn, hb n hn] using h
  | al g h' off k v =>
    obtain ⟨h1, h2, h3, h4⟩ := h
    refine ⟨h1, ?_, h3, ?_⟩
    · by_cases e : h' = d
      · subst e; unfold Ver.le at h2 ⊢; omega
      · rw [hv h' e]; exact h2
    · by_cases e : h' = d
      · subst e; intro hh; rw [hh] at hd; unfold Ver.le at h2; omega
      · rw [hv h' e, hu h' e]; exact h4
  | fa h' off v =>
    obtain ⟨h1, h2, h4⟩ := h
    refine ⟨h1, ?_, ?_⟩
    · by_cases e : h' = d
      · subst e; omega
      · rw [hv h' e]; exact h2
    · by_cases e : h' = d
      · subst e; intro hh
        rcases hd with hd | ⟨hd, _, hd'⟩
        · omega
        · rw [hd']; exact h4 (by omega)
      · rw [hv h' e, hb h' e]; exact h4
  | ea h' off e' i j v =>
    obtain ⟨h1, h2, h4⟩ := h
    refine ⟨h1, ?_, ?_⟩
    · by_cases e : h' = d
      · subst e; unfold Ver.le at h2 ⊢; omega
      · rw [hv h' e]; exact h2
    · by_cases e : h' = d
      · subst e; intro hh; rw [hh] at hd; unfold Ver.le at h2; omega
      · rw [hv h' e, hu h' e]; exact h4
  | clo f caps =>
    obtain ⟨h1, h2, h4⟩ := h
    refine ⟨h1, fun p hp => ?_, fun hh => ?_⟩
    · by_cases e : p.1 = d
      · have := h2 p hp; rw [e] at this ⊢; omega
      · rw [hv _ e]; exact h2 p hp
    · have hall : ∀ p, p ∈ caps → (vers p.1).w = p.2 ∧ blk' p.1 = blk p.1 := fun p hp => by
        have h5 := hh p hp
        have h6 := h2 p hp
        by_cases e : p.1 = d
        · rw [e] at h5 h6 ⊢
          rcases hd with hd | ⟨hd, _, hd'⟩
          · omega
          · exact ⟨by omega, hd'⟩
        · rw [hv _ e] at h5; exact ⟨h5, hb _ e⟩
      rw [h4 fun p hp => (hall p hp).1]
      congr 2
      refine List.map_congr_left fun p hp => ?_
      rw [(hall p hp).2]
  | gv cs => simpa only [SlotRel, hu n hn] using h
  | gal g off k => simpa only [SlotRel, hg] using h
  | gbx e off k => simpa only [SlotRel, hg, hb n hn] using h
  | bld t e l => simpa only [SlotRel, hb n hn] using h
  | sub h' off e' lo hi v =>
    obtain ⟨h1, h2, h4⟩ := h
    refine ⟨h1, ?_, ?_⟩
    · by_cases e : h' = d
      · subst e; unfold Ver.le at h2 ⊢; omega
      · rw [hv h' e]; exact h2
    · by_cases e : h' = d
      · subst e; intro hh; rw [hh] at hd; unfold Ver.le at h2; omega
      · rw [hv h' e, hu h' e]; exact h4

theorem RelF.put {T : Tab} {G : Nat → Prop} {base : Bs} {nt : Nat} {σ : St} {a : Act} {w : World} {F : List Nat} {fp : Nat → List Nat} {us : Nat → List Value} {blk : Nat → Nat}
    (h : RelF T G base nt σ a w F fp us blk) {d : Nat} (hd : d < nt) (u : Value) (sv : SV) (v : Ver) (hv : (σ d).v.w < v.w) (fpn : List Nat) (usn : List Value) (bn : Nat) (hn : fpn.Nodup) (hF : ∀ b, b ∈ fpn → b ∈ F)
    (hs : SlotRel T w (Sh w fp F) (upd (fun n => (σ n).v) d v) (upd us d usn) (upd blk d bn) d u fpn sv) :
    RelF T G base nt (σ.set d ⟨sv, v⟩) (a.put (some d) u) w (F.filter fun b => !fpn.contains b) (upd fp d fpn) (upd us d usn) (upd blk d bn) := by
  have hSh : ∀ b, Sh w fp F b → Sh w (upd fp d fpn) (F.filter fun b => !fpn.contains b) b := fun b hb => by
    refine ⟨hb.1, fun n hm => ?_, fun hm => hb.2.2 (List.mem_filter.1 hm).1⟩
    by_cases e : n = d
    · subst e; rw [upd_at] at hm; exact hb.2.2 (hF b hm)
    · rw [upd_ne _ _ e] at hm; exact hb.2.1 n hm
  have hvers : (fun n => ((σ.set d ⟨sv, v⟩) n).v) = upd (fun n => (σ n).v) d v := by
    funext n
    by_cases e : n = d
    · subst e; rw [St.set_at, upd_at]
    · rw [St.set_ne _ _ e, upd_ne _ _ e]
  refine ⟨fun n => ?_, fun m n hmn b hb hb' => ?_, fun n b hb hm => ?_, fun n => ?_, fun n b hsv hb => ?_, fun b hb hn => h.low b hb fun n hm => by
      by_cases e : n = d
      · subst e; exact absurd (h.lo n b (.inr hd) hm) hb
      · exact hn n (by rw [upd_ne _ _ e]; exact hm), fun b hb => h.loF b (List.mem_filter.1 hb).1,
    fun b hb => h.ltF b (List.mem_filter.1 hb).1, h.ndF.filter _, h.top, (upd_ne _ _ (by have := h.gnt; omega)).trans h.gus, (by rw [St.set_ne _ _ (show gh ≠ d by have := h.gnt; omega)]; exact h.gsv), h.gnt, ?_, ?_, h.off, h.int⟩
  · rw [hvers]
    by_cases e : n = d
    · subst e
      rw [St.set_at, upd_at]
      have : (a.put (some n) u).tmps.getD n undef = u := by simp [Act.put, Array.getD_eq_getD_getElem?, h.size, hd]
      rw [this]
      exact hs.same (fun _ _ => rfl) hSh fun _ _ _ h => h
    · rw [St.set_ne _ _ e, upd_ne _ _ e]
      have : (a.put (some d) u).tmps.getD n undef = a.tmps.getD n undef := by
        simp [Act.put, Array.getD_eq_getD_getElem?, Array.getElem?_setIfInBounds_ne (Ne.symm e)]
      rw [this]
      exact ((h.slot n).same (fun _ _ => rfl) hSh fun _ _ _ h => h).other e (fun m hm => upd_ne _ _ hm) (.inl (by rw [upd_at]; exact hv)) (fun m hm => upd_ne _ _ hm) (fun m hm => upd_ne _ _ hm) (upd_ne _ _ (by have := h.gnt; omega))
  · by_cases e : m = d
    · subst e
      rw [upd_at] at hb
      rw [upd_ne _ _ (Ne.symm hmn)] at hb'
      exact h.dF n b hb' (hF b hb)
    · rw [upd_ne _ _ e] at hb
      by_cases e' : n = d
      · subst e'; rw [upd_at] at hb'; exact h.dF m b hb (hF b hb')
      · rw [upd_ne _ _ e'] at hb'; exact h.disj m n hmn b hb hb'
  · by_cases e : n = d
    · subst e
      rw [upd_at] at hb
      simpa [hb] using (List.mem_filter.1 hm).2
    · rw [upd_ne _ _ e] at hb; exact h.dF n b hb (List.mem_filter.1 hm).1
  · by_cases e : n = d
    · subst e; rw [upd_at]; exact hn
    · rw [upd_ne _ _ e]; exact h.nodup n
  · by_cases e : n = d
    · subst e; rw [upd_at] at hb; exact h.loF b (hF b hb)
    · rw [upd_ne _ _ e] at hb; rw [St.set_ne _ _ e] at hsv; exact h.lo n b hsv hb
  · simp [Act.put, h.size]
  · simpa [Act.put] using h.defers

theorem RelF.re {T : Tab} {G : Nat → Prop} {base : Bs} {nt : Nat} {σ : St} {a : Act} {w : World} {F : List Nat} {fp : Nat → List Nat} {us : Nat → List Value} {blk : Nat → Nat}
    (h : RelF T G base nt σ a w F fp us blk) (d : Nat) (hsd : (σ d).sv ≠ .dead) (sv : SV) (v : Ver) (hv : (σ d).v.w < v.w ∨ (v.w = (σ d).v.w ∧ (σ d).v.c < v.c)) (fpd : List Nat) (usd : List Value) (F2 : List Nat)
    (hn : fpd.Nodup) (hn2 : F2.Nodup) (hpart : ∀ b, b ∈ fpd ∨ b ∈ F2 → b ∈ fp d ∨ b ∈ F) (hdis : ∀ b, b ∈ fpd → b ∉ F2) (hgh : d = gh → usd = us d ∧ sv.ghost = true)
    (hs : SlotRel T w (Sh w fp F) (upd (fun n => (σ n).v) d v) (upd us d usd) blk d (a.tmps.getD d undef) fpd sv) :
    RelF T G base nt (σ.set d ⟨sv, v⟩) a w F2 (upd fp d fpd) (upd us d usd) blk := by
  have hSh : ∀ b, Sh w fp F b → Sh w (upd fp d fpd) F2 b := fun b hb => by
    refine ⟨hb.1, fun n hm => ?_, fun hm => (hpart b (.inr hm)).elim (hb.2.1 d) hb.2.2⟩
    by_cases e : n = d
    · subst e; rw [upd_at] at hm; exact (hpart b (.inl hm)).elim (hb.2.1 n) hb.2.2
    · rw [upd_ne _ _ e] at hm; exact hb.2.1 n hm
  have hvers : (fun n => ((σ.set d ⟨sv, v⟩) n).v) = upd (fun n => (σ n).v) d v := by
    funext n
    by_cases e : n = d
    · subst e; rw [St.set_at, upd_at]
    · rw [St.set_ne _ _ e, upd_ne _ _ e]
  refine ⟨fun n => ?_, fun m n hmn b hb hb' => ?_, fun n b hb hm => ?_, fun n => ?_, fun n b hsv hb => ?_, fun b hb hn => h.low b hb fun n hm => by
      by_cases e : n = d
      · subst e; exact absurd (h.lo n b (.inl hsd) hm) hb
      · exact hn n (by rw [upd_ne _ _ e]; exact hm), fun b hb => (hpart b (.inr hb)).elim (h.lo d b (.inl hsd)) (h.loF b),
    fun b hb => (hpart b (.inr hb)).elim (h.lt d b) (h.ltF b), hn2, h.top, (upd_gh fun e => (hgh e).1).trans h.gus, set_gh h.gsv fun e => (hgh e).2, h.gnt, h.size, h.defers, h.off, h.int⟩
  · rw [hvers]
    by_cases e : n = d
    · subst e
      rw [St.set_at, upd_at]
      exact hs.same (fun _ _ => rfl) hSh fun _ _ _ h => h
    · rw [St.set_ne _ _ e, upd_ne _ _ e]
      exact ((h.slot n).same (fun _ _ => rfl) hSh fun _ _ _ h => h).other e (fun m hm => upd_ne _ _ hm)
        (by rw [upd_at]; rcases hv with hv | ⟨h1, h2⟩; · exact .inl hv
            · exact .inr ⟨h1, h2, rfl⟩) (fun m hm => upd_ne _ _ hm) (fun m hm => rfl) (upd_gh fun e => (hgh e).1)
  · by_cases e : m = d
    · subst e
      rw [upd_at] at hb
      rw [upd_ne _ _ (Ne.symm hmn)] at hb'
      exact (hpart b (.inl hb)).elim (fun hx => h.disj m n hmn b hx hb') (h.dF n b hb')
    · rw [upd_ne _ _ e] at hb
      by_cases e' : n = d
      · subst e'; rw [upd_at] at hb'; exact (hpart b (.inl hb')).elim (h.disj m n hmn b hb) (h.dF m b hb)
      · rw [upd_ne _ _ e'] at hb'; exact h.disj m n hmn b hb hb'
  · by_cases e : n = d
    · subst e; rw [upd_at] at hb; exact hdis b hb hm
    · rw [upd_ne _ _ e] at hb; exact (hpart b (.inr hm)).elim (h.disj n d e b hb) (h.dF n b hb)
  · by_cases e : n = d
    · subst e; rw [upd_at]; exact hn
    · rw [upd_ne _ _ e]; exact h.nodup n
  · by_cases e : n = d
    · subst e; rw [upd_at] at hb; exact (hpart b (.inl hb)).elim (h.lo n b (.inl hsd)) (h.loF b)
    · rw [upd_ne _ _ e] at hb; rw [St.set_ne _ _ e] at hsv; exact h.lo n b hsv hb

end Go.Proofs.Ytabdjbkbfilhkaa.V
