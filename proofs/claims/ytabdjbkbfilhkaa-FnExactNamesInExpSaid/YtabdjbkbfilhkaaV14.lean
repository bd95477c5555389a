import Derived.Test.YtabdjbkbfilhkaaV13
namespace Go.Proofs.Ytabdjbkbfilhkaa.V
open Go Go.RowKit

def shCells (l : List (CT × TC)) : List Cell := l.map fun p => ⟨p.1, .sh, p.2⟩
def ArgRel (T : Tab) (w : World) (S : Nat → Prop) (a : Arg) (u : Value) : Prop := ∃ us, u = mkv a.1 us ∧ CellsRel T w S (shCells a.2) us [] ∧ (a.1 = false → a.2.length = 1)
inductive ArgsRel (T : Tab) (w : World) (S : Nat → Prop) : List Arg → List Value → Prop
  | nil : ArgsRel T w S [] []
  | cons {a : Arg} {u : Value} {as : List Arg} {us : List Value} : ArgRel T w S a u → ArgsRel T w S as us → ArgsRel T w S (a :: as) (u :: us)

def ResRel (T : Tab) (w : World) (S : Nat → Prop) (r : Res) (v : Value) (fq : List Nat) : Prop :=
  (match r with
    | [(g, cs)] => ∃ us, v = mkv g us ∧ CellsRel T w S cs us fq ∧ (g = false → cs.length = 1)
    | r => ∃ uw : List Value, v = .tuple uw.toArray ∧ TupRel T w S r uw fq) ∧ ∀ x, x ∈ r → x.2.any Cell.isGone = false

def Answers (P : Program) (f : FuncId) (vals : Array Value) (w : World) (R : Value → World → Prop) : Prop :=
  ∀ (o : Oper) (a : Act) (next : Act → World → Prop) (Q : Exit → Act → World → Prop), (∀ v w', R v w' → next (a.put o.dst v) w') → o.upon P a next Q ((callFunc f vals).run P w)

structure MethOk (P : Program) (T : Tab) : Prop where
  ty : BldTy P T
  write : ∀ (g : FuncId) (t e : TypeId) (w : World) (b : Nat) (l s : List UInt8) (fp : List Nat), (T (fnBase + g)).kind = .meth 1 → IsBld T w t e b l fp → fp.Nodup → l.length + s.length ≤ 140737488355328 →
    Answers P g #[.pointer (some ⟨b, 0, none⟩), .string ⟨s.toArray⟩] w fun _ w' => ∃ fp', IsBld T w' t e b (l ++ s) fp' ∧ fp'.Nodup ∧ (∀ x, x ∈ fp' → x ∈ fp ∨ (w.heap.size ≤ x ∧ x < w'.heap.size)) ∧ Chg w w' fp
  read : ∀ (g : FuncId) (t e : TypeId) (w : World) (b : Nat) (l : List UInt8) (fp : List Nat), (T (fnBase + g)).kind = .meth 2 → IsBld T w t e b l fp →
    Answers P g #[.pointer (some ⟨b, 0, none⟩)] w fun v w' => v = .string ⟨l.toArray⟩ ∧ Chg w w' fp
  len : ∀ (g : FuncId) (t e : TypeId) (w : World) (b : Nat) (l : List UInt8) (fp : List Nat), (T (fnBase + g)).kind = .meth 3 → IsBld T w t e b l fp →
    Answers P g #[.pointer (some ⟨b, 0, none⟩)] w fun v w' => v = .int .i64 (l.length : Int) ∧ Chg w w' []

structure DOk (P : Program) (T : Tab) (D : FuncId → List Arg → Option (Bool × Res)) : Prop where
  plain : ∀ (f : FuncId) (as : List Arg) (r : Res), D f as = some (true, r) → ∀ (w : World) (S : Nat → Prop) (vals : List Value), Fit T w S → ArgsRel T w S as vals →
    Answers P f vals.toArray w fun v w' => ∃ fq, ResRel T w' (fun b => b < w'.heap.size ∧ (S b ∨ w.heap.size ≤ b) ∧ b ∉ fq) r v fq ∧ fq.Nodup ∧ (∀ b, b ∈ fq → w.heap.size ≤ b ∧ b < w'.heap.size) ∧ Below w.heap.size w w'
  wri : ∀ (g : FuncId) (a0 : Arg) (as : List Arg) (gg : Bool) (ds : List Cell) (r : Res), D g (mark :: a0 :: as) = some (true, (gg, ds) :: r) → ∀ (w : World) (S : Nat → Prop) (us0 : List Value) (fp0 : List Nat) (vals : List Value), FitW T w S fp0 →
    CellsRel T w S (ownCells a0.2) us0 fp0 → (a0.1 = false → a0.2.length = 1) → fp0.Nodup → (∀ b, b ∈ fp0 → ¬ S b) → ArgsRel T w S as vals →
    Answers P g (mkv a0.1 us0 :: vals).toArray w fun v w' => ∃ (S1 : Nat → Prop) (fp' fq : List Nat), CellsRel T w' S1 ds us0 fp' ∧ ResRel T w' S1 r v fq ∧ (fp' ++ fq).Nodup ∧ (∀ b, b ∈ fp' ++ fq → (b ∈ fp0 ∨ w.heap.size ≤ b) ∧ b < w'.heap.size) ∧ Chg w w' fp0
  meth : MethOk P T

section
variable {P : Program} {T : Tab} {G : Nat → Prop} {base : Bs} {nt : Nat} {σ : St} {a : Act} {w w' : World} {F : List Nat} {fp : Nat → List Nat} {us : Nat → List Value} {blk : Nat → Nat} {D : FuncId → List Arg → Option (Bool × Res)}
  {K : Act → World → Prop} {Q : Exit → Act → World → Prop} {o : Oper} {S S' : Nat → Prop}

theorem shared_of {ds : List Cell} {vs : List Value} {fq : List Nat} (h : CellsRel T w S ds vs fq) (hg : ds.any Cell.isGone = false) (h1 : ∀ b, b ∈ fq → S' b) (h2 : ∀ b, S b → S' b) :
    CellsRel T w S' (shCells (ds.map fun c => (c.ct, c.c))) vs [] := by
  induction h with
  | nil => exact .nil
  | @cons c cs u us fp fp' h _ ih =>
    simp only [List.any_cons, Bool.or_eq_false_iff] at hg
    have := CellsRel.cons (T := T) (w := w) (S := S') (c := ⟨c.ct, .sh, c.c⟩) (u := u) (fp := []) (fp' := []) ⟨h.toRep hg.1 (fun b hb => h1 b (List.mem_append_left _ hb)) h2, rfl⟩ (ih hg.2 fun b hb => h1 b (List.mem_append_right _ hb))
    exact this

theorem ArgRel.mono {x : Arg} {u : Value} (h : ArgRel T w S x u) (hS : ∀ b, S b → S' b) : ArgRel T w S' x u := by
  obtain ⟨us, h1, h2, h3⟩ := h
  exact ⟨us, h1, h2.same (fun _ _ => rfl) hS (fun _ _ _ h => h), h3⟩
theorem ArgsRel.mono {as : List Arg} {us : List Value} (h : ArgsRel T w S as us) (hS : ∀ b, S b → S' b) : ArgsRel T w S' as us := by
  induction h with
  | nil => exact .nil
  | cons h _ ih => exact .cons (h.mono hS) ih
theorem ArgsRel.append {as bs : List Arg} {us vs : List Value} (h : ArgsRel T w S as us) (k : ArgsRel T w S bs vs) : ArgsRel T w S (as ++ bs) (us ++ vs) := by
  induction h with
  | nil => exact k
  | cons h _ ih => exact .cons h ih

theorem arg_one {ct : CT} {c : TC} {u : Value} (h : RepC T w S ct u c) : ArgRel T w S (false, [(ct, c)]) u :=
  ⟨[u], rfl, .cons (fp := []) (fp' := []) ⟨h, rfl⟩ .nil, fun _ => rfl⟩

abbrev There (w : World) (b : Nat) : Prop := b < w.heap.size

theorem box_repS {h : Nat} {off : Nat} {e t : TypeId} {cs : List Cell} (hF : RelF T G base nt σ a w F fp us blk) (hS1 : ∀ b, b ∈ fp h → S' b) (hS2 : ∀ b, Sh w fp F b → S' b) (hsv : (σ h).sv = .bx t cs) (hct : ctsOf ((cs.drop off).take (T e).cts.length) = (T e).cts) (hg : ((cs.drop off).take (T e).cts.length).any Cell.isGone = false) :
    RepC T w (S') (.ptr e) (.pointer (some ⟨blk h, off, none⟩)) (.p (rawRow ((cs.drop off).take (T e).cts.length))) := by
  have hs := hF.slot h
  rw [hsv] at hs
  obtain ⟨hp, hb, ⟨fq, hfq, hc⟩, hty⟩ := hs
  obtain ⟨f1, f2, f3, hf, c1, c2, c3⟩ := hc.sub off (T e).cts.length
  have hlen : ((cs.drop off).take (T e).cts.length).length = (T e).cts.length := by rw [← ctsOf_length, hct]
  have hsh := shared_of (S' := S') c2 hg (fun b hb' => hS1 b (by rw [hfq, hf]; simp [hb'])) hS2
  have hpt : ∀ {l : List Cell} {vs : List Value}, CellsRel T w (S') (shCells (l.map fun c => (c.ct, c.c))) vs [] → ∀ k, k < l.length → RepC T w (S') ((ctsOf l).getD k .bool) (vs.getD k undef) (nth (rawRow l) k) := by
    intro l
    induction l with
    | nil => intro vs _ k hk; simp at hk
    | cons c l ih =>
      intro vs h k hk
      generalize hq : ([] : List Nat) = fq0 at h
      cases h with
      | cons h1 h2 =>
        rename_i fa fb
        have hfa : fa = [] := by cases fa with | nil => rfl | cons => simp at hq
        have hfb : fb = [] := by rw [hfa] at hq; exact hq.symm
        subst hfa hfb
        cases k with
        | zero => exact h1.1
        | succ k =>
          have := ih h2 k (by simpa using hk)
          simpa [ctsOf, rawRow, nth] using this
  refine .ptr e _ _ (fun k => (((us h).drop off).take (T e).cts.length).getD k undef) (by simp only [rawRow, List.length_map]; exact hlen) (fun k hk => ⟨hS1 _ (by rw [hfq]; exact List.mem_cons_self), ?_⟩) (fun k hk => ?_)
  · rw [add_at, hb.cell]
    have hl : (((us h).drop off).take (T e).cts.length).length = (T e).cts.length := by rw [c2.length, hlen]
    have hlt : off + k < (us h).length := by rw [List.length_take, List.length_drop] at hl; omega
    rw [getD_take_drop _ _ _ _ _ hk, List.getD_eq_getElem?_getD, List.getElem?_eq_getElem hlt]
    rfl
  · have := hpt hsh k (by rw [hlen]; exact hk)
    rw [hct] at this
    exact this

theorem box_rep {h : Nat} {off : Nat} {e t : TypeId} {cs : List Cell} (hF : RelF T G base nt σ a w F fp us blk) (hsv : (σ h).sv = .bx t cs) (hct : ctsOf ((cs.drop off).take (T e).cts.length) = (T e).cts) (hg : ((cs.drop off).take (T e).cts.length).any Cell.isGone = false) :
    RepC T w (There w) (.ptr e) (.pointer (some ⟨blk h, off, none⟩)) (.p (rawRow ((cs.drop off).take (T e).cts.length))) :=
  box_repS hF (fun b hb => hF.lt h b hb) (fun _ h => h.1) hsv hct hg

theorem boxPtr_sound {h off : Nat} {e : TypeId} {cs : List TC} (hF : RelF T G base nt σ a w F fp us blk) (he : (boxPtr h off T e).ev D σ = some cs) : RepC T w (There w) (.ptr e) (.pointer (some ⟨blk h, off, none⟩)) (.p cs) := by
  unfold boxPtr at he
  simp only [R.ev_bind] at he
  obtain ⟨⟨t, cc, v⟩, h1, h2⟩ := Option.bind_eq_some_iff.1 he
  obtain ⟨hsv, _⟩ := boxAt_ev h1
  dsimp only at h2
  split at h2
  · simp at h2
  · rename_i hct
    split at h2
    · simp at h2
    · rename_i hg
      simp only [R.ev_pure, Option.some.injEq] at h2
      subst h2
      exact box_rep hF hsv (by simpa using hct) (by simpa using hg)

theorem boxPtr_soundS {h off : Nat} {e : TypeId} {cs : List TC} (hF : RelF T G base nt σ a w F fp us blk) (hS1 : ∀ b, b ∈ fp h → S' b) (hS2 : ∀ b, Sh w fp F b → S' b) (he : (boxPtr h off T e).ev D σ = some cs) : RepC T w S' (.ptr e) (.pointer (some ⟨blk h, off, none⟩)) (.p cs) := by
  unfold boxPtr at he
  simp only [R.ev_bind] at he
  obtain ⟨⟨t, cc, v⟩, h1, h2⟩ := Option.bind_eq_some_iff.1 he
  obtain ⟨hsv, _⟩ := boxAt_ev h1
  dsimp only at h2
  split at h2
  · simp at h2
  · rename_i hct
    split at h2
    · simp at h2
    · rename_i hg
      simp only [R.ev_pure, Option.some.injEq] at h2
      subst h2
      exact box_repS hF hS1 hS2 hsv (by simpa using hct) (by simpa using hg)

theorem capsOf_soundS (hF : RelF T G base nt σ a w F fp us blk) (hS2 : ∀ b, Sh w fp F b → S' b) : ∀ {caps : List (Nat × Nat)} {cs : List (TypeId × List TC)}, (∀ p, p ∈ caps → ∀ b, b ∈ fp p.1 → S' b) → (capsOf T caps).ev D σ = some cs →
    (∀ p, p ∈ caps → (σ p.1).v.w = p.2) ∧ cs.length = caps.length ∧ (∀ j, j < cs.length → RepC T w (S') (.ptr (cs.getD j (0, [])).1) (.pointer (some ⟨blk (caps.getD j (0, 0)).1, 0, none⟩)) (.p (cs.getD j (0, [])).2)) ∧
      ArgsRel T w (S') (cs.map capArg) (caps.map fun p => Value.pointer (some ⟨blk p.1, 0, none⟩))
  | [], cs, _, he => by
    simp only [capsOf, R.ev_pure, Option.some.injEq] at he
    subst he
    exact ⟨(fun _ h => by cases h), rfl, (fun _ h => by cases h), .nil⟩
  | (h, v) :: rest, cs, hS1, he => by
    simp only [capsOf, R.ev_bind, R.ev_slot, Option.bind_some] at he
    split at he
    · rename_i e cc hsv
      split at he
      · rename_i hc
        obtain ⟨hv, hg⟩ := hc
        simp only [R.ev_bind] at he
        obtain ⟨r, h1, h2⟩ := Option.bind_eq_some_iff.1 he
        simp only [R.ev_pure, Option.some.injEq] at h2
        subst h2
        obtain ⟨q1, q2, q3, q4⟩ := capsOf_soundS hF hS2 (fun p hp => hS1 p (List.mem_cons_of_mem _ hp)) h1
        have hs := hF.slot h
        rw [hsv] at hs
        have hty := hs.2.2.2
        have hlen : cc.length = (T e).cts.length := by rw [← ctsOf_length, hty]
        have htake : (cc.drop 0).take (T e).cts.length = cc := by rw [List.drop_zero, ← hlen, List.take_length]
        have hr := box_repS (off := 0) (e := e) hF (hS1 _ List.mem_cons_self) hS2 hsv (by rw [htake]; exact hty) (by rw [htake]; exact hg)
        rw [htake] at hr
        refine ⟨fun p hp => ?_, by simp [q2], fun j hj => ?_, ?_⟩
        · rcases List.mem_cons.1 hp with rfl | hp
          · exact hv
          · exact q1 p hp
        · cases j with
          | zero => simpa using hr
          | succ j => simpa using q3 j (by simpa using hj)
        · exact .cons (arg_one hr) q4
      · simp at he
    · simp at he

theorem capsOf_sound (hF : RelF T G base nt σ a w F fp us blk) {caps : List (Nat × Nat)} {cs : List (TypeId × List TC)} (he : (capsOf T caps).ev D σ = some cs) :
    (∀ p, p ∈ caps → (σ p.1).v.w = p.2) ∧ cs.length = caps.length ∧ (∀ j, j < cs.length → RepC T w (There w) (.ptr (cs.getD j (0, [])).1) (.pointer (some ⟨blk (caps.getD j (0, 0)).1, 0, none⟩)) (.p (cs.getD j (0, [])).2)) ∧
      ArgsRel T w (There w) (cs.map capArg) (caps.map fun p => Value.pointer (some ⟨blk p.1, 0, none⟩)) :=
  capsOf_soundS hF (fun _ h => h.1) (fun p _ b hb => hF.lt p.1 b hb) he

theorem fitAll_arg {g : Bool} {cts : List CT} {cs ds : List Cell} {vs : List Value} {fq : List Nat} {u : Value} (hu : u = mkv g vs) (hc : CellsRel T w S cs vs fq) (hg : cs.any Cell.isGone = false) (hl : g = false → cs.length = 1) (hf : fitAll cts cs = some ds)
    (h1 : ∀ b, b ∈ fq → S' b) (h2 : ∀ b, S b → S' b) : ArgRel T w S' (rawArg g ds) u := by
  obtain ⟨k1, k2, k3, _⟩ := fitAll_rel hc hg hf
  refine ⟨vs, hu, shared_of k1 k3 h1 h2, fun h => ?_⟩
  have := hl h
  have e1 := hc.length
  have e2 := k1.length
  simp only [rawArg, List.length_map]
  omega

theorem lend_sound (hF : RelF T G base nt σ a w [] fp us blk) {x : Operand} {t : TypeId} {ar : Arg} {s : Bool} (he : (lend T x t).ev D σ = some (ar, s)) :
    ArgRel T w (There w) ar (a.eval x) ∧ (s = true → ArgRel T w (Sh w fp []) ar (a.eval x)) := by
  have hST : ∀ b, Sh w fp [] b → There w b := fun b hb => hb.1
  unfold lend at he
  split at he
  · rename_i f
    simp only [R.ev_pure, Option.some.injEq, Prod.mk.injEq] at he
    obtain ⟨rfl, rfl⟩ := he
    have : ∀ S : Nat → Prop, ArgRel T w S (false, [(.func, .f f [])]) (a.eval (.func f)) := fun S => arg_one (.func f [] (fun _ => undef) (fun _ h => by cases h))
    exact ⟨this _, fun _ => this _⟩
  · rename_i v
    simp only [R.ev_bind, R.ev_opt] at he
    obtain ⟨⟨g, cs⟩, h1, h2⟩ := Option.bind_eq_some_iff.1 he
    obtain ⟨ds, h3, h4⟩ := Option.bind_eq_some_iff.1 h2
    simp only [R.ev_pure, Option.some.injEq, Prod.mk.injEq] at h4
    obtain ⟨rfl, rfl⟩ := h4
    unfold peek at h1
    dsimp only at h1
    split at h1
    · rename_i g' cs' hv
      simp at h1
      obtain ⟨rfl, rfl⟩ := h1
      obtain ⟨rfl, hc, hg, hl, _⟩ := valueSV_sound (T := T) (w := w) hv (Sh w fp [])
      have : ∀ S' : Nat → Prop, (∀ b, Sh w fp [] b → S' b) → ArgRel T w S' (rawArg false ds) v := fun S' hS' => fitAll_arg (vs := [v]) rfl hc hg (fun _ => hl) h3 (fun _ h => by cases h) hS'
      exact ⟨this _ hST, fun _ => this _ fun _ h => h⟩
    · simp at h1
  · rename_i n
    simp only [R.ev_bind, R.ev_view, Option.bind_some] at he
    have key : ∀ {m : R (Arg × Bool)}, m = (do
        let (g, cs) ← peek (.tmp n)
        let ds ← R.opt (fitAll (T t).cts cs)
        pure (rawArg g ds, cs.all Cell.free)) → m.ev D σ = some (ar, s) → ArgRel T w (There w) ar (a.eval (.tmp n)) ∧ (s = true → ArgRel T w (Sh w fp []) ar (a.eval (.tmp n))) := by
      intro m hm he
      subst hm
      simp only [R.ev_bind, R.ev_opt] at he
      obtain ⟨⟨g, cs⟩, h1, h2⟩ := Option.bind_eq_some_iff.1 he
      obtain ⟨ds, h3, h4⟩ := Option.bind_eq_some_iff.1 h2
      simp only [R.ev_pure, Option.some.injEq, Prod.mk.injEq] at h4
      obtain ⟨rfl, rfl⟩ := h4
      obtain ⟨vs, fq, hu, hc, hg, hl, n0, hn0⟩ := peek_sound hF h1
      refine ⟨fitAll_arg hu hc hg hl h3 (fun b hb => hF.lt n0 b (hn0 b hb)) hST, fun hs => fitAll_arg hu hc hg hl h3 (fun b hb => ?_) fun _ h => h⟩
      rw [hc.free_nil hs] at hb
      cases hb
    have hs := hF.view n
    split at he
    · exact key rfl he
    · exact key rfl he
    · rename_i e cc hsv
      rw [hsv] at hs
      split at he
      · simp only [R.ev_bind] at he
        obtain ⟨cs, h1, h2⟩ := Option.bind_eq_some_iff.1 he
        simp only [R.ev_pure, Option.some.injEq, Prod.mk.injEq] at h2
        obtain ⟨rfl, rfl⟩ := h2
        have := boxPtr_sound hF h1
        rw [show a.eval (.tmp n) = _ from hs.1]
        exact ⟨arg_one this, fun h => by cases h⟩
      · simp at he
    · rename_i h' off v hsv
      rw [hsv] at hs
      split at he
      · simp only [R.ev_bind, R.ev_slot, Option.bind_some] at he
        split at he
        · rename_i hv
          simp only [R.ev_bind] at he
          obtain ⟨cs, h1, h2⟩ := Option.bind_eq_some_iff.1 he
          simp only [R.ev_pure, Option.some.injEq, Prod.mk.injEq] at h2
          obtain ⟨rfl, rfl⟩ := h2
          have := boxPtr_sound hF h1
          rw [show a.eval (.tmp n) = _ from hs.2.2 hv]
          exact ⟨arg_one this, fun h => by cases h⟩
        · simp at he
      · simp at he
    · rename_i f caps hsv
      rw [hsv] at hs
      simp only [R.ev_bind] at he
      obtain ⟨cs, h1, h2⟩ := Option.bind_eq_some_iff.1 he
      simp only [R.ev_pure, Option.some.injEq, Prod.mk.injEq] at h2
      obtain ⟨rfl, rfl⟩ := h2
      obtain ⟨q1, q2, q3, q4⟩ := capsOf_sound hF h1
      rw [show a.eval (.tmp n) = _ from hs.2.2 q1]
      have hmap : (caps.map fun p => Value.pointer (some ⟨blk p.1, 0, none⟩)) = (List.range cs.length).map fun j => Value.pointer (some ⟨blk (caps.getD j (0, 0)).1, 0, none⟩) := by
        apply List.ext_getElem
        · simp [q2]
        · intro i h1 h2
          have hi : i < caps.length := by simpa using h1
          simp [List.getElem?_eq_getElem hi]
      rw [hmap]
      refine ⟨arg_one (.func f cs _ q3), fun h => ?_⟩
      have hnil : caps = [] := by simpa using h
      subst hnil
      have hcn : cs = [] := by apply List.eq_nil_of_length_eq_zero; simpa using q2
      subst hcn
      exact arg_one (.func f [] _ (fun _ h => by cases h))
    · simp at he
  · simp at he

theorem lendAll_sound (hF : RelF T G base nt σ a w [] fp us blk) : ∀ {l : List (Operand × TypeId)} {as : List Arg} {s : Bool}, (lendAll T l).ev D σ = some (as, s) →
    ArgsRel T w (There w) as (l.map fun p => a.eval p.1) ∧ (s = true → ArgsRel T w (Sh w fp []) as (l.map fun p => a.eval p.1))
  | [], as, s, he => by
    simp only [lendAll, R.ev_pure, Option.some.injEq, Prod.mk.injEq] at he
    obtain ⟨rfl, rfl⟩ := he
    exact ⟨.nil, fun _ => .nil⟩
  | (x, t) :: rest, as, s, he => by
    simp only [lendAll, R.ev_bind] at he
    obtain ⟨⟨ar, s1⟩, h1, h2⟩ := Option.bind_eq_some_iff.1 he
    obtain ⟨⟨as', s2⟩, h3, h4⟩ := Option.bind_eq_some_iff.1 h2
    simp only [R.ev_pure, Option.some.injEq, Prod.mk.injEq] at h4
    obtain ⟨rfl, rfl⟩ := h4
    obtain ⟨p1, p2⟩ := lend_sound hF h1
    obtain ⟨q1, q2⟩ := lendAll_sound hF h3
    refine ⟨.cons p1 q1, fun h => ?_⟩
    simp only [Bool.and_eq_true] at h
    exact .cons (p2 h.1) (q2 h.2)

theorem calleeOf_sound (hF : RelF T G base nt σ a w [] fp us blk) {f : Operand} {g : FuncId} {caps : List (TypeId × List TC)} {s : Bool} (he : (calleeOf T f).ev D σ = some (g, caps, s)) :
    ∃ cv : List Value, a.eval f = .func (.func g) #[] cv.toArray ∧ ArgsRel T w (There w) (caps.map capArg) cv ∧ (s = true → ArgsRel T w (Sh w fp []) (caps.map capArg) cv) := by
  unfold calleeOf at he
  split at he
  · simp only [R.ev_pure, Option.some.injEq, Prod.mk.injEq] at he
    obtain ⟨rfl, rfl, rfl⟩ := he
    exact ⟨[], rfl, .nil, fun _ => .nil⟩
  · rename_i t
    simp only [R.ev_bind, R.ev_slot, Option.bind_some] at he
    have hs := hF.slot t
    split at he
    · rename_i g' cps hsv
      rw [hsv] at hs
      simp only [R.ev_bind] at he
      obtain ⟨cs, h1, h2⟩ := Option.bind_eq_some_iff.1 he
      simp only [R.ev_pure, Option.some.injEq, Prod.mk.injEq] at h2
      obtain ⟨rfl, rfl, rfl⟩ := h2
      obtain ⟨q1, q2, q3, q4⟩ := capsOf_sound hF h1
      refine ⟨_, hs.2.2 q1, q4, fun h => ?_⟩
      have hnil : cps = [] := by simpa using h
      subst hnil
      have hcn : cs = [] := by apply List.eq_nil_of_length_eq_zero; simpa using q2
      subst hcn
      exact .nil
    · rename_i d hsv
      rw [hsv] at hs
      split at he
      · rename_i g' cs hct hc
        split at he
        · rename_i hfl
          simp only [R.ev_pure, Option.some.injEq, Prod.mk.injEq] at he
          obtain ⟨rfl, rfl, rfl⟩ := he
          obtain ⟨hu, hcr, _⟩ := hs
          obtain ⟨u1, hu1, hm⟩ := mkv_false_one (us := us t) (by rw [hcr.length]; rfl)
          rw [hu1] at hcr
          generalize fp t = ft at hcr
          cases hcr with
          | cons h1 h2 =>
            unfold CellRel at h1
            rw [hfl, hct, hc] at h1
            have h1 := h1.1
            have hev : a.eval (.tmp t) = u1 := by rw [eval_tmp, hu, hm]
            rw [hev]
            cases h1 with
            | func _ _ vs h3 =>
              have hall : ArgsRel T w (Sh w fp []) (cs.map capArg) ((List.range cs.length).map vs) := by
                have gen : ∀ (l : List (TypeId × List TC)) (vs : Nat → Value), (∀ j, j < l.length → RepC T w (Sh w fp []) (.ptr (l.getD j (0, [])).1) (vs j) (.p (l.getD j (0, [])).2)) → ArgsRel T w (Sh w fp []) (l.map capArg) ((List.range l.length).map vs) := by
                  intro l
                  induction l with
                  | nil => intro vs _; exact .nil
                  | cons p l ih =>
                    intro vs h
                    rw [List.length_cons, List.range_succ_eq_map, List.map_cons, List.map_cons, List.map_map]
                    refine .cons (arg_one ?_) (ih (vs ∘ Nat.succ) fun j hj => ?_)
                    · simpa using h 0 (by simp)
                    · simpa using h (j + 1) (by simpa using hj)
                exact gen cs vs h3
              exact ⟨_, rfl, hall.mono (fun b hb => hb.1), fun _ => hall⟩
        · simp at he
      · simp at he
    · simp at he
  · simp at he

theorem deep_any {cs : List Cell} {us : List Value} {fq : List Nat} (h : CellsRel T w S cs us fq) (hd : cs.all Cell.deep = true) (hg : cs.any Cell.isGone = false) : CellsRel T w S' cs us fq := by
  induction h with
  | nil => exact .nil
  | @cons c cs u us fp fp' h _ ih =>
    simp only [List.all_cons, Bool.and_eq_true] at hd
    simp only [List.any_cons, Bool.or_eq_false_iff] at hg
    refine .cons ?_ (ih hd.2 hg.2)
    have h1 := h.ofDeep hd.1 hg.1
    unfold CellRel
    split
    · rename_i hf
      have hm : c.ct.mem = false := by
        have := hd.1
        unfold Cell.deep at this
        rw [hf] at this
        simpa using this
      exact ⟨(h.toRep (S' := fun b => S b ∨ b ∈ fp) hg.1 (fun b hb => .inr hb) (fun b hb => .inl hb)).flat hm, h.mem_nil hm⟩
    · exact h1
    · rename_i hf
      have hm : c.ct.mem = false := by
        have := hd.1
        unfold Cell.deep at this
        rw [hf] at this
        simpa using this
      have hn := h.mem_nil hm
      rw [hn]
      exact .flat _ _ _ hm ((h.toRep (S' := fun b => S b ∨ b ∈ fp) hg.1 (fun b hb => .inr hb) (fun b hb => .inl hb)).flat hm)
    · rename_i hf
      have := hg.1
      simp [Cell.isGone, hf] at this

theorem deep_gone {cs : List Cell} {us : List Value} {fq : List Nat} (h : CellsRel T w S cs us fq) (hd : (cs.all fun c => c.deep || c.isGone) = true) : CellsRel T w S' cs us fq := by
  induction h with
  | nil => exact .nil
  | @cons c cs u us fp fp' h _ ih =>
    simp only [List.all_cons, Bool.and_eq_true] at hd
    refine .cons ?_ (ih hd.2)
    cases hg : c.isGone with
    | true =>
      have hfl : c.fl = .gone := by simpa [Cell.isGone] using hg
      unfold CellRel at h ⊢
      rw [hfl] at h ⊢
      exact h
    | false =>
      have hdp : c.deep = true := by simpa [hg] using hd.1
      have h1 := deep_any (S' := S') (.cons h .nil) (by simpa using hdp) (by simpa using hg)
      rw [List.append_nil] at h1
      generalize hq : fp = q at h1
      cases h1 with
      | cons h2 h3 =>
        cases h3
        rw [List.append_nil]
        rename_i f1
        rw [List.append_nil] at hq
        exact h2

theorem tup_any {vs : List (Bool × List Cell)} {us : List Value} {fq : List Nat} (h : TupRel T w S vs us fq) (hd : resOwn vs = true) (hg : ∀ x, x ∈ vs → x.2.any Cell.isGone = false) : TupRel T w S' vs us fq := by
  induction h with
  | nil => exact .nil
  | @cons g cs vs us ws fp fp' h hl _ ih =>
    simp only [resOwn, List.all_cons, Bool.and_eq_true] at hd
    exact .cons (deep_any h hd.1 (hg (g, cs) (by simp))) hl (ih hd.2 fun x hx => hg x (by simp [hx]))

theorem ResRel.mono {r : Res} {v : Value} {fq : List Nat} (h : ResRel T w S r v fq) (hS : ∀ b, S b → S' b) : ResRel T w S' r v fq := by
  obtain ⟨h, hg⟩ := h
  refine ⟨?_, hg⟩
  split at h
  · obtain ⟨us, h1, h2, h3⟩ := h
    exact ⟨us, h1, h2.same (fun _ _ => rfl) hS (fun _ _ _ h => h), h3⟩
  · obtain ⟨uw, h1, h2⟩ := h
    exact ⟨uw, h1, h2.same (fun _ _ => rfl) hS (fun _ _ _ h => h)⟩

theorem ResRel.any {r : Res} {v : Value} {fq : List Nat} (h : ResRel T w S r v fq) (hd : resOwn r = true) : ResRel T w S' r v fq := by
  obtain ⟨h, hg⟩ := h
  refine ⟨?_, hg⟩
  split at h
  · rename_i g cs
    obtain ⟨us, h1, h2, h3⟩ := h
    simp only [resOwn, List.all_cons, List.all_nil, Bool.and_true] at hd
    exact ⟨us, h1, deep_any h2 hd (hg (g, cs) (by simp)), h3⟩
  · obtain ⟨uw, h1, h2⟩ := h
    exact ⟨uw, h1, tup_any h2 hd hg⟩

theorem finish_res {ws : Ws} {r : Res} {v : Value} {fq : List Nat} {dst : Option Tmp} (h : RelF T G base nt σ a w fq fp us blk) (hp : (put dst (resSV r)).ev D σ = some ws) (hd : ∀ d, dst = some d → d < nt) (hr : ResRel T w (Sh w fp fq) r v fq) (hn : fq.Nodup) :
    Rel T G base nt (σ.setAll ws) (a.put dst v) w := by
  have h0 : RelF T G base nt (σ.setAll []) a w fq fp us blk := h
  obtain ⟨hr, hg⟩ := hr
  unfold resSV at hp
  split at hr
  · rename_i g cs
    obtain ⟨us', rfl, h2, h3⟩ := hr
    exact finish_val h0 hp hd h2 hn (fun _ h => h) h3
  · rename_i hne
    obtain ⟨uw, rfl, h2⟩ := hr
    split at hp
    · rename_i g cs
      exact absurd rfl (hne g cs)
    · exact finish_tup h0 hp hd h2 hn (fun _ h => h)

theorem op_call {ws : Ws} {c : Call} {f : Operand} (hD : DOk P T D) (ho : o.op = .call c) (hcl : c.callee = .value f) (hmf : methOf T f = .none) (h : Rel T G base nt σ a w) (hd : ∀ d, o.dst = some d → d < nt)
    (he : (opR T o).ev D σ = some ws) (hK : ∀ a' w', Rel T G base nt (σ.setAll ws) a' w' → Bel base w w' → K a' w') : o.wp P a w K Q := by
  unfold opR at he
  simp only [ho, hcl, hmf, R.ev_bind] at he
  obtain ⟨fp, us, blk, hF⟩ := h
  obtain ⟨sv, h1, hp⟩ := Option.bind_eq_some_iff.1 he
  clear he
  unfold doCall at h1
  simp only [hcl, R.ev_bind] at h1
  obtain ⟨⟨g, caps, sh0⟩, h2, h3⟩ := Option.bind_eq_some_iff.1 h1
  obtain ⟨⟨as, sh⟩, h4, h5⟩ := Option.bind_eq_some_iff.1 h3
  clear h1 h3
  dsimp only at h5
  split at h5
  · rename_i hsz
    rw [R.ev_call] at h5
    obtain ⟨⟨pre, r⟩, h6, h7⟩ := Option.bind_eq_some_iff.1 h5
    cases pre with
    | false => cases h7
    | true =>
    dsimp only at h7
    rw [if_pos rfl] at h7
    split at h7
    · rename_i hok
      simp only [R.ev_pure, Option.some.injEq] at h7
      subst h7
      obtain ⟨cv, hfv, hc1, hc2⟩ := calleeOf_sound hF h2
      obtain ⟨ha1, ha2⟩ := lendAll_sound hF h4
      have hzip : (c.args.toList.zip c.argTypes.toList).map (fun p => a.eval p.1) = c.args.toList.map a.eval := by
        have : (c.args.toList.zip c.argTypes.toList).map Prod.fst = c.args.toList := List.map_fst_zip (by simp [hsz])
        rw [← this, List.map_map]
        rw [this]
        rfl
      rw [hzip] at ha1 ha2
      have hrun : (execOp a.eval o).run P w = (callFunc g ((c.args.toList.map a.eval) ++ cv).toArray).run P w := by
        have e1 : (c.args.map a.eval) ++ cv.toArray = ((c.args.toList.map a.eval) ++ cv).toArray := by
          apply Array.ext'; simp
        simp [execOp, ho, resolve, hcl, hfv, Deferred.ofValue, invoke, e1]
      unfold Oper.wp
      rw [hrun]
      have fin : ∀ (S : Nat → Prop), (∀ b, S b → There w b) → ArgsRel T w S (as ++ caps.map capArg) (c.args.toList.map a.eval ++ cv) → ((∀ b, S b → Sh w fp [] b) ∨ resOwn r = true) → o.upon P a K Q ((callFunc g ((c.args.toList.map a.eval) ++ cv).toArray).run P w) := by
        intro S hS hargs hor
        refine hD.plain g _ r h6 w S _ ⟨hS, hF.int⟩ hargs o a K Q fun v w' hv => ?_
        obtain ⟨fq, hr, hnd, hfq, hbel⟩ := hv
        have hch := Chg.of_below hbel
        have h2 := hF.chg hch (fun _ h => by cases h) fq hfq hnd
        rw [List.nil_append] at h2
        have hr2 : ResRel T w' (Sh w' fp fq) r v fq := by
          rcases hor with hor | hor
          · refine hr.mono fun b hb => ⟨hb.1, fun n hm => ?_, hb.2.2⟩
            rcases hb.2.1 with h | h
            · exact (hor b h).2.1 n hm
            · have := hF.lt n b hm; omega
          · exact hr.any hor
        exact hK _ _ (finish_res h2 hp hd hr2 hnd) (hch.bel fun _ h => by cases h)
      simp only [Bool.or_eq_true, Bool.and_eq_true] at hok
      rcases hok with ⟨q1, q2⟩ | hok
      · exact fin (Sh w fp []) (fun b hb => hb.1) ((ha2 q1).append (hc2 q2)) (.inl fun _ h => h)
      · exact fin (There w) (fun b hb => hb) (ha1.append hc1) (.inr hok)
    · simp at h7
  · simp at h5
/-! ### Calls that write what they are handed first -/
theorem RelF.reN (h : RelF T G base nt σ a w [] fp us blk) {gs : List Nat} (hc : Chg w w' gs) (d : Nat) (hsd : (σ d).sv ≠ .dead) (hgs : ∀ g, g ∈ gs → g ∈ fp d) (sv : SV) (v : Ver) (fpd F2 : List Nat)
    (hv : ((σ d).v.w < v.w ∨ (v.w = (σ d).v.w ∧ (σ d).v.c < v.c))) (hn : fpd.Nodup) (hn2 : F2.Nodup) (hpart : ∀ b, b ∈ fpd ∨ b ∈ F2 → (b ∈ fp d ∨ w.heap.size ≤ b) ∧ b < w'.heap.size) (hdis : ∀ b, b ∈ fpd → b ∉ F2) (hgh : d = gh → sv.ghost = true)
    (hs : (∀ b, Sh w fp [] b → Sh w' (upd fp d fpd) F2 b) → SlotRel T w' (Sh w' (upd fp d fpd) F2) (upd (fun n => (σ n).v) d v) us blk d (a.tmps.getD d undef) fpd sv) :
    RelF T G base nt (σ.set d ⟨sv, v⟩) a w' F2 (upd fp d fpd) us blk := by
  have hSh : ∀ b, Sh w fp [] b → Sh w' (upd fp d fpd) F2 b := fun b hb => by
    refine ⟨Nat.lt_of_lt_of_le hb.1 hc.size, fun n hm => ?_, fun hm => ?_⟩
    · by_cases e : n = d
      · subst e; rw [upd_at] at hm
        rcases (hpart b (.inl hm)).1 with h1 | h1
        · exact hb.2.1 n h1
        · have := hb.1; omega
      · rw [upd_ne _ _ e] at hm; exact hb.2.1 n hm
    · rcases (hpart b (.inr hm)).1 with h1 | h1
      · exact hb.2.1 d h1
      · have := hb.1; omega
  have hSg : ∀ b, Sh w fp [] b → b ∉ gs := fun b hb hm => hb.2.1 d (hgs b hm)
  have hout : ∀ n, n ≠ d → ∀ b, b ∈ fp n → ¬ (b ∈ fp d ∨ w.heap.size ≤ b) := fun n e b hb hx => by
    rcases hx with hx | hx
    · exact h.disj n d e b hb hx
    · have := h.lt n b hb; omega
  have hown : ∀ b, b ∈ fp d ∨ w.heap.size ≤ b → base.own b := fun b hb => hb.elim (h.lo d b (.inl hsd)) (h.top b)
  have hvers : (fun n => ((σ.set d ⟨sv, v⟩) n).v) = upd (fun n => (σ n).v) d v := by
    funext n
    by_cases e : n = d
    · subst e; rw [St.set_at, upd_at]
    · rw [St.set_ne _ _ e, upd_ne _ _ e]
  refine ⟨fun n => ?_, fun m n hmn b hb hb' => ?_, fun n b hb hm => ?_, fun n => ?_, fun n b hsv hb => ?_, fun b hb hn => h.low b hb fun n hm => by
      by_cases e : n = d
      · subst e; exact absurd (h.lo n b (.inl hsd) hm) hb
      · exact hn n (by rw [upd_ne _ _ e]; exact hm), fun b hb => hown b (hpart b (.inr hb)).1,
    fun b hb => (hpart b (.inr hb)).2, hn2, fun b hb => h.top b (Nat.le_trans hc.size hb), h.gus, set_gh h.gsv hgh, h.gnt, h.size, h.defers, h.off, h.int.chg hc fun g k hx => h.off g k (h.lo d g (.inl hsd) (hgs g hx))⟩
  · rw [hvers]
    by_cases e : n = d
    · subst e
      rw [St.set_at, upd_at]
      exact hs hSh
    · rw [St.set_ne _ _ e, upd_ne _ _ e]
      have h1 := (h.slot n).same (w' := w') (fun b hb => hc.block b (h.lt n b hb) fun hm => h.disj n d e b hb (hgs b hm)) hSh (fun _ _ ha hv => hc.cell hv (hSg _ ha))
      exact h1.other e (fun m hm => upd_ne _ _ hm) (by rw [upd_at]; exact hv.imp id fun hq => ⟨hq.1, hq.2, rfl⟩) (fun m hm => rfl) (fun m hm => rfl) rfl
  · by_cases e : m = d
    · subst e
      rw [upd_at] at hb
      rw [upd_ne _ _ (Ne.symm hmn)] at hb'
      exact hout n (Ne.symm hmn) b hb' (hpart b (.inl hb)).1
    · rw [upd_ne _ _ e] at hb
      by_cases e' : n = d
      · subst e'; rw [upd_at] at hb'; exact hout m e b hb (hpart b (.inl hb')).1
      · rw [upd_ne _ _ e'] at hb'; exact h.disj m n hmn b hb hb'
  · by_cases e : n = d
    · subst e; rw [upd_at] at hb; exact hdis b hb hm
    · rw [upd_ne _ _ e] at hb; exact hout n e b hb (hpart b (.inr hm)).1
  · by_cases e : n = d
    · subst e; rw [upd_at]; exact hn
    · rw [upd_ne _ _ e]; exact h.nodup n
  · by_cases e : n = d
    · subst e; rw [upd_at] at hb; exact hown b (hpart b (.inl hb)).1
    · rw [upd_ne _ _ e] at hb; rw [St.set_ne _ _ e] at hsv; exact h.lo n b hsv hb

theorem lendOwn_sound (hF : RelF T G base nt σ a w [] fp us blk) {x : Operand} {ag : Bool} {cs : List Cell} {h : Nat} {mk : List Cell → Slot} (he : (lendOwn x).ev D σ = some (ag, cs, h, mk)) :
    ∃ (vs : List Value) (pre f2 post : List Nat) (svf : List Cell → SV), fp h = pre ++ f2 ++ post ∧ a.eval x = mkv ag vs ∧ CellsRel T w (Sh w fp []) cs vs f2 ∧ mk = (fun ds => ⟨svf ds, ⟨(σ h).v.w, (σ h).v.c + 1⟩⟩) ∧ (σ h).sv ≠ .dead ∧ (h = gh → ∀ ds, (svf ds).ghost = true) ∧
      ∀ (w' : World) (S1 : Nat → Prop) (vers : Nat → Ver) (ds : List Cell) (f2' : List Nat), (∀ b, b ∈ pre ++ post → w'.heap[b]? = w.heap[b]?) → (∀ b, Sh w fp [] b → S1 b) → (∀ a v, Sh w fp [] a.block → w.cell? a = some v → w'.cell? a = some v) →
        CellsRel T w' S1 ds vs f2' → ctsOf ds = ctsOf cs → (ag = false → cs.length = 1) → SlotRel T w' S1 vers us blk h (a.tmps.getD h undef) (pre ++ f2' ++ post) (svf ds) := by
  unfold lendOwn at he
  split at he
  · rename_i n
    simp only [R.ev_bind, R.ev_view, Option.bind_some] at he
    have hs := hF.view n
    split at he
    · rename_i g cc hsv
      rw [hsv] at hs
      simp only [R.ev_pure, Option.some.injEq, Prod.mk.injEq] at he
      obtain ⟨rfl, rfl, rfl, rfl⟩ := he
      have hsv0 : (σ n).sv = .val g cc := viewSlot_eq hsv (fun _ _ _ _ _ => SV.noConfusion)
      refine ⟨us n, [], fp n, [], fun ds => .val g ds, by simp, hs.1, hs.2.1, by rw [viewSlot_v], by rw [hsv0]; exact SV.noConfusion, fun e => absurd e (hF.ngh (by rw [hsv0]; rfl)), fun w' S1 vers ds f2' _ _ _ hc hct hl => ?_⟩
      refine ⟨hs.1, by simpa using hc, fun e => ?_⟩
      have := congrArg List.length hct
      rw [ctsOf_length, ctsOf_length] at this
      rw [this]; exact hl e
    · rename_i g h' off k v hsv
      rw [hsv] at hs
      obtain ⟨_, _, _, hal⟩ := hs
      simp only [R.ev_bind, R.ev_slot, Option.bind_some] at he
      obtain ⟨ys, hy, he⟩ := Option.bind_eq_some_iff.1 he
      obtain ⟨hv, all, ha, rfl, hln⟩ := homeCells_ev hy
      have hev : a.eval (.tmp n) = mkv g (((us h').drop off).take k) := hal hv
      have hsh := hF.slot h'
      have fin : ∀ {extra fq : List Nat} {sf : List Cell → SV} {al : List Cell}, al = all → fp h' = extra ++ fq → CellsRel T w (Sh w fp []) al (us h') fq → (σ h').sv ≠ .dead → (h' = gh → ∀ ds, (sf ds).ghost = true) →
          (∀ (w' : World) (S1 : Nat → Prop) (vers : Nat → Ver) (ds : List Cell) (fq' : List Nat), (∀ b, b ∈ extra → w'.heap[b]? = w.heap[b]?) → CellsRel T w' S1 ds (us h') fq' → ctsOf ds = ctsOf al → SlotRel T w' S1 vers us blk h' (a.tmps.getD h' undef) (extra ++ fq') (sf ds)) →
          g = ag → (all.drop off).take k = cs → h' = h → (fun ds => (⟨sf (splice al off ds), ⟨(σ h').v.w, (σ h').v.c + 1⟩⟩ : Slot)) = mk →
          ∃ (vs : List Value) (pre f2 post : List Nat) (svf : List Cell → SV), fp h = pre ++ f2 ++ post ∧ a.eval (.tmp n) = mkv ag vs ∧ CellsRel T w (Sh w fp []) cs vs f2 ∧ mk = (fun ds => ⟨svf ds, ⟨(σ h).v.w, (σ h).v.c + 1⟩⟩) ∧ (σ h).sv ≠ .dead ∧ (h = gh → ∀ ds, (svf ds).ghost = true) ∧
            ∀ (w' : World) (S1 : Nat → Prop) (vers : Nat → Ver) (ds : List Cell) (f2' : List Nat), (∀ b, b ∈ pre ++ post → w'.heap[b]? = w.heap[b]?) → (∀ b, Sh w fp [] b → S1 b) → (∀ a v, Sh w fp [] a.block → w.cell? a = some v → w'.cell? a = some v) →
              CellsRel T w' S1 ds vs f2' → ctsOf ds = ctsOf cs → (ag = false → cs.length = 1) → SlotRel T w' S1 vers us blk h (a.tmps.getD h undef) (pre ++ f2' ++ post) (svf ds) := by
        intro extra fq sf al hall hfx hcr hsd hgg hslot e1 e2 e3 e4
        subst e1 e2 e3 e4 hall
        obtain ⟨f1, f2, f3, hf, c1, c2, c3⟩ := hcr.sub off k
        refine ⟨_, extra ++ f1, f2, f3, fun ds => sf (splice al off ds), by rw [hfx, hf]; simp, hev, c2, rfl, hsd, fun e ds => hgg e _, fun w' S1 vers ds f2' hx hS hcell hc hct hl => ?_⟩
        have hdl : ds.length = k := by
          have := congrArg List.length hct
          rw [ctsOf_length, ctsOf_length] at this
          rw [this]; exact hln
        have hvl : (((us h').drop off).take k).length = k := by rw [c2.length]; exact hln
        have hc1 := c1.same (w' := w') (fun b hb => hx b (by simp [hb])) hS hcell
        have hc3 := c3.same (w' := w') (fun b hb => hx b (by simp [hb])) hS hcell
        have hsp := CellsRel.splice hc1 hc (by rw [hdl]; exact hc3)
        have hself : splice (us h') off (((us h').drop off).take k) = us h' := by
          unfold splice
          rw [hvl, ← List.drop_drop, List.append_assoc, List.take_append_drop, List.take_append_drop]
        rw [hself] at hsp
        have := hslot w' S1 vers _ _ (fun b hb => hx b (by simp [hb])) hsp (ctsOf_splice (by rw [hdl, hct]))
        simpa [List.append_assoc] using this
      split at he
      · rename_i g' all' hsv2
        rw [hsv2] at hsh ha
        have hae : all' = all := Option.some.inj ha
        subst hae
        simp only [R.ev_pure, Option.some.injEq, Prod.mk.injEq] at he
        refine fin (extra := []) (fq := fp h') (sf := fun ds => .val g' ds) rfl rfl hsh.2.1 (by rw [hsv2]; exact SV.noConfusion) (fun e => absurd e (hF.ngh (by rw [hsv2]; rfl))) (fun w' S1 vers ds fq' _ hc hct => ⟨hsh.1, hc, fun e => ?_⟩) he.1 he.2.1 he.2.2.1 he.2.2.2
        have := congrArg List.length hct
        rw [ctsOf_length, ctsOf_length] at this
        rw [this]; exact hsh.2.2 e
      · rename_i e' all' hsv2
        rw [hsv2] at hsh ha
        have hae : all' = all := Option.some.inj ha
        subst hae
        obtain ⟨hp, hb, ⟨fq, hfq, hcr⟩, hty⟩ := hsh
        simp only [R.ev_pure, Option.some.injEq, Prod.mk.injEq] at he
        exact fin (extra := [blk h']) (fq := fq) (sf := fun ds => .bx e' ds) rfl hfq hcr (by rw [hsv2]; exact SV.noConfusion) (fun e => absurd e (hF.ngh (by rw [hsv2]; rfl)))
          (fun w' S1 vers ds fq' hx hc hct => ⟨hp, hb.of_same (hx _ (by simp)), ⟨fq', rfl, hc⟩, hct.trans hty⟩) he.1 he.2.1 he.2.2.1 he.2.2.2
      · rename_i all' hsv2
        rw [hsv2] at hsh ha
        have hae : all' = all := Option.some.inj ha
        subst hae
        have hsh : CellsRel T w (Sh w fp []) all' (us h') (fp h') := hsh
        simp only [R.ev_pure, Option.some.injEq, Prod.mk.injEq] at he
        exact fin (extra := []) (fq := fp h') (sf := fun ds => .gv ds) rfl rfl hsh (by rw [hsv2]; exact SV.noConfusion) (fun _ _ => rfl) (fun w' S1 vers ds fq' _ hc hct => hc) he.1 he.2.1 he.2.2.1 he.2.2.2
      · simp at he
    · simp at he
  · simp at he

theorem ownCells_rel {cs : List Cell} {vs : List Value} {fq : List Nat} (h : CellsRel T w S cs vs fq) (hd : cs.all Cell.deep = true) (hg : cs.any Cell.isGone = false) : CellsRel T w S' (ownCells (cs.map fun c => (c.ct, c.c))) vs fq := by
  have h1 := deep_any (S' := S') h hd hg
  clear h
  induction h1 with
  | nil => exact .nil
  | @cons c cs u us fp fp' h _ ih =>
    simp only [List.all_cons, Bool.and_eq_true] at hd
    simp only [List.any_cons, Bool.or_eq_false_iff] at hg
    refine .cons ?_ (ih hd.2 hg.2)
    have ho := h.ofDeep hd.1 hg.1
    unfold CellRel
    dsimp only
    cases hm : c.ct.mem with
    | true => exact ho
    | false =>
      have hn := h.mem_nil hm
      have hr := (h.toRep (S' := fun b => S' b ∨ b ∈ fp) hg.1 (fun b hb => .inr hb) (fun b hb => .inl hb)).flat (w' := w) (S' := S') hm
      exact ⟨hr, hn⟩

theorem lendW_sound (hF : RelF T G base nt σ a w [] fp us blk) {hh : Nat} : ∀ {l : List (Operand × TypeId)} {as : List Arg} {s : Bool}, (lendW T hh l).ev D σ = some (as, s) → s = true →
    ArgsRel T w (fun b => There w b ∧ b ∉ fp hh) as (l.map fun p => a.eval p.1)
  | [], as, s, he, _ => by
    simp only [lendW, R.ev_pure, Option.some.injEq, Prod.mk.injEq] at he
    obtain ⟨rfl, rfl⟩ := he
    exact .nil
  | (x, t) :: rest, as, s, he, hs => by
    simp only [lendW, R.ev_bind] at he
    obtain ⟨⟨ar, s1⟩, h1, h2⟩ := Option.bind_eq_some_iff.1 he
    obtain ⟨q, h3, h4⟩ := Option.bind_eq_some_iff.1 h2
    obtain ⟨⟨as', s2⟩, h5, h6⟩ := Option.bind_eq_some_iff.1 h4
    simp only [R.ev_pure, Option.some.injEq, Prod.mk.injEq] at h6
    obtain ⟨rfl, rfl⟩ := h6
    rw [Bool.and_eq_true] at hs
    obtain ⟨rfl, rfl⟩ := hs
    have q2 := lendW_sound hF h5 rfl
    refine .cons ?_ q2
    have hSh : ∀ b, Sh w fp [] b → There w b ∧ b ∉ fp hh := fun b hb => ⟨hb.1, hb.2.1 hh⟩
    cases s1 with
    | true => exact ((lend_sound hF h1).2 rfl).mono hSh
    | false =>
      dsimp only at h3
      unfold cloOff at h3
      split at h3
      · rename_i n
        simp only [R.ev_bind, R.ev_slot, Option.bind_some] at h3
        split at h3
        · rename_i f caps hsv
          simp only [R.ev_pure, Option.some.injEq] at h3
          have hvs : viewSlot σ n = σ n := by unfold viewSlot; rw [hsv]
          unfold lend at h1
          dsimp only at h1
          simp only [R.ev_bind, R.ev_view, Option.bind_some, hvs, hsv] at h1
          obtain ⟨cs, k1, k2⟩ := Option.bind_eq_some_iff.1 h1
          simp only [R.ev_pure, Option.some.injEq, Prod.mk.injEq] at k2
          obtain ⟨rfl, -⟩ := k2
          have hss := hF.slot n
          rw [hsv] at hss
          obtain ⟨q1, q2', q3, q4⟩ := capsOf_soundS (S' := fun b => There w b ∧ b ∉ fp hh) hF hSh (fun p hp b hb => ⟨hF.lt p.1 b hb, hF.disj p.1 hh (fun e => by
            have := List.all_eq_true.1 h3 p hp
            rw [e] at this
            simp at this) b hb⟩) k1
          show ArgRel T w _ _ (a.eval (.tmp n))
          rw [show a.eval (.tmp n) = _ from hss.2.2 q1]
          have hmap : (caps.map fun p => Value.pointer (some ⟨blk p.1, 0, none⟩)) = (List.range cs.length).map fun j => Value.pointer (some ⟨blk (caps.getD j (0, 0)).1, 0, none⟩) := by
            apply List.ext_getElem
            · simp [q2']
            · intro i h1 h2
              have hi : i < caps.length := by simpa using h1
              simp [List.getElem?_eq_getElem hi]
          rw [hmap]
          exact arg_one (.func f cs _ q3)
        · rename_i e cc hsv
          simp only [R.ev_pure, Option.some.injEq, Bool.not_eq_true'] at h3
          have hne : n ≠ hh := fun e => by rw [e, Nat.beq_refl] at h3; cases h3
          have hvs : viewSlot σ n = σ n := by unfold viewSlot; rw [hsv]
          unfold lend at h1
          dsimp only at h1
          simp only [R.ev_bind, R.ev_view, Option.bind_some, hvs, hsv] at h1
          have hss := hF.slot n
          rw [hsv] at hss
          split at h1
          · simp only [R.ev_bind] at h1
            obtain ⟨cs, k1, k2⟩ := Option.bind_eq_some_iff.1 h1
            simp only [R.ev_pure, Option.some.injEq, Prod.mk.injEq] at k2
            obtain ⟨rfl, -⟩ := k2
            show ArgRel T w _ _ (a.eval (.tmp n))
            rw [show a.eval (.tmp n) = _ from hss.1]
            exact arg_one (boxPtr_soundS hF (fun b hb => ⟨hF.lt n b hb, hF.disj n hh hne b hb⟩) hSh k1)
          · simp at h1
        · rename_i h' off v hsv
          simp only [R.ev_pure, Option.some.injEq, Bool.not_eq_true'] at h3
          have hne : h' ≠ hh := fun e => by rw [e, Nat.beq_refl] at h3; cases h3
          have hvs : viewSlot σ n = σ n := by unfold viewSlot; rw [hsv]
          unfold lend at h1
          dsimp only at h1
          simp only [R.ev_bind, R.ev_view, Option.bind_some, hvs, hsv] at h1
          have hss := hF.slot n
          rw [hsv] at hss
          split at h1
          · simp only [R.ev_bind, R.ev_slot, Option.bind_some] at h1
            split at h1
            · rename_i hv
              simp only [R.ev_bind] at h1
              obtain ⟨cs, k1, k2⟩ := Option.bind_eq_some_iff.1 h1
              simp only [R.ev_pure, Option.some.injEq, Prod.mk.injEq] at k2
              obtain ⟨rfl, -⟩ := k2
              show ArgRel T w _ _ (a.eval (.tmp n))
              rw [show a.eval (.tmp n) = _ from hss.2.2 hv]
              exact arg_one (boxPtr_soundS hF (fun b hb => ⟨hF.lt h' b hb, hF.disj h' hh hne b hb⟩) hSh k1)
            · simp at h1
          · simp at h1
        · simp at h3
      · simp at h3

theorem op_write {ws : Ws} {c : Call} {f : Operand} {g : FuncId} (hD : DOk P T D) (ho : o.op = .call c) (hcl : c.callee = .value f) (hmf : methOf T f = some (g, 0)) (h : Rel T G base nt σ a w) (hd : ∀ d, o.dst = some d → d < nt)
    (he : (writeCall T g c o.dst).ev D σ = some ws) (hK : ∀ a' w', Rel T G base nt (σ.setAll ws) a' w' → Bel base w w' → K a' w') : o.wp P a w K Q := by
  obtain ⟨fp, us, blk, hF⟩ := h
  have hfg : f = .func g := by
    unfold methOf at hmf
    split at hmf
    · split at hmf
      · simp only [Option.some.injEq, Prod.mk.injEq] at hmf
        rw [hmf.1]
      · cases hmf
    · cases hmf
  subst hfg
  unfold writeCall at he
  split at he
  · rename_i x t rest hz
    simp only [R.ev_bind] at he
    obtain ⟨⟨ag, cs, hh, mk⟩, h1, h2⟩ := Option.bind_eq_some_iff.1 he
    obtain ⟨⟨as, sh⟩, h3, h4⟩ := Option.bind_eq_some_iff.1 h2
    clear he h2
    dsimp only at h4
    split at h4
    · rename_i hcond
      obtain ⟨hsz, rfl, hdp, hgn, hct, hl1⟩ := hcond
      rw [R.ev_call] at h4
      obtain ⟨⟨pre0, r⟩, h6, h7⟩ := Option.bind_eq_some_iff.1 h4
      cases pre0 with
      | false => cases h7
      | true =>
      dsimp only at h7
      rw [if_pos rfl] at h7
      split at h7
      · rename_i gg ds r' 
        split at h7
        · rename_i hcond2
          obtain ⟨hctd, hdd, hro⟩ := hcond2
          obtain ⟨vs, pre, f2, post, svf, hfh, hev, hcr, hmk, hsd, hgh, hslot⟩ := lendOwn_sound hF h1
          have hargs := lendW_sound hF h3 rfl
          have hnd := hF.nodup hh
          rw [hfh] at hnd
          have hnd1 := List.nodup_append.1 hnd
          have hnd2 := List.nodup_append.1 hnd1.1
          have hlist : c.args.toList.map a.eval = mkv ag vs :: rest.map fun p => a.eval p.1 := by
            have : (c.args.toList.zip c.argTypes.toList).map Prod.fst = c.args.toList := List.map_fst_zip (by simp [hsz])
            rw [← this, hz, List.map_cons, List.map_cons, hev, List.map_map]
            rfl
          have hrun : (execOp a.eval o).run P w = (callFunc g (mkv ag vs :: rest.map fun p => a.eval p.1).toArray).run P w := by
            have e1 : c.args.map a.eval = (mkv ag vs :: rest.map fun p => a.eval p.1).toArray := by
              rw [← hlist]
              apply Array.ext'; simp
            have hfv : a.eval (.func g) = .func (.func g) #[] #[] := rfl
            simp [execOp, ho, resolve, hcl, hfv, Deferred.ofValue, invoke, e1]
          unfold Oper.wp
          rw [hrun]
          refine hD.wri g (rawArg ag cs) as gg ds r' h6 w (fun b => There w b ∧ b ∉ fp hh) vs f2 _ ⟨fun b hb => hb.1, hF.int, fun g k hx => hF.off g k (hF.lo hh g (.inl hsd) (by rw [hfh]; simp [hx]))⟩ (ownCells_rel hcr hdp hgn) (fun e => by simpa [rawArg] using hl1 e) hnd2.2.1
            (fun b hb hs => hs.2 (by rw [hfh]; simp [hb])) hargs o a K Q fun v w' hv => ?_
          obtain ⟨S1, fp', fq, q1, q2, q3, q4, q5⟩ := hv
          have q3' := List.nodup_append.1 q3
          have hin : ∀ b, b ∈ f2 → b ∈ fp hh := fun b hb => by rw [hfh]; simp [hb]
          have hpp : ∀ b, b ∈ pre ++ post → b ∈ fp hh := fun b hb => by
            rw [hfh]; simp only [List.mem_append] at hb ⊢
            rcases hb with hb | hb <;> simp [hb]
          have hpo : ∀ b, b ∈ pre ++ post → ¬ (b ∈ f2 ∨ w.heap.size ≤ b) := fun b hb hx => by
            rcases hx with hx | hx
            · rcases List.mem_append.1 hb with hb | hb
              · exact hnd2.2.2 b hb b hx rfl
              · exact hnd1.2.2 b (by simp [hx]) b hb rfl
            · have := hF.lt hh b (hpp b hb); omega
          have hnew := hF.reN q5 hh hsd hin (svf ds) ⟨(σ hh).v.w, (σ hh).v.c + 1⟩ (pre ++ fp' ++ post) fq (.inr ⟨rfl, by simp⟩)
            (List.nodup_append.2 ⟨List.nodup_append.2 ⟨hnd2.1, q3'.1, fun x hx y hy e => by
              subst e; exact hpo x (by simp [hx]) (q4 x (by simp [hy])).1⟩, hnd1.2.1, fun x hx y hy e => by
              subst e
              rcases List.mem_append.1 hx with hx | hx
              · exact hnd1.2.2 x (by simp [hx]) x hy rfl
              · exact hpo x (by simp [hy]) (q4 x (by simp [hx])).1⟩) q3'.2.1
            (fun b hb => by
              have old : b ∈ pre ++ post → (b ∈ fp hh ∨ w.heap.size ≤ b) ∧ b < w'.heap.size := fun hb => ⟨.inl (hpp b hb), Nat.lt_of_lt_of_le (hF.lt hh b (hpp b hb)) q5.size⟩
              have new : b ∈ fp' ++ fq → (b ∈ fp hh ∨ w.heap.size ≤ b) ∧ b < w'.heap.size := fun hb => ⟨(q4 b hb).1.imp (hin b) id, (q4 b hb).2⟩
              rcases hb with hb | hb
              · rcases List.mem_append.1 hb with hb | hb
                · rcases List.mem_append.1 hb with hb | hb
                  · exact old (by simp [hb])
                  · exact new (by simp [hb])
                · exact old (by simp [hb])
              · exact new (by simp [hb]))
            (fun b hb hm => by
              rcases List.mem_append.1 hb with hb | hb
              · rcases List.mem_append.1 hb with hb | hb
                · exact hpo b (by simp [hb]) (q4 b (by simp [hm])).1
                · exact q3'.2.2 b hb b hm rfl
              · exact hpo b (by simp [hb]) (q4 b (by simp [hm])).1)
            (fun e => hgh e ds)
            (fun hSS => hslot w' _ _ ds fp' (fun b hb => q5.block b (hF.lt hh b (hpp b hb)) fun hm => hpo b hb (.inl hm)) hSS
              (fun ad u hs hu => q5.cell hu fun hm => hs.2.1 hh (hin _ hm)) (deep_gone q1 hdd) hctd hl1)
          have hnew : RelF T G base nt (σ.setAll [(hh, ⟨svf ds, ⟨(σ hh).v.w, (σ hh).v.c + 1⟩⟩)]) a w' fq (upd fp hh (pre ++ fp' ++ post)) us blk := hnew
          rw [hmk] at h7
          have hr2 : ResRel T w' (Sh w' (upd fp hh (pre ++ fp' ++ post)) fq) r' v fq := q2.any hro
          refine hK _ _ ?_ (q5.bel fun b hb => hF.lo hh b (.inl hsd) (hin b hb))
          obtain ⟨hrr, hgr⟩ := hr2
          unfold resSV at h7
          split at hrr
          · rename_i g9 cs9
            obtain ⟨us9, rfl, k2, k3⟩ := hrr
            exact finish_val hnew h7 hd k2 q3'.2.1 (fun _ h => h) k3
          · rename_i hne
            obtain ⟨uw, rfl, k2⟩ := hrr
            split at h7
            · rename_i g9 cs9
              exact absurd rfl (hne g9 cs9)
            · exact finish_tup hnew h7 hd k2 q3'.2.1 (fun _ h => h)
        · simp at h7
      · simp at h7
    · simp at h4
  · simp at he

theorem op_bld {ws : Ws} {c : Call} {f : Operand} {g : FuncId} {k : Nat} (_hD : DOk P T D) (_ho : o.op = .call c) (_hcl : c.callee = .value f) (_hmf : methOf T f = some (g, k)) (_h : Rel T G base nt σ a w) (_hd : ∀ d, o.dst = some d → d < nt)
    (he : (bldCall k c o.dst).ev D σ = some ws) (_hK : ∀ a' w', Rel T G base nt (σ.setAll ws) a' w' → Bel base w w' → K a' w') : o.wp P a w K Q := by
  have he : (none : Option Ws) = some ws := he
  cases he
end

/-! ### Parts of rows of the call's own -/
section
variable {P : Program} {T : Tab} {G : Nat → Prop} {base : Bs} {nt : Nat} {σ : St} {a : Act} {w w' : World} {F : List Nat} {fp : Nat → List Nat} {us : Nat → List Value} {blk : Nat → Nat} {D : FuncId → List Arg → Option (Bool × Res)}
  {K : Act → World → Prop} {Q : Exit → Act → World → Prop} {o : Oper} {S S' : Nat → Prop}

theorem op_sub {ws : Ws} {t : TypeId} {x : Operand} {lo hi : Option Operand} {r : Nat × Nat × TypeId × Ver} (_hT : TabOk P T) (_ho : o.op = .slice t x lo hi none) (_h : Rel T G base nt σ a w) (_hd : ∀ d, o.dst = some d → d < nt)
    (_hr : (ownRow x).ev D σ = some (some r)) (he : (subOp T t r lo hi o.dst).ev D σ = some ws) (_hK : ∀ a' w', Rel T G base nt (σ.setAll ws) a' w' → Bel base w w' → K a' w') : o.wp P a w K Q := by
  have he : (none : Option Ws) = some ws := he
  cases he
theorem op_slice {ws : Ws} {t : TypeId} {x : Operand} {lo hi : Option Operand} (hT : TabOk P T) (ho : o.op = .slice t x lo hi none) (h : Rel T G base nt σ a w) (hd : ∀ d, o.dst = some d → d < nt)
    (he : (opR T o).ev D σ = some ws) (hK : ∀ a' w', Rel T G base nt (σ.setAll ws) a' w' → Bel base w w' → K a' w') : o.wp P a w K Q := by
  unfold opR at he
  simp only [ho, R.ev_bind] at he
  obtain ⟨r, h1, h2⟩ := Option.bind_eq_some_iff.1 he
  cases r with
  | none => exact op_slice0 hT ho h hd (D := D) (by simpa only [R.ev_bind] using h2) hK
  | some r => exact op_sub hT ho h hd h1 h2 hK

end
section
variable {P : Program} {T : Tab} {G : Nat → Prop} {base : Bs} {nt : Nat} {σ : St} {a : Act} {w w' : World} {F : List Nat} {fp : Nat → List Nat} {us : Nat → List Value} {blk : Nat → Nat} {D : FuncId → List Arg → Option (Bool × Res)}
  {K : Act → World → Prop} {Q : Exit → Act → World → Prop} {o : Oper} {S S' : Nat → Prop}

theorem op_takeHead {ws : Ws} {t : Nat} {r : Nat × Nat × TypeId × Int × Int × Ver} (_ho : o.op = .assign (.tmp t)) (_h : Rel T G base nt σ a w) (_hd : ∀ d, o.dst = some d → d < nt)
    (_hr : (headOf (.tmp t)).ev D σ = some (some r)) (he : (takeHead T r o.dst).ev D σ = some ws) (_hK : ∀ a' w', Rel T G base nt (σ.setAll ws) a' w' → Bel base w w' → K a' w') : o.wp P a w K Q := by
  have he : (none : Option Ws) = some ws := he
  cases he
theorem op_assign {ws : Ws} {x : Operand} (ho : o.op = .assign x) (h : Rel T G base nt σ a w) (hd : ∀ d, o.dst = some d → d < nt)
    (he : (opR T o).ev D σ = some ws) (hK : ∀ a' w', Rel T G base nt (σ.setAll ws) a' w' → Bel base w w' → K a' w') : o.wp P a w K Q := by
  unfold opR at he
  simp only [ho] at he
  split at he
  · rename_i t
    simp only [R.ev_bind] at he
    obtain ⟨r, h1, h2⟩ := Option.bind_eq_some_iff.1 he
    cases r with
    | none => exact op_assign0 ho h hd (D := D) (by simpa only [R.ev_bind] using h2) hK
    | some r => exact op_takeHead ho h hd h1 h2 hK
  · rename_i v
    simp only [R.ev_bind] at he
    obtain ⟨r, h1, h2⟩ := Option.bind_eq_some_iff.1 he
    cases r with
    | none => exact op_assign0 ho h hd (D := D) (by simpa only [R.ev_bind] using h2) hK
    | some r => simp [headOf] at h1
  · simp at he

theorem op_clear {ws : Ws} {c : Call} {x : Operand} {t : TypeId} (_hT : TabOk P T) (_ho : o.op = .call c) (_hcl : c.callee = .builtin .clear) (_hca : c.args.toList = [x]) (_hct : c.argTypes.toList = [t]) (_h : Rel T G base nt σ a w) (_hd : ∀ d, o.dst = some d → d < nt)
    (he : (clearOp T t x o.dst).ev D σ = some ws) (_hK : ∀ a' w', Rel T G base nt (σ.setAll ws) a' w' → Bel base w w' → K a' w') : o.wp P a w K Q := by
  have he : (none : Option Ws) = some ws := he
  cases he
end
section
variable {P : Program} {T : Tab} {G : Nat → Prop} {base : Bs} {nt : Nat} {σ : St} {a : Act} {w w' : World} {F : List Nat} {fp : Nat → List Nat} {us : Nat → List Value} {blk : Nat → Nat} {D : FuncId → List Arg → Option (Bool × Res)}
  {K : Act → World → Prop} {Q : Exit → Act → World → Prop} {o : Oper} {S S' : Nat → Prop}

structure SrcRd (P : Program) (T : Tab) (w : World) (e : TypeId) (u : Value) (ys : List (List TC)) : Prop where
  len : (Builtin.lenOf u).run P w = .ok ys.length w
  rows : ∀ r, r ∈ ys → r.length = (T e).cts.length
  read : ∀ n, n ≤ ys.length → ∃ vs : List Value, (Builtin.firstCells (T e).cts.length n u).run P w = .ok vs.toArray w ∧ vs.length = n * (T e).cts.length ∧ (∀ v, v ∈ vs → v.oneCell' = true) ∧
    ∀ q, q < n * (T e).cts.length → RepC T w (fun _ => False) ((T e).cts.getD (q % (T e).cts.length) .bool) (vs.getD q undef) (nth (ys.getD (q / (T e).cts.length) []) (q % (T e).cts.length))

theorem op_copy {ws : Ws} {c : Call} {x y : Operand} {t u : TypeId} (_hT : TabOk P T) (_ho : o.op = .call c) (_hcl : c.callee = .builtin .copy) (_hca : c.args.toList = [x, y]) (_hct : c.argTypes.toList = [t, u]) (_h : Rel T G base nt σ a w) (_hd : ∀ d, o.dst = some d → d < nt)
    (he : (copyOp T t u x y o.dst).ev D σ = some ws) (_hK : ∀ a' w', Rel T G base nt (σ.setAll ws) a' w' → Bel base w w' → K a' w') : o.wp P a w K Q := by
  have he : (none : Option Ws) = some ws := he
  cases he
end

end Go.Proofs.Ytabdjbkbfilhkaa.V
