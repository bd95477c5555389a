import Derived.Test.YtabdjbkbfilhkaaV13
namespace Go.Proofs.Ytabdjbkbfilhkaa.V
open Go Go.RowKit

def shCells (l : List (CT × TC)) : List Cell := l.map fun p => ⟨p.1, .sh, p.2⟩
def ArgRel (T : Tab) (w : World) (S : Nat → Prop) (a : Arg) (u : Value) : Prop := ∃ us, u = mkv a.1 us ∧ CellsRel T w S (shCells a.2) us [] ∧ (a.1 = false → a.2.length = 1)
inductive ArgsRel (T : Tab) (w : World) (S : Nat → Prop) : List Arg → List Value → Prop
  | nil : ArgsRel T w S [] []
  | cons {a : Arg} {u : Value} {as : List Arg} {us : List Value} : ArgRel T w S a u → ArgsRel T w S as us → ArgsRel T w S (a :: as) (u :: us)

def ResRel (T : Tab) (w : World) (S : Nat → Prop) (r : Res) (v : Value) (fq : List Nat) : Prop :=
  (match r with
    | [(g, cs)] => ∃ us, v = mkv g us ∧ CellsRel T w S cs us fq ∧ (g = false → cs.length = 1)
    | r => ∃ uw : List Value, v = .tuple uw.toArray ∧ TupRel T w S r uw fq) ∧ ∀ x, x ∈ r → x.2.any Cell.isGone = false

def Answers (P : Program) (f : FuncId) (vals : Array Value) (w : World) (R : Value → World → Prop) : Prop :=
  ∀ (o : Oper) (a : Act) (next : Act → World → Prop) (Q : Exit → Act → World → Prop), (∀ v w', R v w' → next (a.put o.dst v) w') → o.upon P a next Q ((callFunc f vals).run P w)

structure MethOk (P : Program) (T : Tab) : Prop where
  ty : BldTy P T
  write : ∀ (g : FuncId) (t e : TypeId) (w : World) (b : Nat) (l s : List UInt8) (fp : List Nat), (T (fnBase + g)).kind = .meth 1 → IsBld T w t e b l fp → fp.Nodup → l.length + s.length ≤ 140737488355328 →
    Answers P g #[.pointer (some ⟨b, 0, none⟩), .string ⟨s.toArray⟩] w fun _ w' => ∃ fp', IsBld T w' t e b (l ++ s) fp' ∧ fp'.Nodup ∧ (∀ x, x ∈ fp' → x ∈ fp ∨ (w.heap.size ≤ x ∧ x < w'.heap.size)) ∧ Chg w w' fp
  read : ∀ (g : FuncId) (t e : TypeId) (w : World) (b : Nat) (l : List UInt8) (fp : List Nat), (T (fnBase + g)).kind = .meth 2 → IsBld T w t e b l fp →
    Answers P g #[.pointer (some ⟨b, 0, none⟩)] w fun v w' => v = .string ⟨l.toArray⟩ ∧ Chg w w' fp
  len : ∀ (g : FuncId) (t e : TypeId) (w : World) (b : Nat) (l : List UInt8) (fp : List Nat), (T (fnBase + g)).kind = .meth 3 → IsBld T w t e b l fp →
    Answers P g #[.pointer (some ⟨b, 0, none⟩)] w fun v w' => v = .int .i64 (l.length : Int) ∧ Chg w w' []

structure DOk (P : Program) (T : Tab) (D : FuncId → List Arg → Option (Bool × Res)) : Prop where
  plain : ∀ (f : FuncId) (as : List Arg) (r : Res), D f as = some (true, r) → ∀ (w : World) (S : Nat → Prop) (vals : List Value), Fit T w S → ArgsRel T w S as vals →
    Answers P f vals.toArray w fun v w' => ∃ fq, ResRel T w' (fun b => b < w'.heap.size ∧ (S b ∨ w.heap.size ≤ b) ∧ b ∉ fq) r v fq ∧ fq.Nodup ∧ (∀ b, b ∈ fq → w.heap.size ≤ b ∧ b < w'.heap.size) ∧ Below w.heap.size w w'
  wri : ∀ (g : FuncId) (a0 : Arg) (as : List Arg) (gg : Bool) (ds : List Cell) (r : Res), D g (mark :: a0 :: as) = some (true, (gg, ds) :: r) → ∀ (w : World) (S : Nat → Prop) (us0 : List Value) (fp0 : List Nat) (vals : List Value), FitW T w S fp0 →
    CellsRel T w S (ownCells a0.2) us0 fp0 → (a0.1 = false → a0.2.length = 1) → fp0.Nodup → (∀ b, b ∈ fp0 → ¬ S b) → ArgsRel T w S as vals →
    Answers P g (mkv a0.1 us0 :: vals).toArray w fun v w' => ∃ (S1 : Nat → Prop) (fp' fq : List Nat), CellsRel T w' S1 ds us0 fp' ∧ ResRel T w' S1 r v fq ∧ (fp' ++ fq).Nodup ∧ (∀ b, b ∈ fp' ++ fq → (b ∈ fp0 ∨ w.heap.size ≤ b) ∧ b < w'.heap.size) ∧ Chg w w' fp0
  meth : MethOk P T

section
variable {P : Program} {T : Tab} {G : Nat → Prop} {base : Bs} {nt : Nat} {σ : St} {a : Act} {w w' : World} {F : List Nat} {fp : Nat → List Nat} {us : Nat → List Value} {blk : Nat → Nat} {D : FuncId → List Arg → Option (Bool × Res)}
  {K : Act → World → Prop} {Q : Exit → Act → World → Prop} {o : Oper} {S S' : Nat → Prop}

theorem shared_of {ds : List Cell} {vs : List Value} {fq : List Nat} (h : CellsRel T w S ds vs fq) (hg : ds.any Cell.isGone = false) (h1 : ∀ b, b ∈ fq → S' b) (h2 : ∀ b, S b → S' b) :
    CellsRel T w S' (shCells (ds.map fun c => (c.ct, c.c))) vs [] := by
  induction h with
  | nil => exact .nil
  | @cons c cs u us fp fp' h _ ih =>
    simp only [List.any_cons, Bool.or_eq_false_iff] at hg
    have := CellsRel.cons (T := T) (w := w) (S := S') (c := ⟨c.ct, .sh, c.c⟩) (u := u) (fp := []) (fp' := []) ⟨h.toRep hg.1 (fun b hb => h1 b (List.mem_append_left _ hb)) h2, rfl⟩ (ih hg.2 fun b hb => h1 b (List.mem_append_right _ hb))
    exact this

theorem ArgRel.mono {x : Arg} {u : Value} (h : ArgRel T w S x u) (hS : ∀ b, S b → S' b) : ArgRel T w S' x u := by
  obtain ⟨us, h1, h2, h3⟩ := h
  exact ⟨us, h1, h2.same (fun _ _ => rfl) hS (fun _ _ _ h => h), h3⟩
theorem ArgsRel.mono {as : List Arg} {us : List Value} (h : ArgsRel T w S as us) (hS : ∀ b, S b → S' b) : ArgsRel T w S' as us := by
  induction h with
  | nil => exact .nil
  | cons h _ ih => exact .cons (h.mono hS) ih
theorem ArgsRel.append {as bs : List Arg} {us vs : List Value} (h : ArgsRel T w S as us) (k : ArgsRel T w S bs vs) : ArgsRel T w S (as ++ bs) (us ++ vs) := by
  induction h with
  | nil => exact k
  | cons h _ ih => exact .cons h ih

theorem arg_one {ct : CT} {c : TC} {u : Value} (h : RepC T w S ct u c) : ArgRel T w S (false, [(ct, c)]) u :=
  ⟨[u], rfl, .cons (fp := []) (fp' := []) ⟨h, rfl⟩ .nil, fun _ => rfl⟩

abbrev There (w : World) (b : Nat) : Prop := b < w.heap.size

theorem box_repS {h : Nat} {off : Nat} {e t : TypeId} {cs : List Cell} (hF : RelF T G base nt σ a w F fp us blk) (hS1 : ∀ b, b ∈ fp h → S' b) (hS2 : ∀ b, Sh w fp F b → S' b) (hsv : (σ h).sv = .bx t cs) (hct : ctsOf ((cs.drop off).take (T e).cts.length) = (T e).cts) (hg : ((cs.drop off).take (T e).cts.length).any Cell.isGone = false) :
    RepC T w (S') (.ptr e) (.pointer (some ⟨blk h, off, none⟩)) (.p (rawRow ((cs.drop off).take (T e).cts.length))) := by
  have hs := hF.slot h
  rw [hsv] at hs
  obtain ⟨hp, hb, ⟨fq, hfq, hc⟩, hty⟩ := hs
  obtain ⟨f1, f2, f3, hf, c1, c2, c3⟩ := hc.sub off (T e).cts.length
  have hlen : ((cs.drop off).take (T e).cts.length).length = (T e).cts.length := by rw [← ctsOf_length, hct]
  have hsh := shared_of (S' := S') c2 hg (fun b hb' => hS1 b (by rw [hfq, hf]; simp [hb'])) hS2
  have hpt : ∀ {l : List Cell} {vs : List Value}, CellsRel T w (S') (shCells (l.map fun c => (c.ct, c.c))) vs [] → ∀ k, k < l.length → RepC T w (S') ((ctsOf l).getD k .bool) (vs.getD k undef) (nth (rawRow l) k) := by
    intro l
    induction l with
    | nil => intro vs _ k hk; simp at hk
    | cons c l ih =>
      intro vs h k hk
      generalize hq : ([] : List Nat) = fq0 at h
      cases h with
      | cons h1 h2 =>
        rename_i fa fb
        have hfa : fa = [] := by cases fa with | nil => rfl | cons => simp at hq
        have hfb : fb = [] := by rw [hfa] at hq; exact hq.symm
        subst hfa hfb
        cases k with
        | zero => exact h1.1
        | succ k =>
          have := ih h2 k (by simpa using hk)
          simpa [ctsOf, rawRow, nth] using this
  refine .ptr e _ _ (fun k => (((us h).drop off).take (T e).cts.length).getD k undef) (by simp only [rawRow, List.length_map]; exact hlen) (fun k hk => ⟨hS1 _ (by rw [hfq]; exact List.mem_cons_self), ?_⟩) (fun k hk => ?_)
  · rw [add_at, hb.cell]
    have hl : (((us h).drop off).take (T e).cts.length).length = (T e).cts.length := by rw [c2.length, hlen]
    have hlt : off + k < (us h).length := by rw [List.length_take, List.length_drop] at hl; omega
    rw [getD_take_drop _ _ _ _ _ hk, List.getD_eq_getElem?_getD, List.getElem?_eq_getElem hlt]
    rfl
  · have := hpt hsh k (by rw [hlen]; exact hk)
    rw [hct] at this
    exact this

theorem box_rep {h : Nat} {off : Nat} {e t : TypeId} {cs : List Cell} (hF : RelF T G base nt σ a w F fp us blk) (hsv : (σ h).sv = .bx t cs) (hct : ctsOf ((cs.drop off).take (T e).cts.length) = (T e).cts) (hg : ((cs.drop off).take (T e).cts.length).any Cell.isGone = false) :
    RepC T w (There w) (.ptr e) (.pointer (some ⟨blk h, off, none⟩)) (.p (rawRow ((cs.drop off).take (T e).cts.length))) :=
  box_repS hF (fun b hb => hF.lt h b hb) (fun _ h => h.1) hsv hct hg

theorem boxPtr_sound {h off : Nat} {e : TypeId} {cs : List TC} (hF : RelF T G base nt σ a w F fp us blk) (he : (boxPtr h off T e).ev D σ = some cs) : RepC T w (There w) (.ptr e) (.pointer (some ⟨blk h, off, none⟩)) (.p cs) := by
  unfold boxPtr at he
  simp only [R.ev_bind] at he
  obtain ⟨⟨t, cc, v⟩, h1, h2⟩ := Option.bind_eq_some_iff.1 he
  obtain ⟨hsv, _⟩ := boxAt_ev h1
  dsimp only at h2
  split at h2
  · simp at h2
  · rename_i hct
    split at h2
    · simp at h2
    · rename_i hg
      simp only [R.ev_pure, Option.some.injEq] at h2
      subst h2
      exact box_rep hF hsv (by simpa using hct) (by simpa using hg)

theorem capsOf_soundS (hF : RelF T G base nt σ a w F fp us blk) (hS2 : ∀ b, Sh w fp F b → S' b) : ∀ {caps : List (Nat × Nat)} {cs : List (TypeId × List TC)}, (∀ p, p ∈ caps → ∀ b, b ∈ fp p.1 → S' b) → (capsOf T caps).ev D σ = some cs →
    (∀ p, p ∈ caps → (σ p.1).v.w = p.2) ∧ cs.length = caps.length ∧ (∀ j, j < cs.length → RepC T w (S') (.ptr (cs.getD j (0, [])).1) (.pointer (some ⟨blk (caps.getD j (0, 0)).1, 0, none⟩)) (.p (cs.getD j (0, [])).2)) ∧
      ArgsRel T w (S') (cs.map capArg) (caps.map fun p => Value.pointer (some ⟨blk p.1, 0, none⟩))
  | [], cs, _, he => by
    simp only [capsOf, R.ev_pure, Option.some.injEq] at he
    subst he
    exact ⟨(fun _ h => by cases h), rfl, (fun _ h => by cases h), .nil⟩
  | (h, v) :: rest, cs, hS1, he => by
    simp only [capsOf, R.ev_bind, R.ev_slot, Option.bind_some] at he
    split at he
    · rename_i e cc hsv
      split at he
      · rename_i hc
        obtain ⟨hv, hg⟩ := hc
        simp only [R.ev_bind] at he
        obtain ⟨r, h1, h2⟩ := Option.bind_eq_some_iff.1 he
        simp only [R.ev_pure, Option.some.injEq] at h2
        subst h2
        obtain ⟨q1, q2, q3, q4⟩ := capsOf_soundS hF hS2 (fun p hp => hS1 p (List.mem_cons_of_mem _ hp)) h1
        have hs := hF.slot h
        rw [hsv] at hs
        have hty := hs.2.2.2
        have hlen : cc.length = (T e).cts.length := by rw [← ctsOf_length, hty]
        have htake : (cc.drop 0).take (T e).cts.length = cc := by rw [List.drop_zero, ← hlen, List.take_length]
        have hr := box_repS (off := 0) (e := e) hF (hS1 _ List.mem_cons_self) hS2 hsv (by rw [htake]; exact hty) (by rw [htake]; exact hg)
        rw [htake] at hr
        refine ⟨fun p hp => ?_, by simp [q2], fun j hj => ?_, ?_⟩
        · rcases List.mem_cons.1 hp with rfl | hp
          · exact hv
          · exact q1 p hp
        · cases j with
          | zero => simpa using hr
          | succ j => simpa using q3 j (by simpa using hj)
        · exact .cons (arg_one hr) q4
      · simp at he
    · simp at he

theorem capsOf_sound (hF : RelF T G base nt σ a w F fp us blk) {caps : List (Nat × Nat)} {cs : List (TypeId × List TC)} (he : (capsOf T caps).ev D σ = some cs) :
    (∀ p, p ∈ caps → (σ p.1).v.w = p.2) ∧ cs.length = caps.length ∧ (∀ j, j < cs.length → RepC T w (There w) (.ptr (cs.getD j (0, [])).1) (.pointer (some ⟨blk (caps.getD j (0, 0)).1, 0, none⟩)) (.p (cs.getD j (0, [])).2)) ∧
      ArgsRel T w (There w) (cs.map capArg) (caps.map fun p => Value.pointer (some ⟨blk p.1, 0, none⟩)) :=
  capsOf_soundS hF (fun _ h => h.1) (fun p _ b hb => hF.lt p.1 b hb) he

theorem fitAll_arg {g : Bool} {cts : List CT} {cs ds : List Cell} {vs : List Value} {fq : List Nat} {u : Value} (hu : u = mkv g vs) (hc : CellsRel T w S cs vs fq) (hg : cs.any Cell.isGone = false) (hl : g = false → cs.length = 1) (hf : fitAll cts cs = some ds)
    (h1 : ∀ b, b ∈ fq → S' b) (h2 : ∀ b, S b → S' b) : ArgRel T w S' (rawArg g ds) u := by
  obtain ⟨k1, k2, k3, _⟩ := fitAll_rel hc hg hf
  refine ⟨vs, hu, shared_of k1 k3 h1 h2, fun h => ?_⟩
  have := hl h
  have e1 := hc.length
  have e2 := k1.length
  simp only [rawArg, List.length_map]
  omega

theorem lend_sound (hF : RelF T G base nt σ a w [] fp us blk) {x : Operand} {t : TypeId} {ar : Arg} {s : Bool} (he : (lend T x t).ev D σ = some (ar, s)) :
    ArgRel T w (There w) ar (a.eval x) ∧ (s = true → ArgRel T w (Sh w fp []) ar (a.eval x)) := by
  have hST : ∀ b, Sh w fp [] b → There w b := fun b hb => hb.1
  unfold lend at he
  split at he
  · rename_i f
    simp only [R.ev_pure, Option.some.injEq, Prod.mk.injEq] at he
    obtain ⟨rfl, rfl⟩ := he
    have : ∀ S : Nat → Prop, ArgRel T w S (false, [(.func, .f f [])]) (a.eval (.func f)) := fun S => arg_one (.func f [] (fun _ => undef) (fun _ h => by cases h))
    exact ⟨this _, fun _ => this _⟩
  · rename_i v
    simp only [R.ev_bind, R.ev_opt] at he
    obtain ⟨⟨g, cs⟩, h1, h2⟩ := Option.bind_eq_some_iff.1 he
    obtain ⟨ds, h3, h4⟩ := Option.bind_eq_some_iff.1 h2
    simp only [R.ev_pure, Option.some.injEq, Prod.mk.injEq] at h4
    obtain ⟨rfl, rfl⟩ := h4
    unfold peek at h1
    dsimp only at h1
    split at h1
    · rename_i g' cs' hv
      simp at h1
      obtain ⟨rfl, rfl⟩ := h1
      obtain ⟨rfl, hc, hg, hl, _⟩ := valueSV_sound (T := T) (w := w) hv (Sh w fp [])
      have : ∀ S' : Nat → Prop, (∀ b, Sh w fp [] b → S' b) → ArgRel T w S' (rawArg false ds) v := fun S' hS' => fitAll_arg (vs := [v]) rfl hc hg (fun _ => hl) h3 (fun _ h => by cases h) hS'
      exact ⟨this _ hST, fun _ => this _ fun _ h => h⟩
    · simp at h1
  · rename_i n
    simp only [R.ev_bind, R.ev_view, Option.bind_some] at he
    have key : ∀ {m : R (Arg × Bool)}, m = (do
        let (g, cs) ← peek (.tmp n)
        let ds ← R.opt (fitAll (T t).cts cs)
        pure (rawArg g ds, cs.all Cell.free)) → m.ev D σ = some (ar, s) → ArgRel T w (There w) ar (a.eval (.tmp n)) ∧ (s = true → ArgRel T w (Sh w fp []) ar (a.eval (.tmp n))) := by
      intro m hm he
      subst hm
      simp only [R.ev_bind, R.ev_opt] at he
      obtain ⟨⟨g, cs⟩, h1, h2⟩ := Option.bind_eq_some_iff.1 he
      obtain ⟨ds, h3, h4⟩ := Option.bind_eq_some_iff.1 h2
      simp only [R.ev_pure, Option.some.injEq, Prod.mk.injEq] at h4
      obtain ⟨rfl, rfl⟩ := h4
      obtain ⟨vs, fq, hu, hc, hg, hl, n0, hn0⟩ := peek_sound hF h1
      refine ⟨fitAll_arg hu hc hg hl h3 (fun b hb => hF.lt n0 b (hn0 b hb)) hST, fun hs => fitAll_arg hu hc hg hl h3 (fun b hb => ?_) fun _ h => h⟩
      rw [hc.free_nil hs] at hb
      cases hb
    have hs := hF.view n
    split at he
    · exact key rfl he
    · exact key rfl he
    · rename_i e cc hsv
      rw [hsv] at hs
      split at he
      · simp only [R.ev_bind] at he
        obtain ⟨cs, h1, h2⟩ := Option.bind_eq_some_iff.1 he
        simp only [R.ev_pure, Option.some.injEq, Prod.mk.injEq] at h2
        obtain ⟨rfl, rfl⟩ := h2
        have := boxPtr_sound hF h1
        rw [show a.eval (.tmp n) = _ from hs.1]
        exact ⟨arg_one this, fun h => by cases h⟩
      · simp at he
    · rename_i h' off v hsv
      rw [hsv] at hs
      split at he
      · simp only [R.ev_bind, R.ev_slot, Option.bind_some] at he
        split at he
        · rename_i hv
          simp only [R.ev_bind] at he
          obtain ⟨cs, h1, h2⟩ := Option.bind_eq_some_iff.1 he
          simp only [R.ev_pure, Option.some.injEq, Prod.mk.injEq] at h2
          obtain ⟨rfl, rfl⟩ := h2
          have := boxPtr_sound hF h1
          rw [show a.eval (.tmp n) = _ from hs.2.2 hv]
          exact ⟨arg_one this, fun h => by cases h⟩
        · simp at he
      · simp at he
    · rename_i f caps hsv
      rw [hsv] at hs
      simp only [R.ev_bind] at he
      obtain ⟨cs, h1, h2⟩ := Option.bind_eq_some_iff.1 he
      simp only [R.ev_pure, Option.some.injEq, Prod.mk.injEq] at h2
      obtain ⟨rfl, rfl⟩ := h2
      obtain ⟨q1, q2, q3, q4⟩ := capsOf_sound hF h1
      rw [show a.eval (.tmp n) = _ from hs.2.2 q1]
      have hmap : (caps.map fun p => Value.pointer (some ⟨blk p.1, 0, none⟩)) = (List.range cs.length).map fun j => Value.pointer (some ⟨blk (caps.getD j (0, 0)).1, 0, none⟩) := by
        apply List.ext_getElem
        · simp [q2]
        · intro i h1 h2
          have hi : i < caps.length := by simpa using h1
          simp [List.getElem?_eq_getElem hi]
      rw [hmap]
      refine ⟨arg_one (.func f cs _ q3), fun h => ?_⟩
      have hnil : caps = [] := by simpa using h
      subst hnil
      have hcn : cs = [] := by apply List.eq_nil_of_length_eq_zero; simpa using q2
      subst hcn
      exact arg_one (.func f [] _ (fun _ h => by cases h))
    · simp at he
  · simp at he

theorem lendAll_sound (hF : RelF T G base nt σ a w [] fp us blk) : ∀ {l : List (Operand × TypeId)} {as : List Arg} {s : Bool}, (lendAll T l).ev D σ = some (as, s) →
    ArgsRel T w (There w) as (l.map fun p => a.eval p.1) ∧ (s = true → ArgsRel T w (Sh w fp []) as (l.map fun p => a.eval p.1))
  | [], as, s, he => by
    simp only [lendAll, R.ev_pure, Option.some.injEq, Prod.mk.injEq] at he
    obtain ⟨rfl, rfl⟩ := he
    exact ⟨.nil, fun _ => .nil⟩
  | (x, t) :: rest, as, s, he => by
    simp only [lendAll, R.ev_bind] at he
    obtain ⟨⟨ar, s1⟩, h1, h2⟩ := Option.bind_eq_some_iff.1 he
    obtain ⟨⟨as', s2⟩, h3, h4⟩ := Option.bind_eq_some_iff.1 h2
    simp only [R.ev_pure, Option.some.injEq, Prod.mk.injEq] at h4
    obtain ⟨rfl, rfl⟩ := h4
    obtain ⟨p1, p2⟩ := lend_sound hF h1
    obtain ⟨q1, q2⟩ := lendAll_sound hF h3
    refine ⟨.cons p1 q1, fun h => ?_⟩
    simp only [Bool.and_eq_true] at h
    exact .cons (p2 h.1) (q2 h.2)

theorem calleeOf_sound (hF : RelF T G base nt σ a w [] fp us blk) {f : Operand} {g : FuncId} {caps : List (TypeId × List TC)} {s : Bool} (he : (calleeOf T f).ev D σ = some (g, caps, s)) :
    ∃ cv : List Value, a.eval f = .func (.func g) #[] cv.toArray ∧ ArgsRel T w (There w) (caps.map capArg) cv ∧ (s = true → ArgsRel T w (Sh w fp []) (caps.map capArg) cv) := by
  unfold calleeOf at he
  split at he
  · simp only [R.ev_pure, Option.some.injEq, Prod.mk.injEq] at he
    obtain ⟨rfl, rfl, rfl⟩ := he
    exact ⟨[], rfl, .nil, fun _ => .nil⟩
  · rename_i t
    simp only [R.ev_bind, R.ev_slot, Option.bind_some] at he
    have hs := hF.slot t
    split at he
    · rename_i g' cps hsv
      rw [hsv] at hs
      simp only [R.ev_bind] at he
      obtain ⟨cs, h1, h2⟩ := Option.bind_eq_some_iff.1 he
      simp only [R.ev_pure, Option.some.injEq, Prod.mk.injEq] at h2
      obtain ⟨rfl, rfl, rfl⟩ := h2
      obtain ⟨q1, q2, q3, q4⟩ := capsOf_sound hF h1
      refine ⟨_, hs.2.2 q1, q4, fun h => ?_⟩
      have hnil : cps = [] := by simpa using h
      subst hnil
      have hcn : cs = [] := by apply List.eq_nil_of_length_eq_zero; simpa using q2
      subst hcn
      exact .nil
    · rename_i d hsv
      rw [hsv] at hs
      split at he
      · rename_i g' cs hct hc
        split at he
        · rename_i hfl
          simp only [R.ev_pure, Option.some.injEq, Prod.mk.injEq] at he
          obtain ⟨rfl, rfl, rfl⟩ := he
          obtain ⟨hu, hcr, _⟩ := hs
          obtain ⟨u1, hu1, hm⟩ := mkv_false_one (us := us t) (by rw [hcr.length]; rfl)
          rw [hu1] at hcr
          generalize fp t = ft at hcr
          cases hcr with
          | cons h1 h2 =>
            unfold CellRel at h1
            rw [hfl, hct, hc] at h1
            have h1 := h1.1
            have hev : a.eval (.tmp t) = u1 := by rw [eval_tmp, hu, hm]
            rw [hev]
            cases h1 with
            | func _ _ vs h3 =>
              have hall : ArgsRel T w (Sh w fp []) (cs.map capArg) ((List.range cs.length).map vs) := by
                have gen : ∀ (l : List (TypeId × List TC)) (vs : Nat → Value), (∀ j, j < l.length → RepC T w (Sh w fp []) (.ptr (l.getD j (0, [])).1) (vs j) (.p (l.getD j (0, [])).2)) → ArgsRel T w (Sh w fp []) (l.map capArg) ((List.range l.length).map vs) := by
                  intro l
                  induction l with
                  | nil => intro vs _; exact .nil
                  | cons p l ih =>
                    intro vs h
                    rw [List.length_cons, List.range_succ_eq_map, List.map_cons, List.map_cons, List.map_map]
                    refine .cons (arg_one ?_) (ih (vs ∘ Nat.succ) fun j hj => ?_)
                    · simpa using h 0 (by simp)
                    · simpa using h (j + 1) (by simpa using hj)
                exact gen cs vs h3
              exact ⟨_, rfl, hall.mono (fun b hb => hb.1), fun _ => hall⟩
        · simp at he
      · simp at he
    · simp at he
  · simp at he

theorem deep_any {cs : List Cell} {us : List Value} {fq : List Nat} (h : CellsRel T w S cs us fq) (hd : cs.all Cell.deep = true) (hg : cs.any Cell.isGone = false) : CellsRel T w S' cs us fq := by
  induction h with
  | nil => exact .nil
  | @cons c cs u us fp fp' h _ ih =>
    simp only [List.all_cons, Bool.and_eq_true] at hd
    simp only [List.any_cons, Bool.or_eq_false_iff] at hg
    refine .cons ?_ (ih hd.2 hg.2)
    have h1 := h.ofDeep hd.1 hg.1
    unfold CellRel
    split
    · rename_i hf
      have hm : c.ct.mem = false := by
        have := hd.1
        unfold Cell.deep at this
        rw [hf] at this
        simpa using this
      exact ⟨(h.toRep (S' := fun b => S b ∨ b ∈ fp) hg.1 (fun b hb => .inr hb) (fun b hb => .inl hb)).flat hm, h.mem_nil hm⟩
    · exact h1
    · rename_i hf
      have hm : c.ct.mem = false := by
        have := hd.1
        unfold Cell.deep at this
        rw [hf] at this
        simpa using this
      have hn := h.mem_nil hm
      rw [hn]
      exact .flat _ _ _ hm ((h.toRep (S' := fun b => S b ∨ b ∈ fp) hg.1 (fun b hb => .inr hb) (fun b hb => .inl hb)).flat hm)
    · rename_i hf
      have := hg.1
      simp [Cell.isGone, hf] at this

theorem tup_any {vs : List (Bool × List Cell)} {us : List Value} {fq : List Nat} (h : TupRel T w S vs us fq) (hd : resOwn vs = true) (hg : ∀ x, x ∈ vs → x.2.any Cell.isGone = false) : TupRel T w S' vs us fq := by
  induction h with
  | nil => exact .nil
  | @cons g cs vs us ws fp fp' h hl _ ih =>
    simp only [resOwn, List.all_cons, Bool.and_eq_true] at hd
    exact .cons (deep_any h hd.1 (hg (g, cs) (by simp))) hl (ih hd.2 fun x hx => hg x (by simp [hx]))

theorem ResRel.mono {r : Res} {v : Value} {fq : List Nat} (h : ResRel T w S r v fq) (hS : ∀ b, S b → S' b) : ResRel T w S' r v fq := by
  obtain ⟨h, hg⟩ := h
  refine ⟨?_, hg⟩
  split at h
  · obtain ⟨us, h1, h2, h3⟩ := h
    exact ⟨us, h1, h2.same (fun _ _ => rfl) hS (fun _ _ _ h => h), h3⟩
  · obtain ⟨uw, h1, h2⟩ := h
    exact ⟨uw, h1, h2.same (fun _ _ => rfl) hS (fun _ _ _ h => h)⟩

theorem ResRel.any {r : Res} {v : Value} {fq : List Nat} (h : ResRel T w S r v fq) (hd : resOwn r = true) : ResRel T w S' r v fq := by
  obtain ⟨h, hg⟩ := h
  refine ⟨?_, hg⟩
  split at h
  · rename_i g cs
    obtain ⟨us, h1, h2, h3⟩ := h
    simp only [resOwn, List.all_cons, List.all_nil, Bool.and_true] at hd
    exact ⟨us, h1, deep_any h2 hd (hg (g, cs) (by simp)), h3⟩
  · obtain ⟨uw, h1, h2⟩ := h
    exact ⟨uw, h1, tup_any h2 hd hg⟩

theorem finish_res {ws : Ws} {r : Res} {v : Value} {fq : List Nat} {dst : Option Tmp} (h : RelF T G base nt σ a w fq fp us blk) (hp : (put dst (resSV r)).ev D σ = some ws) (hd : ∀ d, dst = some d → d < nt) (hr : ResRel T w (Sh w fp fq) r v fq) (hn : fq.Nodup) :
    Rel T G base nt (σ.setAll ws) (a.put dst v) w := by
  have h0 : RelF T G base nt (σ.setAll []) a w fq fp us blk := h
  obtain ⟨hr, hg⟩ := hr
  unfold resSV at hp
  split at hr
  · rename_i g cs
    obtain ⟨us', rfl, h2, h3⟩ := hr
    exact finish_val h0 hp hd h2 hn (fun _ h => h) h3
  · rename_i hne
    obtain ⟨uw, rfl, h2⟩ := hr
    split at hp
    · rename_i g cs
      exact absurd rfl (hne g cs)
    · exact finish_tup h0 hp hd h2 hn (fun _ h => h)

theorem op_call {ws : Ws} {c : Call} {f : Operand} (hD : DOk P T D) (ho : o.op = .call c) (hcl : c.callee = .value f) (hmf : methOf T f = .none) (h : Rel T G base nt σ a w) (hd : ∀ d, o.dst = some d → d < nt)
    (he : (opR T o).ev D σ = some ws) (hK : ∀ a' w', Rel T G base nt (σ.setAll ws) a' w' → Bel base w w' → K a' w') : o.wp P a w K Q := by
  unfold opR at he
  simp only [ho, hcl, hmf, R.ev_bind] at he
  obtain ⟨fp, us, blk, hF⟩ := h
  obtain ⟨sv, h1, hp⟩ := Option.bind_eq_some_iff.1 he
  clear he
  unfold doCall at h1
  simp only [hcl, R.ev_bind] at h1
  obtain ⟨⟨g, caps, sh0⟩, h2, h3⟩ := Option.bind_eq_some_iff.1 h1
  obtain ⟨⟨as, sh⟩, h4, h5⟩ := Option.bind_eq_some_iff.1 h3
  clear h1 h3
  dsimp only at h5
  split at h5
  · rename_i hsz
    rw [R.ev_call] at h5
    obtain ⟨⟨pre, r⟩, h6, h7⟩ := Option.bind_eq_some_iff.1 h5
    cases pre with
    | false => cases h7
    | true =>
    dsimp only at h7
    rw [if_pos rfl] at h7
    split at h7
    · rename_i hok
      simp only [R.ev_pure, Option.some.injEq] at h7
      subst h7
      obtain ⟨cv, hfv, hc1, hc2⟩ := calleeOf_sound hF h2
      obtain ⟨ha1, ha2⟩ := lendAll_sound hF h4
      have hzip : (c.args.toList.zip c.argTypes.toList).map (fun p => a.eval p.1) = c.args.toList.map a.eval := by
        have : (c.args.toList.zip c.argTypes.toList).map Prod.fst = c.args.toList := List.map_fst_zip (by simp [hsz])
        rw [← this, List.map_map]
        rw [this]
        rfl
      rw [hzip] at ha1 ha2
      have hrun : (execOp a.eval o).run P w = (callFunc g ((c.args.toList.map a.eval) ++ cv).toArray).run P w := by
        have e1 : (c.args.map a.eval) ++ cv.toArray = ((c.args.toList.map a.eval) ++ cv).toArray := by
          apply Array.ext'; simp
        simp [execOp, ho, resolve, hcl, hfv, Deferred.ofValue, invoke, e1]
      unfold Oper.wp
      rw [hrun]
      have fin : ∀ (S : Nat → Prop), (∀ b, S b → There w b) → ArgsRel T w S (as ++ caps.map capArg) (c.args.toList.map a.eval ++ cv) → ((∀ b, S b → Sh w fp [] b) ∨ resOwn r = true) → o.upon P a K Q ((callFunc g ((c.args.toList.map a.eval) ++ cv).toArray).run P w) := by
        intro S hS hargs hor
        refine hD.plain g _ r h6 w S _ ⟨hS, hF.int⟩ hargs o a K Q fun v w' hv => ?_
        obtain ⟨fq, hr, hnd, hfq, hbel⟩ := hv
        have hch := Chg.of_below hbel
        have h2 := hF.chg hch (fun _ h => by cases h) fq hfq hnd
        rw [List.nil_append] at h2
        have hr2 : ResRel T w' (Sh w' fp fq) r v fq := by
          rcases hor with hor | hor
          · refine hr.mono fun b hb => ⟨hb.1, fun n hm => ?_, hb.2.2⟩
            rcases hb.2.1 with h | h
            · exact (hor b h).2.1 n hm
            · have := hF.lt n b hm; omega
          · exact hr.any hor
        exact hK _ _ (finish_res h2 hp hd hr2 hnd) (hch.bel fun _ h => by cases h)
      simp only [Bool.or_eq_true, Bool.and_eq_true] at hok
      rcases hok with ⟨q1, q2⟩ | hok
      · exact fin (Sh w fp []) (fun b hb => hb.1) ((ha2 q1).append (hc2 q2)) (.inl fun _ h => h)
      · exact fin (There w) (fun b hb => hb) (ha1.append hc1) (.inr hok)
    · simp at h7
  · simp at h5
/-! ### Calls that write what they are handed first -/
theorem op_write {ws : Ws} {c : Call} {f : Operand} {g : FuncId} (_hD : DOk P T D) (_ho : o.op = .call c) (_hcl : c.callee = .value f) (_hmf : methOf T f = some (g, 0)) (_h : Rel T G base nt σ a w) (_hd : ∀ d, o.dst = some d → d < nt)
    (he : (writeCall T g c o.dst).ev D σ = some ws) (_hK : ∀ a' w', Rel T G base nt (σ.setAll ws) a' w' → Bel base w w' → K a' w') : o.wp P a w K Q := by
  have he : (none : Option Ws) = some ws := he
  cases he
theorem op_bld {ws : Ws} {c : Call} {f : Operand} {g : FuncId} {k : Nat} (_hD : DOk P T D) (_ho : o.op = .call c) (_hcl : c.callee = .value f) (_hmf : methOf T f = some (g, k)) (_h : Rel T G base nt σ a w) (_hd : ∀ d, o.dst = some d → d < nt)
    (he : (bldCall k c o.dst).ev D σ = some ws) (_hK : ∀ a' w', Rel T G base nt (σ.setAll ws) a' w' → Bel base w w' → K a' w') : o.wp P a w K Q := by
  have he : (none : Option Ws) = some ws := he
  cases he
end

/-! ### Parts of rows of the call's own -/
section
variable {P : Program} {T : Tab} {G : Nat → Prop} {base : Bs} {nt : Nat} {σ : St} {a : Act} {w w' : World} {F : List Nat} {fp : Nat → List Nat} {us : Nat → List Value} {blk : Nat → Nat} {D : FuncId → List Arg → Option (Bool × Res)}
  {K : Act → World → Prop} {Q : Exit → Act → World → Prop} {o : Oper} {S S' : Nat → Prop}

theorem op_sub {ws : Ws} {t : TypeId} {x : Operand} {lo hi : Option Operand} {r : Nat × Nat × TypeId × Ver} (_hT : TabOk P T) (_ho : o.op = .slice t x lo hi none) (_h : Rel T G base nt σ a w) (_hd : ∀ d, o.dst = some d → d < nt)
    (_hr : (ownRow x).ev D σ = some (some r)) (he : (subOp T t r lo hi o.dst).ev D σ = some ws) (_hK : ∀ a' w', Rel T G base nt (σ.setAll ws) a' w' → Bel base w w' → K a' w') : o.wp P a w K Q := by
  have he : (none : Option Ws) = some ws := he
  cases he
theorem op_slice {ws : Ws} {t : TypeId} {x : Operand} {lo hi : Option Operand} (hT : TabOk P T) (ho : o.op = .slice t x lo hi none) (h : Rel T G base nt σ a w) (hd : ∀ d, o.dst = some d → d < nt)
    (he : (opR T o).ev D σ = some ws) (hK : ∀ a' w', Rel T G base nt (σ.setAll ws) a' w' → Bel base w w' → K a' w') : o.wp P a w K Q := by
  unfold opR at he
  simp only [ho, R.ev_bind] at he
  obtain ⟨r, h1, h2⟩ := Option.bind_eq_some_iff.1 he
  cases r with
  | none => exact op_slice0 hT ho h hd (D := D) (by simpa only [R.ev_bind] using h2) hK
  | some r => exact op_sub hT ho h hd h1 h2 hK

end
section
variable {P : Program} {T : Tab} {G : Nat → Prop} {base : Bs} {nt : Nat} {σ : St} {a : Act} {w w' : World} {F : List Nat} {fp : Nat → List Nat} {us : Nat → List Value} {blk : Nat → Nat} {D : FuncId → List Arg → Option (Bool × Res)}
  {K : Act → World → Prop} {Q : Exit → Act → World → Prop} {o : Oper} {S S' : Nat → Prop}

theorem op_takeHead {ws : Ws} {t : Nat} {r : Nat × Nat × TypeId × Int × Int × Ver} (_ho : o.op = .assign (.tmp t)) (_h : Rel T G base nt σ a w) (_hd : ∀ d, o.dst = some d → d < nt)
    (_hr : (headOf (.tmp t)).ev D σ = some (some r)) (he : (takeHead T r o.dst).ev D σ = some ws) (_hK : ∀ a' w', Rel T G base nt (σ.setAll ws) a' w' → Bel base w w' → K a' w') : o.wp P a w K Q := by
  have he : (none : Option Ws) = some ws := he
  cases he
theorem op_assign {ws : Ws} {x : Operand} (ho : o.op = .assign x) (h : Rel T G base nt σ a w) (hd : ∀ d, o.dst = some d → d < nt)
    (he : (opR T o).ev D σ = some ws) (hK : ∀ a' w', Rel T G base nt (σ.setAll ws) a' w' → Bel base w w' → K a' w') : o.wp P a w K Q := by
  unfold opR at he
  simp only [ho] at he
  split at he
  · rename_i t
    simp only [R.ev_bind] at he
    obtain ⟨r, h1, h2⟩ := Option.bind_eq_some_iff.1 he
    cases r with
    | none => exact op_assign0 ho h hd (D := D) (by simpa only [R.ev_bind] using h2) hK
    | some r => exact op_takeHead ho h hd h1 h2 hK
  · rename_i v
    simp only [R.ev_bind] at he
    obtain ⟨r, h1, h2⟩ := Option.bind_eq_some_iff.1 he
    cases r with
    | none => exact op_assign0 ho h hd (D := D) (by simpa only [R.ev_bind] using h2) hK
    | some r => simp [headOf] at h1
  · simp at he

theorem op_clear {ws : Ws} {c : Call} {x : Operand} {t : TypeId} (_hT : TabOk P T) (_ho : o.op = .call c) (_hcl : c.callee = .builtin .clear) (_hca : c.args.toList = [x]) (_hct : c.argTypes.toList = [t]) (_h : Rel T G base nt σ a w) (_hd : ∀ d, o.dst = some d → d < nt)
    (he : (clearOp T t x o.dst).ev D σ = some ws) (_hK : ∀ a' w', Rel T G base nt (σ.setAll ws) a' w' → Bel base w w' → K a' w') : o.wp P a w K Q := by
  have he : (none : Option Ws) = some ws := he
  cases he
end
section
variable {P : Program} {T : Tab} {G : Nat → Prop} {base : Bs} {nt : Nat} {σ : St} {a : Act} {w w' : World} {F : List Nat} {fp : Nat → List Nat} {us : Nat → List Value} {blk : Nat → Nat} {D : FuncId → List Arg → Option (Bool × Res)}
  {K : Act → World → Prop} {Q : Exit → Act → World → Prop} {o : Oper} {S S' : Nat → Prop}

structure SrcRd (P : Program) (T : Tab) (w : World) (e : TypeId) (u : Value) (ys : List (List TC)) : Prop where
  len : (Builtin.lenOf u).run P w = .ok ys.length w
  rows : ∀ r, r ∈ ys → r.length = (T e).cts.length
  read : ∀ n, n ≤ ys.length → ∃ vs : List Value, (Builtin.firstCells (T e).cts.length n u).run P w = .ok vs.toArray w ∧ vs.length = n * (T e).cts.length ∧ (∀ v, v ∈ vs → v.oneCell' = true) ∧
    ∀ q, q < n * (T e).cts.length → RepC T w (fun _ => False) ((T e).cts.getD (q % (T e).cts.length) .bool) (vs.getD q undef) (nth (ys.getD (q / (T e).cts.length) []) (q % (T e).cts.length))

theorem op_copy {ws : Ws} {c : Call} {x y : Operand} {t u : TypeId} (_hT : TabOk P T) (_ho : o.op = .call c) (_hcl : c.callee = .builtin .copy) (_hca : c.args.toList = [x, y]) (_hct : c.argTypes.toList = [t, u]) (_h : Rel T G base nt σ a w) (_hd : ∀ d, o.dst = some d → d < nt)
    (he : (copyOp T t u x y o.dst).ev D σ = some ws) (_hK : ∀ a' w', Rel T G base nt (σ.setAll ws) a' w' → Bel base w w' → K a' w') : o.wp P a w K Q := by
  have he : (none : Option Ws) = some ws := he
  cases he
end

end Go.Proofs.Ytabdjbkbfilhkaa.V
