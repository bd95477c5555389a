import Derived.Test.YtlombmcoklbfoaaV13
namespace Go.Proofs.Ytlombmcoklbfoaa.V
open Go Go.RowKit

def shCells (l : List (CT × TC)) : List Cell := l.map fun p => ⟨p.1, .sh, p.2⟩
def ArgRel (T : Tab) (w : World) (S : Nat → Prop) (a : Arg) (u : Value) : Prop := ∃ us, u = mkv a.1 us ∧ CellsRel T w S (shCells a.2) us [] ∧ (a.1 = false → a.2.length = 1)
inductive ArgsRel (T : Tab) (w : World) (S : Nat → Prop) : List Arg → List Value → Prop
  | nil : ArgsRel T w S [] []
  | cons {a : Arg} {u : Value} {as : List Arg} {us : List Value} : ArgRel T w S a u → ArgsRel T w S as us → ArgsRel T w S (a :: as) (u :: us)

def ResRel (T : Tab) (w : World) (S : Nat → Prop) (r : Res) (v : Value) (fq : List Nat) : Prop :=
  (match r with
    | [(g, cs)] => ∃ us, v = mkv g us ∧ CellsRel T w S cs us fq ∧ (g = false → cs.length = 1)
    | r => ∃ uw : List Value, v = .tuple uw.toArray ∧ TupRel T w S r uw fq) ∧ ∀ x, x ∈ r → x.2.any Cell.isGone = false

def Answers (P : Program) (f : FuncId) (vals : Array Value) (w : World) (R : Value → World → Prop) : Prop :=
  ∀ (o : Oper) (a : Act) (next : Act → World → Prop) (Q : Exit → Act → World → Prop), (∀ v w', R v w' → next (a.put o.dst v) w') → o.upon P a next Q ((callFunc f vals).run P w)

structure MethOk (P : Program) (T : Tab) : Prop where
  ty : BldTy P T
  write : ∀ (g : FuncId) (t e : TypeId) (w : World) (b : Nat) (l s : List UInt8) (fp : List Nat), (T (fnBase + g)).kind = .meth 1 → IsBld T w t e b l fp → fp.Nodup → l.length + s.length ≤ 140737488355328 →
    Answers P g #[.pointer (some ⟨b, 0, none⟩), .string ⟨s.toArray⟩] w fun _ w' => ∃ fp', IsBld T w' t e b (l ++ s) fp' ∧ fp'.Nodup ∧ (∀ x, x ∈ fp' → x ∈ fp ∨ (w.heap.size ≤ x ∧ x < w'.heap.size)) ∧ Chg w w' fp
  read : ∀ (g : FuncId) (t e : TypeId) (w : World) (b : Nat) (l : List UInt8) (fp : List Nat), (T (fnBase + g)).kind = .meth 2 → IsBld T w t e b l fp →
    Answers P g #[.pointer (some ⟨b, 0, none⟩)] w fun v w' => v = .string ⟨l.toArray⟩ ∧ Chg w w' fp
  len : ∀ (g : FuncId) (t e : TypeId) (w : World) (b : Nat) (l : List UInt8) (fp : List Nat), (T (fnBase + g)).kind = .meth 3 → IsBld T w t e b l fp →
    Answers P g #[.pointer (some ⟨b, 0, none⟩)] w fun v w' => v = .int .i64 (l.length : Int) ∧ Chg w w' []

structure DOk (P : Program) (T : Tab) (D : FuncId → List Arg → Option (Bool × Res)) : Prop where
  plain : ∀ (f : FuncId) (as : List Arg) (r : Res), D f as = some (true, r) → ∀ (w : World) (S : Nat → Prop) (vals : List Value), Fit T w S → ArgsRel T w S as vals →
    Answers P f vals.toArray w fun v w' => ∃ fq, ResRel T w' (fun b => b < w'.heap.size ∧ (S b ∨ w.heap.size ≤ b) ∧ b ∉ fq) r v fq ∧ fq.Nodup ∧ (∀ b, b ∈ fq → w.heap.size ≤ b ∧ b < w'.heap.size) ∧ Below w.heap.size w w'
  wri : ∀ (g : FuncId) (a0 : Arg) (as : List Arg) (gg : Bool) (ds : List Cell) (r : Res), D g (mark :: a0 :: as) = some (true, (gg, ds) :: r) → ∀ (w : World) (S : Nat → Prop) (us0 : List Value) (fp0 : List Nat) (vals : List Value), FitW T w S fp0 →
    CellsRel T w S (ownCells a0.2) us0 fp0 → (a0.1 = false → a0.2.length = 1) → fp0.Nodup → (∀ b, b ∈ fp0 → ¬ S b) → ArgsRel T w S as vals →
    Answers P g (mkv a0.1 us0 :: vals).toArray w fun v w' => ∃ (S1 : Nat → Prop) (fp' fq : List Nat), CellsRel T w' S1 ds us0 fp' ∧ ResRel T w' S1 r v fq ∧ (fp' ++ fq).Nodup ∧ (∀ b, b ∈ fp' ++ fq → (b ∈ fp0 ∨ w.heap.size ≤ b) ∧ b < w'.heap.size) ∧ Chg w w' fp0
  meth : MethOk P T

section
variable {P : Program} {T : Tab} {G : Nat → Prop} {base : Bs} {nt : Nat} {σ : St} {a : Act} {w w' : World} {F : List Nat} {fp : Nat → List Nat} {us : Nat → List Value} {blk : Nat → Nat} {D : FuncId → List Arg → Option (Bool × Res)}
  {K : Act → World → Prop} {Q : Exit → Act → World → Prop} {o : Oper} {S S' : Nat → Prop}

theorem shared_of {ds : List Cell} {vs : List Value} {fq : List Nat} (h : CellsRel T w S ds vs fq) (hg : ds.any Cell.isGone = false) (h1 : ∀ b, b ∈ fq → S' b) (h2 : ∀ b, S b → S' b) :
    CellsRel T w S' (shCells (ds.map fun c => (c.ct, c.c))) vs [] := by
  induction h with
  | nil => exact .nil
  | @cons c cs u us fp fp' h _ ih =>
    simp only [List.any_cons, Bool.or_eq_false_iff] at hg
    have := CellsRel.cons (T := T) (w := w) (S := S') (c := ⟨c.ct, .sh, c.c⟩) (u := u) (fp := []) (fp' := []) ⟨h.toRep hg.1 (fun b hb => h1 b (List.mem_append_left _ hb)) h2, rfl⟩ (ih hg.2 fun b hb => h1 b (List.mem_append_right _ hb))
    exact this

theorem ArgRel.mono {x : Arg} {u : Value} (h : ArgRel T w S x u) (hS : ∀ b, S b → S' b) : ArgRel T w S' x u := by
  obtain ⟨us, h1, h2, h3⟩ := h
  exact ⟨us, h1, h2.same (fun _ _ => rfl) hS (fun _ _ _ h => h), h3⟩
theorem ArgsRel.mono {as : List Arg} {us : List Value} (h : ArgsRel T w S as us) (hS : ∀ b, S b → S' b) : ArgsRel T w S' as us := by
  induction h with
  | nil => exact .nil
  | cons h _ ih => exact .cons (h.mono hS) ih
theorem ArgsRel.append {as bs : List Arg} {us vs : List Value} (h : ArgsRel T w S as us) (k : ArgsRel T w S bs vs) : ArgsRel T w S (as ++ bs) (us ++ vs) := by
  induction h with
  | nil => exact k
  | cons h _ ih => exact .cons h ih

theorem arg_one {ct : CT} {c : TC} {u : Value} (h : RepC T w S ct u c) : ArgRel T w S (false, [(ct, c)]) u :=
  ⟨[u], rfl, .cons (fp := []) (fp' := []) ⟨h, rfl⟩ .nil, fun _ => rfl⟩

abbrev There (w : World) (b : Nat) : Prop := b < w.heap.size

theorem box_repS {h : Nat} {off : Nat} {e t : TypeId} {cs : List Cell} (hF : RelF T G base nt σ a w F fp us blk) (hS1 : ∀ b, b ∈ fp h → S' b) (hS2 : ∀ b, Sh w fp F b → S' b) (hsv : (σ h).sv = .bx t cs) (hct : ctsOf ((cs.drop off).take (T e).cts.length) = (T e).cts) (hg : ((cs.drop off).take (T e).cts.length).any Cell.isGone = false) :
    RepC T w (S') (.ptr e) (.pointer (some ⟨blk h, off, none⟩)) (.p (rawRow ((cs.drop off).take (T e).cts.length))) := by
  have hs := hF.slot h
  rw [hsv] at hs
  obtain ⟨hp, hb, ⟨fq, hfq, hc⟩, hty⟩ := hs
  obtain ⟨f1, f2, f3, hf, c1, c2, c3⟩ := hc.sub off (T e).cts.length
  have hlen : ((cs.drop off).take (T e).cts.length).length = (T e).cts.length := by rw [← ctsOf_length, hct]
  have hsh := shared_of (S' := S') c2 hg (fun b hb' => hS1 b (by rw [hfq, hf]; simp [hb'])) hS2
  have hpt : ∀ {l : List Cell} {vs : List Value}, CellsRel T w (S') (shCells (l.map fun c => (c.ct, c.c))) vs [] → ∀ k, k < l.length → RepC T w (S') ((ctsOf l).getD k .bool) (vs.getD k undef) (nth (rawRow l) k) := by
    intro l
    induction l with
    | nil => intro vs _ k hk; simp at hk
    | cons c l ih =>
      intro vs h k hk
      generalize hq : ([] : List Nat) = fq0 at h
      cases h with
      | cons h1 h2 =>
        rename_i fa fb
        have hfa : fa = [] := by cases fa with | nil => rfl | cons => simp at hq
        have hfb : fb = [] := by rw [hfa] at hq; exact hq.symm
        subst hfa hfb
        cases k with
        | zero => exact h1.1
        | succ k =>
          have := ih h2 k (by simpa using hk)
          simpa [ctsOf, rawRow, nth] using this
  refine .ptr e _ _ (fun k => (((us h).drop off).take (T e).cts.length).getD k undef) (by simp only [rawRow, List.length_map]; exact hlen) (fun k hk => ⟨hS1 _ (by rw [hfq]; exact List.mem_cons_self), ?_⟩) (fun k hk => ?_)
  · rw [add_at, hb.cell]
    have hl : (((us h).drop off).take (T e).cts.length).length = (T e).cts.length := by rw [c2.length, hlen]
    have hlt : off + k < (us h).length := by rw [List.length_take, List.length_drop] at hl; omega
    rw [getD_take_drop _ _ _ _ _ hk, List.getD_eq_getElem?_getD, List.getElem?_eq_getElem hlt]
    rfl
  · have := hpt hsh k (by rw [hlen]; exact hk)
    rw [hct] at this
    exact this

theorem box_rep {h : Nat} {off : Nat} {e t : TypeId} {cs : List Cell} (hF : RelF T G base nt σ a w F fp us blk) (hsv : (σ h).sv = .bx t cs) (hct : ctsOf ((cs.drop off).take (T e).cts.length) = (T e).cts) (hg : ((cs.drop off).take (T e).cts.length).any Cell.isGone = false) :
    RepC T w (There w) (.ptr e) (.pointer (some ⟨blk h, off, none⟩)) (.p (rawRow ((cs.drop off).take (T e).cts.length))) :=
  box_repS hF (fun b hb => hF.lt h b hb) (fun _ h => h.1) hsv hct hg

theorem boxPtr_sound {h off : Nat} {e : TypeId} {cs : List TC} (hF : RelF T G base nt σ a w F fp us blk) (he : (boxPtr h off T e).ev D σ = some cs) : RepC T w (There w) (.ptr e) (.pointer (some ⟨blk h, off, none⟩)) (.p cs) := by
  unfold boxPtr at he
  simp only [R.ev_bind] at he
  obtain ⟨⟨t, cc, v⟩, h1, h2⟩ := Option.bind_eq_some_iff.1 he
  obtain ⟨hsv, _⟩ := boxAt_ev h1
  dsimp only at h2
  split at h2
  · simp at h2
  · rename_i hct
    split at h2
    · simp at h2
    · rename_i hg
      simp only [R.ev_pure, Option.some.injEq] at h2
      subst h2
      exact box_rep hF hsv (by simpa using hct) (by simpa using hg)

theorem capsOf_soundS (hF : RelF T G base nt σ a w F fp us blk) (hS2 : ∀ b, Sh w fp F b → S' b) : ∀ {caps : List (Nat × Nat)} {cs : List (TypeId × List TC)}, (∀ p, p ∈ caps → ∀ b, b ∈ fp p.1 → S' b) → (capsOf T caps).ev D σ = some cs →
    (∀ p, p ∈ caps → (σ p.1).v.w = p.2) ∧ cs.length = caps.length ∧ (∀ j, j < cs.length → RepC T w (S') (.ptr (cs.getD j (0, [])).1) (.pointer (some ⟨blk (caps.getD j (0, 0)).1, 0, none⟩)) (.p (cs.getD j (0, [])).2)) ∧
      ArgsRel T w (S') (cs.map capArg) (caps.map fun p => Value.pointer (some ⟨blk p.1, 0, none⟩))
  | [], cs, _, he => by
    simp only [capsOf, R.ev_pure, Option.some.injEq] at he
    subst he
    exact ⟨(fun _ h => by cases h), rfl, (fun _ h => by cases h), .nil⟩
  | (h, v) :: rest, cs, hS1, he => by
    simp only [capsOf, R.ev_bind, R.ev_slot, Option.bind_some] at he
    split at he
    · rename_i e cc hsv
      split at he
      · rename_i hc
        obtain ⟨hv, hg⟩ := hc
        simp only [R.ev_bind] at he
        obtain ⟨r, h1, h2⟩ := Option.bind_eq_some_iff.1 he
        simp only [R.ev_pure, Option.some.injEq] at h2
        subst h2
        obtain ⟨q1, q2, q3, q4⟩ := capsOf_soundS hF hS2 (fun p hp => hS1 p (List.mem_cons_of_mem _ hp)) h1
        have hs := hF.slot h
        rw [hsv] at hs
        have hty := hs.2.2.2
        have hlen : cc.length = (T e).cts.length := by rw [← ctsOf_length, hty]
        have htake : (cc.drop 0).take (T e).cts.length = cc := by rw [List.drop_zero, ← hlen, List.take_length]
        have hr := box_repS (off := 0) (e := e) hF (hS1 _ List.mem_cons_self) hS2 hsv (by rw [htake]; exact hty) (by rw [htake]; exact hg)
        rw [htake] at hr
        refine ⟨fun p hp => ?_, by simp [q2], fun j hj => ?_, ?_⟩
        · rcases List.mem_cons.1 hp with rfl | hp
          · exact hv
          · exact q1 p hp
        · cases j with
          | zero => simpa using hr
          | succ j => simpa using q3 j (by simpa using hj)
        · exact .cons (arg_one hr) q4
      · simp at he
    · simp at he

theorem capsOf_sound (hF : RelF T G base nt σ a w F fp us blk) {caps : List (Nat × Nat)} {cs : List (TypeId × List TC)} (he : (capsOf T caps).ev D σ = some cs) :
    (∀ p, p ∈ caps → (σ p.1).v.w = p.2) ∧ cs.length = caps.length ∧ (∀ j, j < cs.length → RepC T w (There w) (.ptr (cs.getD j (0, [])).1) (.pointer (some ⟨blk (caps.getD j (0, 0)).1, 0, none⟩)) (.p (cs.getD j (0, [])).2)) ∧
      ArgsRel T w (There w) (cs.map capArg) (caps.map fun p => Value.pointer (some ⟨blk p.1, 0, none⟩)) :=
  capsOf_soundS hF (fun _ h => h.1) (fun p _ b hb => hF.lt p.1 b hb) he

theorem fitAll_arg {g : Bool} {cts : List CT} {cs ds : List Cell} {vs : List Value} {fq : List Nat} {u : Value} (hu : u = mkv g vs) (hc : CellsRel T w S cs vs fq) (hg : cs.any Cell.isGone = false) (hl : g = false → cs.length = 1) (hf : fitAll cts cs = some ds)
    (h1 : ∀ b, b ∈ fq → S' b) (h2 : ∀ b, S b → S' b) : ArgRel T w S' (rawArg g ds) u := by
  obtain ⟨k1, k2, k3, _⟩ := fitAll_rel hc hg hf
  refine ⟨vs, hu, shared_of k1 k3 h1 h2, fun h => ?_⟩
  have := hl h
  have e1 := hc.length
  have e2 := k1.length
  simp only [rawArg, List.length_map]
  omega

theorem lend_sound (hF : RelF T G base nt σ a w [] fp us blk) {x : Operand} {t : TypeId} {ar : Arg} {s : Bool} (he : (lend T x t).ev D σ = some (ar, s)) :
    ArgRel T w (There w) ar (a.eval x) ∧ (s = true → ArgRel T w (Sh w fp []) ar (a.eval x)) := by
  have hST : ∀ b, Sh w fp [] b → There w b := fun b hb => hb.1
  unfold lend at he
  split at he
  · rename_i f
    simp only [R.ev_pure, Option.some.injEq, Prod.mk.injEq] at he
    obtain ⟨rfl, rfl⟩ := he
    have : ∀ S : Nat → Prop, ArgRel T w S (false, [(.func, .f f [])]) (a.eval (.func f)) := fun S => arg_one (.func f [] (fun _ => undef) (fun _ h => by cases h))
    exact ⟨this _, fun _ => this _⟩
  · rename_i v
    simp only [R.ev_bind, R.ev_opt] at he
    obtain ⟨⟨g, cs⟩, h1, h2⟩ := Option.bind_eq_some_iff.1 he
    obtain ⟨ds, h3, h4⟩ := Option.bind_eq_some_iff.1 h2
    simp only [R.ev_pure, Option.some.injEq, Prod.mk.injEq] at h4
    obtain ⟨rfl, rfl⟩ := h4
    unfold peek at h1
    dsimp only at h1
    split at h1
    · rename_i g' cs' hv
      simp at h1
      obtain ⟨rfl, rfl⟩ := h1
      obtain ⟨rfl, hc, hg, hl, _⟩ := valueSV_sound (T := T) (w := w) hv (Sh w fp [])
      have : ∀ S' : Nat → Prop, (∀ b, Sh w fp [] b → S' b) → ArgRel T w S' (rawArg false ds) v := fun S' hS' => fitAll_arg (vs := [v]) rfl hc hg (fun _ => hl) h3 (fun _ h => by cases h) hS'
      exact ⟨this _ hST, fun _ => this _ fun _ h => h⟩
    · simp at h1
  · rename_i n
    simp only [R.ev_bind, R.ev_view, Option.bind_some] at he
    have key : ∀ {m : R (Arg × Bool)}, m = (do
        let (g, cs) ← peek (.tmp n)
        let ds ← R.opt (fitAll (T t).cts cs)
        pure (rawArg g ds, cs.all Cell.free)) → m.ev D σ = some (ar, s) → ArgRel T w (There w) ar (a.eval (.tmp n)) ∧ (s = true → ArgRel T w (Sh w fp []) ar (a.eval (.tmp n))) := by
      intro m hm he
      subst hm
      simp only [R.ev_bind, R.ev_opt] at he
      obtain ⟨⟨g, cs⟩, h1, h2⟩ := Option.bind_eq_some_iff.1 he
      obtain ⟨ds, h3, h4⟩ := Option.bind_eq_some_iff.1 h2
      simp only [R.ev_pure, Option.some.injEq, Prod.mk.injEq] at h4
      obtain ⟨rfl, rfl⟩ := h4
      obtain ⟨vs, fq, hu, hc, hg, hl, n0, hn0⟩ := peek_sound hF h1
      refine ⟨fitAll_arg hu hc hg hl h3 (fun b hb => hF.lt n0 b (hn0 b hb)) hST, fun hs => fitAll_arg hu hc hg hl h3 (fun b hb => ?_) fun _ h => h⟩
      rw [hc.free_nil hs] at hb
      cases hb
    have hs := hF.view n
    split at he
    · exact key rfl he
    · exact key rfl he
    · rename_i e cc hsv
      rw [hsv] at hs
      split at he
      · simp only [R.ev_bind] at he
        obtain ⟨cs, h1, h2⟩ := Option.bind_eq_some_iff.1 he
        simp only [R.ev_pure, Option.some.injEq, Prod.mk.injEq] at h2
        obtain ⟨rfl, rfl⟩ := h2
        have := boxPtr_sound hF h1
        rw [show a.eval (.tmp n) = _ from hs.1]
        exact ⟨arg_one this, fun h => by cases h⟩
      · simp at he
    · rename_i h' off v hsv
      rw [hsv] at hs
      split at he
      · simp only [R.ev_bind, R.ev_slot, Option.bind_some] at he
        split at he
        · rename_i hv
          simp only [R.ev_bind] at he
          obtain ⟨cs, h1, h2⟩ := Option.bind_eq_some_iff.1 he
          simp only [R.ev_pure, Option.some.injEq, Prod.mk.injEq] at h2
          obtain ⟨rfl, rfl⟩ := h2
          have := boxPtr_sound hF h1
          rw [show a.eval (.tmp n) = _ from hs.2.2 hv]
          exact ⟨arg_one this, fun h => by cases h⟩
        · simp at he
      · simp at he
    · rename_i f caps hsv
      rw [hsv] at hs
      simp only [R.ev_bind] at he
      obtain ⟨cs, h1, h2⟩ := Option.bind_eq_some_iff.1 he
      simp only [R.ev_pure, Option.some.injEq, Prod.mk.injEq] at h2
      obtain ⟨rfl, rfl⟩ := h2
      obtain ⟨q1, q2, q3, q4⟩ := capsOf_sound hF h1
      rw [show a.eval (.tmp n) = _ from hs.2.2 q1]
      have hmap : (caps.map fun p => Value.pointer (some ⟨blk p.1, 0, none⟩)) = (List.range cs.length).map fun j => Value.pointer (some ⟨blk (caps.getD j (0, 0)).1, 0, none⟩) := by
        apply List.ext_getElem
        · simp [q2]
        · intro i h1 h2
          have hi : i < caps.length := by simpa using h1
          simp [List.getElem?_eq_getElem hi]
      rw [hmap]
      refine ⟨arg_one (.func f cs _ q3), fun h => ?_⟩
      have hnil : caps = [] := by simpa using h
      subst hnil
      have hcn : cs = [] := by apply List.eq_nil_of_length_eq_zero; simpa using q2
      subst hcn
      exact arg_one (.func f [] _ (fun _ h => by cases h))
    · simp at he
  · simp at he

theorem lendAll_sound (hF : RelF T G base nt σ a w [] fp us blk) : ∀ {l : List (Operand × TypeId)} {as : List Arg} {s : Bool}, (lendAll T l).ev D σ = some (as, s) →
    ArgsRel T w (There w) as (l.map fun p => a.eval p.1) ∧ (s = true → ArgsRel T w (Sh w fp []) as (l.map fun p => a.eval p.1))
  | [], as, s, he => by
    simp only [lendAll, R.ev_pure, Option.some.injEq, Prod.mk.injEq] at he
    obtain ⟨rfl, rfl⟩ := he
    exact ⟨.nil, fun _ => .nil⟩
  | (x, t) :: rest, as, s, he => by
    simp only [lendAll, R.ev_bind] at he
    obtain ⟨⟨ar, s1⟩, h1, h2⟩ := Option.bind_eq_some_iff.1 he
    obtain ⟨⟨as', s2⟩, h3, h4⟩ := Option.bind_eq_some_iff.1 h2
    simp only [R.ev_pure, Option.some.injEq, Prod.mk.injEq] at h4
    obtain ⟨rfl, rfl⟩ := h4
    obtain ⟨p1, p2⟩ := lend_sound hF h1
    obtain ⟨q1, q2⟩ := lendAll_sound hF h3
    refine ⟨.cons p1 q1, fun h => ?_⟩
    simp only [Bool.and_eq_true] at h
    exact .cons (p2 h.1) (q2 h.2)

theorem calleeOf_sound (hF : RelF T G base nt σ a w [] fp us blk) {f : Operand} {g : FuncId} {caps : List (TypeId × List TC)} {s : Bool} (he : (calleeOf T f).ev D σ = some (g, caps, s)) :
    ∃ cv : List Value, a.eval f = .func (.func g) #[] cv.toArray ∧ ArgsRel T w (There w) (caps.map capArg) cv ∧ (s = true → ArgsRel T w (Sh w fp []) (caps.map capArg) cv) := by
  unfold calleeOf at he
  split at he
  · simp only [R.ev_pure, Option.some.injEq, Prod.mk.injEq] at he
    obtain ⟨rfl, rfl, rfl⟩ := he
    exact ⟨[], rfl, .nil, fun _ => .nil⟩
  · rename_i t
    simp only [R.ev_bind, R.ev_slot, Option.bind_some] at he
    have hs := hF.slot t
    split at he
    · rename_i g' cps hsv
      rw [hsv] at hs
      simp only [R.ev_bind] at he
      obtain ⟨cs, h1, h2⟩ := Option.bind_eq_some_iff.1 he
      simp only [R.ev_pure, Option.some.injEq, Prod.mk.injEq] at h2
      obtain ⟨rfl, rfl, rfl⟩ := h2
      obtain ⟨q1, q2, q3, q4⟩ := capsOf_sound hF h1
      refine ⟨_, hs.2.2 q1, q4, fun h => ?_⟩
      have hnil : cps = [] := by simpa using h
      subst hnil
      have hcn : cs = [] := by apply List.eq_nil_of_length_eq_zero; simpa using q2
      subst hcn
      exact .nil
    · rename_i d hsv
      rw [hsv] at hs
      split at he
      · rename_i g' cs hct hc
        split at he
        · rename_i hfl
          simp only [R.ev_pure, Option.some.injEq, Prod.mk.injEq] at he
          obtain ⟨rfl, rfl, rfl⟩ := he
          obtain ⟨hu, hcr, _⟩ := hs
          obtain ⟨u1, hu1, hm⟩ := mkv_false_one (us := us t) (by rw [hcr.length]; rfl)
          rw [hu1] at hcr
          generalize fp t = ft at hcr
          cases hcr with
          | cons h1 h2 =>
            unfold CellRel at h1
            rw [hfl, hct, hc] at h1
            have h1 := h1.1
            have hev : a.eval (.tmp t) = u1 := by rw [eval_tmp, hu, hm]
            rw [hev]
            cases h1 with
            | func _ _ vs h3 =>
              have hall : ArgsRel T w (Sh w fp []) (cs.map capArg) ((List.range cs.length).map vs) := by
                have gen : ∀ (l : List (TypeId × List TC)) (vs : Nat → Value), (∀ j, j < l.length → RepC T w (Sh w fp []) (.ptr (l.getD j (0, [])).1) (vs j) (.p (l.getD j (0, [])).2)) → ArgsRel T w (Sh w fp []) (l.map capArg) ((List.range l.length).map vs) := by
                  intro l
                  induction l with
                  | nil => intro vs _; exact .nil
                  | cons p l ih =>
                    intro vs h
                    rw [List.length_cons, List.range_succ_eq_map, List.map_cons, List.map_cons, List.map_map]
                    refine .cons (arg_one ?_) (ih (vs ∘ Nat.succ) fun j hj => ?_)
                    · simpa using h 0 (by simp)
                    · simpa using h (j + 1) (by simpa using hj)
                exact gen cs vs h3
              exact ⟨_, rfl, hall.mono (fun b hb => hb.1), fun _ => hall⟩
        · simp at he
      · simp at he
    · simp at he
  · simp at he

theorem deep_any {cs : List Cell} {us : List Value} {fq : List Nat} (h : CellsRel T w S cs us fq) (hd : cs.all Cell.deep = true) (hg : cs.any Cell.isGone = false) : CellsRel T w S' cs us fq := by
  induction h with
  | nil => exact .nil
  | @cons c cs u us fp fp' h _ ih =>
    simp only [List.all_cons, Bool.and_eq_true] at hd
    simp only [List.any_cons, Bool.or_eq_false_iff] at hg
    refine .cons ?_ (ih hd.2 hg.2)
    have h1 := h.ofDeep hd.1 hg.1
    unfold CellRel
    split
    · rename_i hf
      have hm : c.ct.mem = false := by
        have := hd.1
        unfold Cell.deep at this
        rw [hf] at this
        simpa using this
      exact ⟨(h.toRep (S' := fun b => S b ∨ b ∈ fp) hg.1 (fun b hb => .inr hb) (fun b hb => .inl hb)).flat hm, h.mem_nil hm⟩
    · exact h1
    · rename_i hf
      have hm : c.ct.mem = false := by
        have := hd.1
        unfold Cell.deep at this
        rw [hf] at this
        simpa using this
      have hn := h.mem_nil hm
      rw [hn]
      exact .flat _ _ _ hm ((h.toRep (S' := fun b => S b ∨ b ∈ fp) hg.1 (fun b hb => .inr hb) (fun b hb => .inl hb)).flat hm)
    · rename_i hf
      have := hg.1
      simp [Cell.isGone, hf] at this

theorem deep_gone {cs : List Cell} {us : List Value} {fq : List Nat} (h : CellsRel T w S cs us fq) (hd : (cs.all fun c => c.deep || c.isGone) = true) : CellsRel T w S' cs us fq := by
  induction h with
  | nil => exact .nil
  | @cons c cs u us fp fp' h _ ih =>
    simp only [List.all_cons, Bool.and_eq_true] at hd
    refine .cons ?_ (ih hd.2)
    cases hg : c.isGone with
    | true =>
      have hfl : c.fl = .gone := by simpa [Cell.isGone] using hg
      unfold CellRel at h ⊢
      rw [hfl] at h ⊢
      exact h
    | false =>
      have hdp : c.deep = true := by simpa [hg] using hd.1
      have h1 := deep_any (S' := S') (.cons h .nil) (by simpa using hdp) (by simpa using hg)
      rw [List.append_nil] at h1
      generalize hq : fp = q at h1
      cases h1 with
      | cons h2 h3 =>
        cases h3
        rw [List.append_nil]
        rename_i f1
        rw [List.append_nil] at hq
        exact h2

theorem tup_any {vs : List (Bool × List Cell)} {us : List Value} {fq : List Nat} (h : TupRel T w S vs us fq) (hd : resOwn vs = true) (hg : ∀ x, x ∈ vs → x.2.any Cell.isGone = false) : TupRel T w S' vs us fq := by
  induction h with
  | nil => exact .nil
  | @cons g cs vs us ws fp fp' h hl _ ih =>
    simp only [resOwn, List.all_cons, Bool.and_eq_true] at hd
    exact .cons (deep_any h hd.1 (hg (g, cs) (by simp))) hl (ih hd.2 fun x hx => hg x (by simp [hx]))

theorem ResRel.mono {r : Res} {v : Value} {fq : List Nat} (h : ResRel T w S r v fq) (hS : ∀ b, S b → S' b) : ResRel T w S' r v fq := by
  obtain ⟨h, hg⟩ := h
  refine ⟨?_, hg⟩
  split at h
  · obtain ⟨us, h1, h2, h3⟩ := h
    exact ⟨us, h1, h2.same (fun _ _ => rfl) hS (fun _ _ _ h => h), h3⟩
  · obtain ⟨uw, h1, h2⟩ := h
    exact ⟨uw, h1, h2.same (fun _ _ => rfl) hS (fun _ _ _ h => h)⟩

theorem ResRel.any {r : Res} {v : Value} {fq : List Nat} (h : ResRel T w S r v fq) (hd : resOwn r = true) : ResRel T w S' r v fq := by
  obtain ⟨h, hg⟩ := h
  refine ⟨?_, hg⟩
  split at h
  · rename_i g cs
    obtain ⟨us, h1, h2, h3⟩ := h
    simp only [resOwn, List.all_cons, List.all_nil, Bool.and_true] at hd
    exact ⟨us, h1, deep_any h2 hd (hg (g, cs) (by simp)), h3⟩
  · obtain ⟨uw, h1, h2⟩ := h
    exact ⟨uw, h1, tup_any h2 hd hg⟩

theorem finish_res {ws : Ws} {r : Res} {v : Value} {fq : List Nat} {dst : Option Tmp} (h : RelF T G base nt σ a w fq fp us blk) (hp : (put dst (resSV r)).ev D σ = some ws) (hd : ∀ d, dst = some d → d < nt) (hr : ResRel T w (Sh w fp fq) r v fq) (hn : fq.Nodup) :
    Rel T G base nt (σ.setAll ws) (a.put dst v) w := by
  have h0 : RelF T G base nt (σ.setAll []) a w fq fp us blk := h
  obtain ⟨hr, hg⟩ := hr
  unfold resSV at hp
  split at hr
  · rename_i g cs
    obtain ⟨us', rfl, h2, h3⟩ := hr
    exact finish_val h0 hp hd h2 hn (fun _ h => h) h3
  · rename_i hne
    obtain ⟨uw, rfl, h2⟩ := hr
    split at hp
    · rename_i g cs
      exact absurd rfl (hne g cs)
    · exact finish_tup h0 hp hd h2 hn (fun _ h => h)

theorem op_call {ws : Ws} {c : Call} {f : Operand} (hD : DOk P T D) (ho : o.op = .call c) (hcl : c.callee = .value f) (hmf : methOf T f = .none) (h : Rel T G base nt σ a w) (hd : ∀ d, o.dst = some d → d < nt)
    (he : (opR T o).ev D σ = some ws) (hK : ∀ a' w', Rel T G base nt (σ.setAll ws) a' w' → Bel base w w' → K a' w') : o.wp P a w K Q := by
  unfold opR at he
  simp only [ho, hcl, hmf, R.ev_bind] at he
  obtain ⟨fp, us, blk, hF⟩ := h
  obtain ⟨sv, h1, hp⟩ := Option.bind_eq_some_iff.1 he
  clear he
  unfold doCall at h1
  simp only [hcl, R.ev_bind] at h1
  obtain ⟨⟨g, caps, sh0⟩, h2, h3⟩ := Option.bind_eq_some_iff.1 h1
  obtain ⟨⟨as, sh⟩, h4, h5⟩ := Option.bind_eq_some_iff.1 h3
  clear h1 h3
  dsimp only at h5
  split at h5
  · rename_i hsz
    rw [R.ev_call] at h5
    obtain ⟨⟨pre, r⟩, h6, h7⟩ := Option.bind_eq_some_iff.1 h5
    cases pre with
    | false => cases h7
    | true =>
    dsimp only at h7
    rw [if_pos rfl] at h7
    split at h7
    · rename_i hok
      simp only [R.ev_pure, Option.some.injEq] at h7
      subst h7
      obtain ⟨cv, hfv, hc1, hc2⟩ := calleeOf_sound hF h2
      obtain ⟨ha1, ha2⟩ := lendAll_sound hF h4
      have hzip : (c.args.toList.zip c.argTypes.toList).map (fun p => a.eval p.1) = c.args.toList.map a.eval := by
        have : (c.args.toList.zip c.argTypes.toList).map Prod.fst = c.args.toList := List.map_fst_zip (by simp [hsz])
        rw [← this, List.map_map]
        rw [this]
        rfl
      rw [hzip] at ha1 ha2
      have hrun : (execOp a.eval o).run P w = (callFunc g ((c.args.toList.map a.eval) ++ cv).toArray).run P w := by
        have e1 : (c.args.map a.eval) ++ cv.toArray = ((c.args.toList.map a.eval) ++ cv).toArray := by
          apply Array.ext'; simp
        simp [execOp, ho, resolve, hcl, hfv, Deferred.ofValue, invoke, e1]
      unfold Oper.wp
      rw [hrun]
      have fin : ∀ (S : Nat → Prop), (∀ b, S b → There w b) → ArgsRel T w S (as ++ caps.map capArg) (c.args.toList.map a.eval ++ cv) → ((∀ b, S b → Sh w fp [] b) ∨ resOwn r = true) → o.upon P a K Q ((callFunc g ((c.args.toList.map a.eval) ++ cv).toArray).run P w) := by
        intro S hS hargs hor
        refine hD.plain g _ r h6 w S _ ⟨hS, hF.int⟩ hargs o a K Q fun v w' hv => ?_
        obtain ⟨fq, hr, hnd, hfq, hbel⟩ := hv
        have hch := Chg.of_below hbel
        have h2 := hF.chg hch (fun _ h => by cases h) fq hfq hnd
        rw [List.nil_append] at h2
        have hr2 : ResRel T w' (Sh w' fp fq) r v fq := by
          rcases hor with hor | hor
          · refine hr.mono fun b hb => ⟨hb.1, fun n hm => ?_, hb.2.2⟩
            rcases hb.2.1 with h | h
            · exact (hor b h).2.1 n hm
            · have := hF.lt n b hm; omega
          · exact hr.any hor
        exact hK _ _ (finish_res h2 hp hd hr2 hnd) (hch.bel fun _ h => by cases h)
      simp only [Bool.or_eq_true, Bool.and_eq_true] at hok
      rcases hok with ⟨q1, q2⟩ | hok
      · exact fin (Sh w fp []) (fun b hb => hb.1) ((ha2 q1).append (hc2 q2)) (.inl fun _ h => h)
      · exact fin (There w) (fun b hb => hb) (ha1.append hc1) (.inr hok)
    · simp at h7
  · simp at h5
/-! ### Calls that write what they are handed first -/
theorem RelF.reN (h : RelF T G base nt σ a w [] fp us blk) {gs : List Nat} (hc : Chg w w' gs) (d : Nat) (hsd : (σ d).sv ≠ .dead) (hgs : ∀ g, g ∈ gs → g ∈ fp d) (sv : SV) (v : Ver) (fpd F2 : List Nat)
    (hv : ((σ d).v.w < v.w ∨ (v.w = (σ d).v.w ∧ (σ d).v.c < v.c))) (hn : fpd.Nodup) (hn2 : F2.Nodup) (hpart : ∀ b, b ∈ fpd ∨ b ∈ F2 → (b ∈ fp d ∨ w.heap.size ≤ b) ∧ b < w'.heap.size) (hdis : ∀ b, b ∈ fpd → b ∉ F2) (hgh : d = gh → sv.ghost = true)
    (hs : (∀ b, Sh w fp [] b → Sh w' (upd fp d fpd) F2 b) → SlotRel T w' (Sh w' (upd fp d fpd) F2) (upd (fun n => (σ n).v) d v) us blk d (a.tmps.getD d undef) fpd sv) :
    RelF T G base nt (σ.set d ⟨sv, v⟩) a w' F2 (upd fp d fpd) us blk := by
  have hSh : ∀ b, Sh w fp [] b → Sh w' (upd fp d fpd) F2 b := fun b hb => by
    refine ⟨Nat.lt_of_lt_of_le hb.1 hc.size, fun n hm => ?_, fun hm => ?_⟩
    · by_cases e : n = d
      · subst e; rw [upd_at] at hm
        rcases (hpart b (.inl hm)).1 with h1 | h1
        · exact hb.2.1 n h1
        · have := hb.1; omega
      · rw [upd_ne _ _ e] at hm; exact hb.2.1 n hm
    · rcases (hpart b (.inr hm)).1 with h1 | h1
      · exact hb.2.1 d h1
      · have := hb.1; omega
  have hSg : ∀ b, Sh w fp [] b → b ∉ gs := fun b hb hm => hb.2.1 d (hgs b hm)
  have hout : ∀ n, n ≠ d → ∀ b, b ∈ fp n → ¬ (b ∈ fp d ∨ w.heap.size ≤ b) := fun n e b hb hx => by
    rcases hx with hx | hx
    · exact h.disj n d e b hb hx
    · have := h.lt n b hb; omega
  have hown : ∀ b, b ∈ fp d ∨ w.heap.size ≤ b → base.own b := fun b hb => hb.elim (h.lo d b (.inl hsd)) (h.top b)
  have hvers : (fun n => ((σ.set d ⟨sv, v⟩) n).v) = upd (fun n => (σ n).v) d v := by
    funext n
    by_cases e : n = d
    · subst e; rw [St.set_at, upd_at]
    · rw [St.set_ne _ _ e, upd_ne _ _ e]
  refine ⟨fun n => ?_, fun m n hmn b hb hb' => ?_, fun n b hb hm => ?_, fun n => ?_, fun n b hsv hb => ?_, fun b hb hn => h.low b hb fun n hm => by
      by_cases e : n = d
      · subst e; exact absurd (h.lo n b (.inl hsd) hm) hb
      · exact hn n (by rw [upd_ne _ _ e]; exact hm), fun b hb => hown b (hpart b (.inr hb)).1,
    fun b hb => (hpart b (.inr hb)).2, hn2, fun b hb => h.top b (Nat.le_trans hc.size hb), h.gus, set_gh h.gsv hgh, h.gnt, h.size, h.defers, h.off, h.int.chg hc fun g k hx => h.off g k (h.lo d g (.inl hsd) (hgs g hx))⟩
  · rw [hvers]
    by_cases e : n = d
    · subst e
      rw [St.set_at, upd_at]
      exact hs hSh
    · rw [St.set_ne _ _ e, upd_ne _ _ e]
      have h1 := (h.slot n).same (w' := w') (fun b hb => hc.block b (h.lt n b hb) fun hm => h.disj n d e b hb (hgs b hm)) hSh (fun _ _ ha hv => hc.cell hv (hSg _ ha))
      exact h1.other e (fun m hm => upd_ne _ _ hm) (by rw [upd_at]; exact hv.imp id fun hq => ⟨hq.1, hq.2, rfl⟩) (fun m hm => rfl) (fun m hm => rfl) rfl
  · by_cases e : m = d
    · subst e
      rw [upd_at] at hb
      rw [upd_ne _ _ (Ne.symm hmn)] at hb'
      exact hout n (Ne.symm hmn) b hb' (hpart b (.inl hb)).1
    · rw [upd_ne _ _ e] at hb
      by_cases e' : n = d
      · subst e'; rw [upd_at] at hb'; exact hout m e b hb (hpart b (.inl hb')).1
      · rw [upd_ne _ _ e'] at hb'; exact h.disj m n hmn b hb hb'
  · by_cases e : n = d
    · subst e; rw [upd_at] at hb; exact hdis b hb hm
    · rw [upd_ne _ _ e] at hb; exact hout n e b hb (hpart b (.inr hm)).1
  · by_cases e : n = d
    · subst e; rw [upd_at]; exact hn
    · rw [upd_ne _ _ e]; exact h.nodup n
  · by_cases e : n = d
    · subst e; rw [upd_at] at hb; exact hown b (hpart b (.inl hb)).1
    · rw [upd_ne _ _ e] at hb; rw [St.set_ne _ _ e] at hsv; exact h.lo n b hsv hb

theorem lendOwn_sound (hF : RelF T G base nt σ a w [] fp us blk) {x : Operand} {ag : Bool} {cs : List Cell} {h : Nat} {mk : List Cell → Slot} (he : (lendOwn x).ev D σ = some (ag, cs, h, mk)) :
    ∃ (vs : List Value) (pre f2 post : List Nat) (svf : List Cell → SV), fp h = pre ++ f2 ++ post ∧ a.eval x = mkv ag vs ∧ CellsRel T w (Sh w fp []) cs vs f2 ∧ mk = (fun ds => ⟨svf ds, ⟨(σ h).v.w, (σ h).v.c + 1⟩⟩) ∧ (σ h).sv ≠ .dead ∧ (h = gh → ∀ ds, (svf ds).ghost = true) ∧
      ∀ (w' : World) (S1 : Nat → Prop) (vers : Nat → Ver) (ds : List Cell) (f2' : List Nat), (∀ b, b ∈ pre ++ post → w'.heap[b]? = w.heap[b]?) → (∀ b, Sh w fp [] b → S1 b) → (∀ a v, Sh w fp [] a.block → w.cell? a = some v → w'.cell? a = some v) →
        CellsRel T w' S1 ds vs f2' → ctsOf ds = ctsOf cs → (ag = false → cs.length = 1) → SlotRel T w' S1 vers us blk h (a.tmps.getD h undef) (pre ++ f2' ++ post) (svf ds) := by
  unfold lendOwn at he
  split at he
  · rename_i n
    simp only [R.ev_bind, R.ev_view, Option.bind_some] at he
    have hs := hF.view n
    split at he
    · rename_i g cc hsv
      rw [hsv] at hs
      simp only [R.ev_pure, Option.some.injEq, Prod.mk.injEq] at he
      obtain ⟨rfl, rfl, rfl, rfl⟩ := he
      have hsv0 : (σ n).sv = .val g cc := viewSlot_eq hsv (fun _ _ _ _ _ => SV.noConfusion)
      refine ⟨us n, [], fp n, [], fun ds => .val g ds, by simp, hs.1, hs.2.1, by rw [viewSlot_v], by rw [hsv0]; exact SV.noConfusion, fun e => absurd e (hF.ngh (by rw [hsv0]; rfl)), fun w' S1 vers ds f2' _ _ _ hc hct hl => ?_⟩
      refine ⟨hs.1, by simpa using hc, fun e => ?_⟩
      have := congrArg List.length hct
      rw [ctsOf_length, ctsOf_length] at this
      rw [this]; exact hl e
    · rename_i g h' off k v hsv
      rw [hsv] at hs
      obtain ⟨_, _, _, hal⟩ := hs
      simp only [R.ev_bind, R.ev_slot, Option.bind_some] at he
      obtain ⟨ys, hy, he⟩ := Option.bind_eq_some_iff.1 he
      obtain ⟨hv, all, ha, rfl, hln⟩ := homeCells_ev hy
      have hev : a.eval (.tmp n) = mkv g (((us h').drop off).take k) := hal hv
      have hsh := hF.slot h'
      have fin : ∀ {extra fq : List Nat} {sf : List Cell → SV} {al : List Cell}, al = all → fp h' = extra ++ fq → CellsRel T w (Sh w fp []) al (us h') fq → (σ h').sv ≠ .dead → (h' = gh → ∀ ds, (sf ds).ghost = true) →
          (∀ (w' : World) (S1 : Nat → Prop) (vers : Nat → Ver) (ds : List Cell) (fq' : List Nat), (∀ b, b ∈ extra → w'.heap[b]? = w.heap[b]?) → CellsRel T w' S1 ds (us h') fq' → ctsOf ds = ctsOf al → SlotRel T w' S1 vers us blk h' (a.tmps.getD h' undef) (extra ++ fq') (sf ds)) →
          g = ag → (all.drop off).take k = cs → h' = h → (fun ds => (⟨sf (splice al off ds), ⟨(σ h').v.w, (σ h').v.c + 1⟩⟩ : Slot)) = mk →
          ∃ (vs : List Value) (pre f2 post : List Nat) (svf : List Cell → SV), fp h = pre ++ f2 ++ post ∧ a.eval (.tmp n) = mkv ag vs ∧ CellsRel T w (Sh w fp []) cs vs f2 ∧ mk = (fun ds => ⟨svf ds, ⟨(σ h).v.w, (σ h).v.c + 1⟩⟩) ∧ (σ h).sv ≠ .dead ∧ (h = gh → ∀ ds, (svf ds).ghost = true) ∧
            ∀ (w' : World) (S1 : Nat → Prop) (vers : Nat → Ver) (ds : List Cell) (f2' : List Nat), (∀ b, b ∈ pre ++ post → w'.heap[b]? = w.heap[b]?) → (∀ b, Sh w fp [] b → S1 b) → (∀ a v, Sh w fp [] a.block → w.cell? a = some v → w'.cell? a = some v) →
              CellsRel T w' S1 ds vs f2' → ctsOf ds = ctsOf cs → (ag = false → cs.length = 1) → SlotRel T w' S1 vers us blk h (a.tmps.getD h undef) (pre ++ f2' ++ post) (svf ds) := by
        intro extra fq sf al hall hfx hcr hsd hgg hslot e1 e2 e3 e4
        subst e1 e2 e3 e4 hall
        obtain ⟨f1, f2, f3, hf, c1, c2, c3⟩ := hcr.sub off k
        refine ⟨_, extra ++ f1, f2, f3, fun ds => sf (splice al off ds), by rw [hfx, hf]; simp, hev, c2, rfl, hsd, fun e ds => hgg e _, fun w' S1 vers ds f2' hx hS hcell hc hct hl => ?_⟩
        have hdl : ds.length = k := by
          have := congrArg List.length hct
          rw [ctsOf_length, ctsOf_length] at this
          rw [this]; exact hln
        have hvl : (((us h').drop off).take k).length = k := by rw [c2.length]; exact hln
        have hc1 := c1.same (w' := w') (fun b hb => hx b (by simp [hb])) hS hcell
        have hc3 := c3.same (w' := w') (fun b hb => hx b (by simp [hb])) hS hcell
        have hsp := CellsRel.splice hc1 hc (by rw [hdl]; exact hc3)
        have hself : splice (us h') off (((us h').drop off).take k) = us h' := by
          unfold splice
          rw [hvl, ← List.drop_drop, List.append_assoc, List.take_append_drop, List.take_append_drop]
        rw [hself] at hsp
        have := hslot w' S1 vers _ _ (fun b hb => hx b (by simp [hb])) hsp (ctsOf_splice (by rw [hdl, hct]))
        simpa [List.append_assoc] using this
      split at he
      · rename_i g' all' hsv2
        rw [hsv2] at hsh ha
        have hae : all' = all := Option.some.inj ha
        subst hae
        simp only [R.ev_pure, Option.some.injEq, Prod.mk.injEq] at he
        refine fin (extra := []) (fq := fp h') (sf := fun ds => .val g' ds) rfl rfl hsh.2.1 (by rw [hsv2]; exact SV.noConfusion) (fun e => absurd e (hF.ngh (by rw [hsv2]; rfl))) (fun w' S1 vers ds fq' _ hc hct => ⟨hsh.1, hc, fun e => ?_⟩) he.1 he.2.1 he.2.2.1 he.2.2.2
        have := congrArg List.length hct
        rw [ctsOf_length, ctsOf_length] at this
        rw [this]; exact hsh.2.2 e
      · rename_i e' all' hsv2
        rw [hsv2] at hsh ha
        have hae : all' = all := Option.some.inj ha
        subst hae
        obtain ⟨hp, hb, ⟨fq, hfq, hcr⟩, hty⟩ := hsh
        simp only [R.ev_pure, Option.some.injEq, Prod.mk.injEq] at he
        exact fin (extra := [blk h']) (fq := fq) (sf := fun ds => .bx e' ds) rfl hfq hcr (by rw [hsv2]; exact SV.noConfusion) (fun e => absurd e (hF.ngh (by rw [hsv2]; rfl)))
          (fun w' S1 vers ds fq' hx hc hct => ⟨hp, hb.of_same (hx _ (by simp)), ⟨fq', rfl, hc⟩, hct.trans hty⟩) he.1 he.2.1 he.2.2.1 he.2.2.2
      · rename_i all' hsv2
        rw [hsv2] at hsh ha
        have hae : all' = all := Option.some.inj ha
        subst hae
        have hsh : CellsRel T w (Sh w fp []) all' (us h') (fp h') := hsh
        simp only [R.ev_pure, Option.some.injEq, Prod.mk.injEq] at he
        exact fin (extra := []) (fq := fp h') (sf := fun ds => .gv ds) rfl rfl hsh (by rw [hsv2]; exact SV.noConfusion) (fun _ _ => rfl) (fun w' S1 vers ds fq' _ hc hct => hc) he.1 he.2.1 he.2.2.1 he.2.2.2
      · simp at he
    · simp at he
  · simp at he

theorem ownCells_rel {cs : List Cell} {vs : List Value} {fq : List Nat} (h : CellsRel T w S cs vs fq) (hd : cs.all Cell.deep = true) (hg : cs.any Cell.isGone = false) : CellsRel T w S' (ownCells (cs.map fun c => (c.ct, c.c))) vs fq := by
  have h1 := deep_any (S' := S') h hd hg
  clear h
  induction h1 with
  | nil => exact .nil
  | @cons c cs u us fp fp' h _ ih =>
    simp only [List.all_cons, Bool.and_eq_true] at hd
    simp only [List.any_cons, Bool.or_eq_false_iff] at hg
    refine .cons ?_ (ih hd.2 hg.2)
    have ho := h.ofDeep hd.1 hg.1
    unfold CellRel
    dsimp only
    cases hm : c.ct.mem with
    | true => exact ho
    | false =>
      have hn := h.mem_nil hm
      have hr := (h.toRep (S' := fun b => S' b ∨ b ∈ fp) hg.1 (fun b hb => .inr hb) (fun b hb => .inl hb)).flat (w' := w) (S' := S') hm
      exact ⟨hr, hn⟩

theorem lendW_sound (hF : RelF T G base nt σ a w [] fp us blk) {hh : Nat} : ∀ {l : List (Operand × TypeId)} {as : List Arg} {s : Bool}, (lendW T hh l).ev D σ = some (as, s) → s = true →
    ArgsRel T w (fun b => There w b ∧ b ∉ fp hh) as (l.map fun p => a.eval p.1)
  | [], as, s, he, _ => by
    simp only [lendW, R.ev_pure, Option.some.injEq, Prod.mk.injEq] at he
    obtain ⟨rfl, rfl⟩ := he
    exact .nil
  | (x, t) :: rest, as, s, he, hs => by
    simp only [lendW, R.ev_bind] at he
    obtain ⟨⟨ar, s1⟩, h1, h2⟩ := Option.bind_eq_some_iff.1 he
    obtain ⟨q, h3, h4⟩ := Option.bind_eq_some_iff.1 h2
    obtain ⟨⟨as', s2⟩, h5, h6⟩ := Option.bind_eq_some_iff.1 h4
    simp only [R.ev_pure, Option.some.injEq, Prod.mk.injEq] at h6
    obtain ⟨rfl, rfl⟩ := h6
    rw [Bool.and_eq_true] at hs
    obtain ⟨rfl, rfl⟩ := hs
    have q2 := lendW_sound hF h5 rfl
    refine .cons ?_ q2
    have hSh : ∀ b, Sh w fp [] b → There w b ∧ b ∉ fp hh := fun b hb => ⟨hb.1, hb.2.1 hh⟩
    cases s1 with
    | true => exact ((lend_sound hF h1).2 rfl).mono hSh
    | false =>
      dsimp only at h3
      unfold cloOff at h3
      split at h3
      · rename_i n
        simp only [R.ev_bind, R.ev_slot, Option.bind_some] at h3
        split at h3
        · rename_i f caps hsv
          simp only [R.ev_pure, Option.some.injEq] at h3
          have hvs : viewSlot σ n = σ n := by unfold viewSlot; rw [hsv]
          unfold lend at h1
          dsimp only at h1
          simp only [R.ev_bind, R.ev_view, Option.bind_some, hvs, hsv] at h1
          obtain ⟨cs, k1, k2⟩ := Option.bind_eq_some_iff.1 h1
          simp only [R.ev_pure, Option.some.injEq, Prod.mk.injEq] at k2
          obtain ⟨rfl, -⟩ := k2
          have hss := hF.slot n
          rw [hsv] at hss
          obtain ⟨q1, q2', q3, q4⟩ := capsOf_soundS (S' := fun b => There w b ∧ b ∉ fp hh) hF hSh (fun p hp b hb => ⟨hF.lt p.1 b hb, hF.disj p.1 hh (fun e => by
            have := List.all_eq_true.1 h3 p hp
            rw [e] at this
            simp at this) b hb⟩) k1
          show ArgRel T w _ _ (a.eval (.tmp n))
          rw [show a.eval (.tmp n) = _ from hss.2.2 q1]
          have hmap : (caps.map fun p => Value.pointer (some ⟨blk p.1, 0, none⟩)) = (List.range cs.length).map fun j => Value.pointer (some ⟨blk (caps.getD j (0, 0)).1, 0, none⟩) := by
            apply List.ext_getElem
            · simp [q2']
            · intro i h1 h2
              have hi : i < caps.length := by simpa using h1
              simp [List.getElem?_eq_getElem hi]
          rw [hmap]
          exact arg_one (.func f cs _ q3)
        · simp at h3
      · simp at h3

theorem op_write {ws : Ws} {c : Call} {f : Operand} {g : FuncId} (hD : DOk P T D) (ho : o.op = .call c) (hcl : c.callee = .value f) (hmf : methOf T f = some (g, 0)) (h : Rel T G base nt σ a w) (hd : ∀ d, o.dst = some d → d < nt)
    (he : (writeCall T g c o.dst).ev D σ = some ws) (hK : ∀ a' w', Rel T G base nt (σ.setAll ws) a' w' → Bel base w w' → K a' w') : o.wp P a w K Q := by
  obtain ⟨fp, us, blk, hF⟩ := h
  have hfg : f = .func g := by
    unfold methOf at hmf
    split at hmf
    · split at hmf
      · simp only [Option.some.injEq, Prod.mk.injEq] at hmf
        rw [hmf.1]
      · cases hmf
    · cases hmf
  subst hfg
  unfold writeCall at he
  split at he
  · rename_i x t rest hz
    simp only [R.ev_bind] at he
    obtain ⟨⟨ag, cs, hh, mk⟩, h1, h2⟩ := Option.bind_eq_some_iff.1 he
    obtain ⟨⟨as, sh⟩, h3, h4⟩ := Option.bind_eq_some_iff.1 h2
    clear he h2
    dsimp only at h4
    split at h4
    · rename_i hcond
      obtain ⟨hsz, rfl, hdp, hgn, hct, hl1⟩ := hcond
      rw [R.ev_call] at h4
      obtain ⟨⟨pre0, r⟩, h6, h7⟩ := Option.bind_eq_some_iff.1 h4
      cases pre0 with
      | false => cases h7
      | true =>
      dsimp only at h7
      rw [if_pos rfl] at h7
      split at h7
      · rename_i gg ds r' 
        split at h7
        · rename_i hcond2
          obtain ⟨hctd, hdd, hro⟩ := hcond2
          obtain ⟨vs, pre, f2, post, svf, hfh, hev, hcr, hmk, hsd, hgh, hslot⟩ := lendOwn_sound hF h1
          have hargs := lendW_sound hF h3 rfl
          have hnd := hF.nodup hh
          rw [hfh] at hnd
          have hnd1 := List.nodup_append.1 hnd
          have hnd2 := List.nodup_append.1 hnd1.1
          have hlist : c.args.toList.map a.eval = mkv ag vs :: rest.map fun p => a.eval p.1 := by
            have : (c.args.toList.zip c.argTypes.toList).map Prod.fst = c.args.toList := List.map_fst_zip (by simp [hsz])
            rw [← this, hz, List.map_cons, List.map_cons, hev, List.map_map]
            rfl
          have hrun : (execOp a.eval o).run P w = (callFunc g (mkv ag vs :: rest.map fun p => a.eval p.1).toArray).run P w := by
            have e1 : c.args.map a.eval = (mkv ag vs :: rest.map fun p => a.eval p.1).toArray := by
              rw [← hlist]
              apply Array.ext'; simp
            have hfv : a.eval (.func g) = .func (.func g) #[] #[] := rfl
            simp [execOp, ho, resolve, hcl, hfv, Deferred.ofValue, invoke, e1]
          unfold Oper.wp
          rw [hrun]
          refine hD.wri g (rawArg ag cs) as gg ds r' h6 w (fun b => There w b ∧ b ∉ fp hh) vs f2 _ ⟨fun b hb => hb.1, hF.int, fun g k hx => hF.off g k (hF.lo hh g (.inl hsd) (by rw [hfh]; simp [hx]))⟩ (ownCells_rel hcr hdp hgn) (fun e => by simpa [rawArg] using hl1 e) hnd2.2.1
            (fun b hb hs => hs.2 (by rw [hfh]; simp [hb])) hargs o a K Q fun v w' hv => ?_
          obtain ⟨S1, fp', fq, q1, q2, q3, q4, q5⟩ := hv
          have q3' := List.nodup_append.1 q3
          have hin : ∀ b, b ∈ f2 → b ∈ fp hh := fun b hb => by rw [hfh]; simp [hb]
          have hpp : ∀ b, b ∈ pre ++ post → b ∈ fp hh := fun b hb => by
            rw [hfh]; simp only [List.mem_append] at hb ⊢
            rcases hb with hb | hb <;> simp [hb]
          have hpo : ∀ b, b ∈ pre ++ post → ¬ (b ∈ f2 ∨ w.heap.size ≤ b) := fun b hb hx => by
            rcases hx with hx | hx
            · rcases List.mem_append.1 hb with hb | hb
              · exact hnd2.2.2 b hb b hx rfl
              · exact hnd1.2.2 b (by simp [hx]) b hb rfl
            · have := hF.lt hh b (hpp b hb); omega
          have hnew := hF.reN q5 hh hsd hin (svf ds) ⟨(σ hh).v.w, (σ hh).v.c + 1⟩ (pre ++ fp' ++ post) fq (.inr ⟨rfl, by simp⟩)
            (List.nodup_append.2 ⟨List.nodup_append.2 ⟨hnd2.1, q3'.1, fun x hx y hy e => by
              subst e; exact hpo x (by simp [hx]) (q4 x (by simp [hy])).1⟩, hnd1.2.1, fun x hx y hy e => by
              subst e
              rcases List.mem_append.1 hx with hx | hx
              · exact hnd1.2.2 x (by simp [hx]) x hy rfl
              · exact hpo x (by simp [hy]) (q4 x (by simp [hx])).1⟩) q3'.2.1
            (fun b hb => by
              have old : b ∈ pre ++ post → (b ∈ fp hh ∨ w.heap.size ≤ b) ∧ b < w'.heap.size := fun hb => ⟨.inl (hpp b hb), Nat.lt_of_lt_of_le (hF.lt hh b (hpp b hb)) q5.size⟩
              have new : b ∈ fp' ++ fq → (b ∈ fp hh ∨ w.heap.size ≤ b) ∧ b < w'.heap.size := fun hb => ⟨(q4 b hb).1.imp (hin b) id, (q4 b hb).2⟩
              rcases hb with hb | hb
              · rcases List.mem_append.1 hb with hb | hb
                · rcases List.mem_append.1 hb with hb | hb
                  · exact old (by simp [hb])
                  · exact new (by simp [hb])
                · exact old (by simp [hb])
              · exact new (by simp [hb]))
            (fun b hb hm => by
              rcases List.mem_append.1 hb with hb | hb
              · rcases List.mem_append.1 hb with hb | hb
                · exact hpo b (by simp [hb]) (q4 b (by simp [hm])).1
                · exact q3'.2.2 b hb b hm rfl
              · exact hpo b (by simp [hb]) (q4 b (by simp [hm])).1)
            (fun e => hgh e ds)
            (fun hSS => hslot w' _ _ ds fp' (fun b hb => q5.block b (hF.lt hh b (hpp b hb)) fun hm => hpo b hb (.inl hm)) hSS
              (fun ad u hs hu => q5.cell hu fun hm => hs.2.1 hh (hin _ hm)) (deep_gone q1 hdd) hctd hl1)
          have hnew : RelF T G base nt (σ.setAll [(hh, ⟨svf ds, ⟨(σ hh).v.w, (σ hh).v.c + 1⟩⟩)]) a w' fq (upd fp hh (pre ++ fp' ++ post)) us blk := hnew
          rw [hmk] at h7
          have hr2 : ResRel T w' (Sh w' (upd fp hh (pre ++ fp' ++ post)) fq) r' v fq := q2.any hro
          refine hK _ _ ?_ (q5.bel fun b hb => hF.lo hh b (.inl hsd) (hin b hb))
          obtain ⟨hrr, hgr⟩ := hr2
          unfold resSV at h7
          split at hrr
          · rename_i g9 cs9
            obtain ⟨us9, rfl, k2, k3⟩ := hrr
            exact finish_val hnew h7 hd k2 q3'.2.1 (fun _ h => h) k3
          · rename_i hne
            obtain ⟨uw, rfl, k2⟩ := hrr
            split at h7
            · rename_i g9 cs9
              exact absurd rfl (hne g9 cs9)
            · exact finish_tup hnew h7 hd k2 q3'.2.1 (fun _ h => h)
        · simp at h7
      · simp at h7
    · simp at h4
  · simp at he

theorem op_bld {ws : Ws} {c : Call} {f : Operand} {g : FuncId} {k : Nat} (_hD : DOk P T D) (_ho : o.op = .call c) (_hcl : c.callee = .value f) (_hmf : methOf T f = some (g, k)) (_h : Rel T G base nt σ a w) (_hd : ∀ d, o.dst = some d → d < nt)
    (he : (bldCall k c o.dst).ev D σ = some ws) (_hK : ∀ a' w', Rel T G base nt (σ.setAll ws) a' w' → Bel base w w' → K a' w') : o.wp P a w K Q := by
  have he : (none : Option Ws) = some ws := he
  cases he
end

/-! ### Parts of rows of the call's own -/
section
variable {P : Program} {T : Tab} {G : Nat → Prop} {base : Bs} {nt : Nat} {σ : St} {a : Act} {w w' : World} {F : List Nat} {fp : Nat → List Nat} {us : Nat → List Value} {blk : Nat → Nat} {D : FuncId → List Arg → Option (Bool × Res)}
  {K : Act → World → Prop} {Q : Exit → Act → World → Prop} {o : Oper} {S S' : Nat → Prop}

theorem ownElem_eq {c : Cell} {e : TypeId} (h : ownElem c = some e) : (∃ d, c.fl = .own d) ∧ c.ct = .slice e := by
  unfold ownElem at h
  split at h
  · rename_i d e' h1 h2
    cases h
    exact ⟨⟨_, h1⟩, h2⟩
  · cases h

theorem own_list {e : TypeId} {d : Bool} {c : TC} {u : Value} {fc : List Nat} (h : CellRel T w S ⟨.slice e, .own d, c⟩ u fc) : ∃ xs, c = .l xs := by
  unfold CellRel at h
  cases d with
  | true =>
    have h : OwnC T w (.slice e) u c fc := h
    cases h with
    | flat _ _ _ hm => simp [CT.mem] at hm
    | nil => exact ⟨_, rfl⟩
    | slice => exact ⟨_, rfl⟩
  | false =>
    have h : OwnT T w S (.slice e) u c fc := h
    cases h with
    | flat _ _ _ hm => simp [CT.mem] at hm
    | nil => exact ⟨_, rfl⟩
    | slice => exact ⟨_, rfl⟩

theorem own_cell_form {c : Cell} {e : TypeId} (ho : ownElem c = some e) {u : Value} {fc : List Nat} (h : CellRel T w S c u fc) : ∃ d xs, c = ⟨.slice e, .own d, .l xs⟩ := by
  obtain ⟨⟨d, hfl⟩, hct⟩ := ownElem_eq ho
  obtain ⟨ct, fl, cc⟩ := c
  dsimp only at hfl hct
  subst hfl hct
  obtain ⟨xs, rfl⟩ := own_list h
  exact ⟨d, xs, rfl⟩

theorem rowAt_sound (hF : RelF T G base nt σ a w F fp us blk) {h off : Nat} {e : TypeId} {v : Ver} {cs : List Cell} {mk : List Cell → Slot} {c : Cell} (he : (rowAt h off e v).ev D σ = some (cs, mk, c)) :
    (σ h).v = v ∧ (homeAt h).ev D σ = some (cs, mk) ∧ cs[off]? = some c ∧ ∃ d xs u fc, c = ⟨.slice e, .own d, .l xs⟩ ∧ (us h)[off]? = some u ∧ CellRel T w (Sh w fp F) c u fc ∧ (∃ ao cap, u = .slice ao xs.length cap) ∧ ∀ b, b ∈ fc → b ∈ fp h := by
  unfold rowAt at he
  simp only [R.ev_bind, R.ev_slot, Option.bind_some] at he
  split at he
  · rename_i hv
    simp only [R.ev_bind] at he
    obtain ⟨⟨cs', mk'⟩, h1, h2⟩ := Option.bind_eq_some_iff.1 he
    obtain ⟨c', h3, h4⟩ := Option.bind_eq_some_iff.1 h2
    clear he h2
    dsimp only at h4
    split at h4
    · rename_i ho
      simp only [R.ev_pure, Option.some.injEq, Prod.mk.injEq] at h4
      obtain ⟨rfl, rfl, rfl⟩ := h4
      have hc : cs'[off]? = some c' := by simpa [cellOf] using h3
      obtain ⟨extra, fq, svf, hfx, hcr, _⟩ := home_open hF h1
      obtain ⟨u, fc, q1, q2, q3⟩ := cell_at hcr hc
      obtain ⟨d, xs, rfl⟩ := own_cell_form ho q2
      refine ⟨hv, h1, hc, d, xs, u, fc, rfl, q1, q2, ?_, fun b hb => by rw [hfx]; exact List.mem_append_right _ (q3 b hb)⟩
      rcases row_view q2 with ⟨rfl, rfl, _⟩ | ⟨g, cap, cur, fq', rfl, _⟩
      · exact ⟨_, _, rfl⟩
      · exact ⟨_, _, rfl⟩
    · simp at h4
  · simp at he

theorem ownRow_sound (hF : RelF T G base nt σ a w F fp us blk) {x : Operand} {h off : Nat} {e : TypeId} {v : Ver} (he : (ownRow x).ev D σ = some (some (h, off, e, v))) :
    (σ h).v = v ∧ (us h)[off]? = some (a.eval x) := by
  unfold ownRow at he
  split at he
  · rename_i t
    simp only [R.ev_bind, R.ev_view, Option.bind_some] at he
    have hs := hF.view t
    split at he
    · rename_i c hsv
      rw [hsv] at hs
      simp only [R.ev_pure, Option.some.injEq, Option.map_eq_some_iff, Prod.mk.injEq] at he
      obtain ⟨e', -, rfl, rfl, -, rfl⟩ := he
      obtain ⟨hu1, hc1, _⟩ := hs
      obtain ⟨u1, hu2, hm⟩ := mkv_false_one (us := us t) (by rw [hc1.length]; rfl)
      refine ⟨by rw [viewSlot_v], ?_⟩
      rw [hu2, eval_tmp, hu1, hm]; rfl
    · rename_i h' off' v' hsv
      rw [hsv] at hs
      obtain ⟨_, hvl, _, hal⟩ := hs
      simp only [R.ev_bind] at he
      obtain ⟨cs, h5, h6⟩ := Option.bind_eq_some_iff.1 he
      obtain ⟨hv, all, hall, hcs, hcl⟩ := homeCells_ev h5
      obtain ⟨fph, hch, hfph⟩ := hF.home hall
      obtain ⟨f1, f2, f3, hf, _, hc2, _⟩ := hch.sub off' 1
      rw [← hcs] at hc2
      split at h6
      · rename_i c
        simp only [R.ev_pure, Option.some.injEq, Option.map_eq_some_iff, Prod.mk.injEq] at h6
        obtain ⟨e', -, rfl, rfl, -, rfl⟩ := h6
        obtain ⟨u1, hu2, hm⟩ := mkv_false_one (us := ((us h').drop off').take 1) (by rw [hc2.length]; rfl)
        refine ⟨hv, ?_⟩
        have hev : a.eval (.tmp t) = u1 := by rw [eval_tmp, hal hv, hm]
        rw [hev]
        have := congrArg (·[0]?) hu2
        simpa [List.getElem?_take, List.getElem?_drop] using this
      · simp at h6
    · simp at he
  · simp at he

theorem addr_zero (ao : Option Addr) : ao.map (·.add 0) = ao := by
  cases ao with
  | none => rfl
  | some x => simp [Addr.add]

theorem partOf_sound (hF : RelF T G base nt σ a w F fp us blk) {x : Operand} {h off : Nat} {e : TypeId} {v : Ver} {p : Option (Int × Int)} (he : (partOf x).ev D σ = some (some (h, off, e, v, p))) (hv : (σ h).v = v) {u : Value} {n : Nat} {ao : Option Addr} {cap : Nat} (hu : (us h)[off]? = some u) (hf : u = .slice ao n cap) :
    0 ≤ (p.getD (0, (n : Int))).1 ∧ (p.getD (0, (n : Int))).1 ≤ (p.getD (0, (n : Int))).2 ∧ (p.getD (0, (n : Int))).2 ≤ (n : Int) ∧
      a.eval x = .slice (if cap = (p.getD (0, (n : Int))).1.toNat then ao else ao.map (·.add ((p.getD (0, (n : Int))).1.toNat * (T e).cts.length))) ((p.getD (0, (n : Int))).2.toNat - (p.getD (0, (n : Int))).1.toNat) (cap - (p.getD (0, (n : Int))).1.toNat) := by
  unfold partOf at he
  simp only [R.ev_bind] at he
  obtain ⟨r, h1, h2⟩ := Option.bind_eq_some_iff.1 he
  clear he
  cases r with
  | some r =>
    obtain ⟨h', off', e', v'⟩ := r
    simp only [R.ev_pure, Option.some.injEq, Prod.mk.injEq] at h2
    obtain ⟨rfl, rfl, rfl, rfl, rfl⟩ := h2
    obtain ⟨-, q⟩ := ownRow_sound hF h1
    rw [q] at hu
    cases hu
    refine ⟨Int.le_refl _, by simp, Int.le_refl _, ?_⟩
    rw [hf]
    show _ = Value.slice (if cap = 0 then ao else ao.map (·.add (0 * (T e').cts.length))) (n - 0) (cap - 0)
    rw [Nat.zero_mul, addr_zero, ite_self]; rfl
  | none =>
    dsimp only at h2
    split at h2
    · rename_i t
      simp only [R.ev_bind, R.ev_slot, Option.bind_some] at h2
      split at h2
      · rename_i h' off' e' lo hi v' hsv
        simp only [R.ev_pure, Option.some.injEq, Prod.mk.injEq] at h2
        obtain ⟨rfl, rfl, rfl, rfl, rfl⟩ := h2
        have hs := hF.slot t
        rw [hsv] at hs
        obtain ⟨_, _, hs⟩ := hs
        obtain ⟨ao', len', cap', q1, q2, q3, q4, q5⟩ := hs hv
        rw [q1] at hu
        cases hu
        cases hf
        exact ⟨q2, q3, q4, by rw [eval_tmp]; exact q5⟩
      · simp at h2
    · simp at h2

theorem isSliceOf_ok (hT : TabOk P T) {t e : TypeId} (h : isSliceOf T t e = true) : P.underlying t = some (.slice e) := by
  unfold isSliceOf at h
  split at h
  · rename_i e' hk
    obtain ⟨i, hi⟩ := hT t (by rw [hk]; rfl)
    have := hi.kind
    rw [hk] at this
    rw [this.1, Nat.eq_of_beq_eq_true h]
  · cases h

theorem op_sub {ws : Ws} {t : TypeId} {x : Operand} {lo hi : Option Operand} {r : Nat × Nat × TypeId × Ver} (hT : TabOk P T) (ho : o.op = .slice t x lo hi none) (h : Rel T G base nt σ a w) (hd : ∀ d, o.dst = some d → d < nt)
    (hr : (ownRow x).ev D σ = some (some r)) (he : (subOp T t r lo hi o.dst).ev D σ = some ws) (hK : ∀ a' w', Rel T G base nt (σ.setAll ws) a' w' → Bel base w w' → K a' w') : o.wp P a w K Q := by
  obtain ⟨fp, us, blk, hF⟩ := h
  obtain ⟨hh, off, e, v⟩ := r
  unfold subOp at he
  simp only [R.ev_bind] at he
  obtain ⟨⟨cs, mk, c⟩, h1, h2⟩ := Option.bind_eq_some_iff.1 he
  obtain ⟨l, h3, h4⟩ := Option.bind_eq_some_iff.1 h2
  obtain ⟨m, h5, h6⟩ := Option.bind_eq_some_iff.1 h4
  clear he h2 h4
  dsimp only at h6
  split at h6
  · rename_i hc
    obtain ⟨hc1, hc2⟩ := hc
    simp only [R.ev_bind] at h6
    obtain ⟨_, hg, h7⟩ := Option.bind_eq_some_iff.1 h6
    rw [R.ev_guard] at hg
    obtain ⟨g1, g2, g3⟩ := hg
    obtain ⟨hv, -, -, d, xs, u, fc, rfl, q1, q2, ⟨ao, cap, rfl⟩, -⟩ := rowAt_sound hF h1
    obtain ⟨-, q3⟩ := ownRow_sound hF hr
    rw [q1] at q3
    have hev : a.eval x = .slice ao xs.length cap := (Option.some.inj q3).symm
    have hu := isSliceOf_ok hT hc1
    obtain ⟨ie, hie⟩ := hT e hc2.2.2
    have hcap : xs.length ≤ cap := by
      rcases row_view q2 with ⟨k1, rfl, _⟩ | ⟨g, cap', cur, fq', k1, _, k2, _⟩
      · exact Nat.zero_le _
      · cases k1; exact k2
    have hbr := bounds_run (P := P) (a := a) (b := true) hcap (bound_ev hF h3) (bound_ev hF h5) g1 g2 g3 w
    refine wp_ok (w' := w) ?_ (hK _ _ (finish_light (ws := []) hF h7 hd rfl fun n => ⟨rfl, ?_, fun _ => ⟨ao, xs.length, cap, q1, g1, g2, g3, rfl⟩⟩) (Bel.refl _ _))
    · simp only [execOp, ho, Option.map_none, Sem.run_bind, hev, run_sliceV hu (sizeOf_run hT hc2.2.2 w) hbr, Result.andThen_ok, Sem.run_pure]
      rfl
    · show Ver.le v (σ hh).v
      rw [hv]; exact .inr ⟨rfl, Nat.le_refl _⟩
  · simp at h6

theorem op_slice {ws : Ws} {t : TypeId} {x : Operand} {lo hi : Option Operand} (hT : TabOk P T) (ho : o.op = .slice t x lo hi none) (h : Rel T G base nt σ a w) (hd : ∀ d, o.dst = some d → d < nt)
    (he : (opR T o).ev D σ = some ws) (hK : ∀ a' w', Rel T G base nt (σ.setAll ws) a' w' → Bel base w w' → K a' w') : o.wp P a w K Q := by
  unfold opR at he
  simp only [ho, R.ev_bind] at he
  obtain ⟨r, h1, h2⟩ := Option.bind_eq_some_iff.1 he
  cases r with
  | none => exact op_slice0 hT ho h hd (D := D) (by simpa only [R.ev_bind] using h2) hK
  | some r => exact op_sub hT ho h hd h1 h2 hK

theorem flat_mem {e : TypeId} (hf : rowFlat T e) (k : Nat) : ((T e).cts.getD k .bool).mem = false := by
  rw [List.getD_eq_getElem?_getD]
  cases hk : (T e).cts[k]? with
  | none => rfl
  | some ct =>
    have := hf.1
    unfold anyMem at this
    rw [List.any_eq_false] at this
    simpa using this ct (List.mem_of_getElem? hk)
theorem flat_pos {e : TypeId} (hf : rowFlat T e) : 0 < (T e).cts.length := by
  have := hf.2.1
  cases h : (T e).cts with
  | nil => exact absurd h this
  | cons => simp

theorem flat_row {e : TypeId} (hf : rowFlat T e) {d : Bool} {xs : List (List TC)} {u : Value} {fc : List Nat} (h : CellRel T w S ⟨.slice e, .own d, .l xs⟩ u fc) :
    (u = .slice none 0 0 ∧ xs = [] ∧ fc = []) ∨
    ∃ g cap cur, u = .slice (some ⟨g, 0, none⟩) xs.length cap ∧ fc = [g] ∧ xs.length ≤ cap ∧ cap ≤ maxLen ∧ (∀ x, x ∈ xs → x.length = (T e).cts.length) ∧ Blk w g cur e ∧ cur.length = cap * (T e).cts.length ∧ (∀ u, u ∈ cur → u.oneCell' = true) ∧
      ∀ k, k < xs.length * (T e).cts.length → RepC T w (fun _ => False) ((T e).cts.getD (k % (T e).cts.length) .bool) (cur.getD k undef) (nth (xs.getD (k / (T e).cts.length) []) (k % (T e).cts.length)) := by
  rcases row_view h with ⟨h1, h2, h3⟩ | ⟨g, cap, cur, fq, h1, h2, h3, h4, h5, h6, h7, h8, h9, _⟩
  · exact .inl ⟨h1, h2, h3⟩
  · right
    obtain ⟨fqs, q1, q2⟩ := cellsRel_fps h9
    have hl : (rowCells T e (if d then .own true else .sh) xs).length = xs.length * (T e).cts.length := rowCells_length _ _ _
    have key : ∀ k, k < xs.length * (T e).cts.length → RepC T w (fun _ => False) ((T e).cts.getD (k % (T e).cts.length) .bool) (cur.getD k undef) (nth (xs.getD (k / (T e).cts.length) []) (k % (T e).cts.length)) ∧ fqs k = [] := by
      intro k hk
      have h0 := q1 k (by rw [hl]; exact hk)
      have hce : (rowCells T e (if d then .own true else .sh) xs)[k]'(by rw [hl]; exact hk) = ⟨(T e).cts.getD (k % (T e).cts.length) .bool, if d then .own true else .sh, nth (xs.getD (k / (T e).cts.length) []) (k % (T e).cts.length)⟩ := by
        simp [rowCells]
      rw [hce] at h0
      have hm := flat_mem hf (k % (T e).cts.length)
      have hcur : (cur.take (xs.length * (T e).cts.length)).getD k undef = cur.getD k undef := by
        simp only [List.getD_eq_getElem?_getD, List.getElem?_take, if_pos hk]
      rw [hcur] at h0
      refine ⟨?_, h0.mem_nil hm⟩
      cases d with
      | true => exact ((CellRel.toRep h0 (S' := fun _ => True) (by simp [Cell.isGone]) (fun _ _ => trivial) (fun _ _ => trivial))).flat hm
      | false => exact ((CellRel.toRep h0 (S' := fun _ => True) (by simp [Cell.isGone]) (fun _ _ => trivial) (fun _ _ => trivial))).flat hm
    refine ⟨g, cap, cur, h1, ?_, h3, h4, h5, h6, h7, h8, fun k hk => (key k hk).1⟩
    rw [h2, q2]
    congr 1
    rw [List.flatMap_eq_nil_iff]
    intro k hk
    rw [List.mem_range, hl] at hk
    exact (key k hk).2

theorem flat_mk {e : TypeId} (hf : rowFlat T e) {d : Bool} {xs : List (List TC)} {g cap : Nat} {cur : List Value} (h1 : xs.length ≤ cap) (h2 : cap ≤ maxLen) (h3 : ∀ x, x ∈ xs → x.length = (T e).cts.length) (h4 : Blk w g cur e) (h5 : cur.length = cap * (T e).cts.length) (h6 : ∀ u, u ∈ cur → u.oneCell' = true)
    (h7 : ∀ k, k < xs.length * (T e).cts.length → RepC T w (fun _ => False) ((T e).cts.getD (k % (T e).cts.length) .bool) (cur.getD k undef) (nth (xs.getD (k / (T e).cts.length) []) (k % (T e).cts.length))) :
    CellRel T w S ⟨.slice e, .own d, .l xs⟩ (.slice (some ⟨g, 0, none⟩) xs.length cap) [g] := by
  cases d with
  | true =>
    have h0 := OwnC.slice (T := T) (w := w) e g xs cap cur (fun _ => []) h1 h2 h3 h4 h5 h6 (fun k hk => OwnC.flat _ _ _ (flat_mem hf _) (h7 k hk))
    have e0 : (g :: (List.range (xs.length * (T e).cts.length)).flatMap fun _ => ([] : List Nat)) = [g] := by simp
    rw [e0] at h0
    exact h0
  | false => exact OwnT.slice e g xs cap cur h1 h2 h3 h4 h5 h6 fun k hk => (h7 k hk).flat (flat_mem hf _)

theorem rows_write (hF : RelF T G base nt σ a w [] fp us blk) {h off : Nat} {e : TypeId} {v : Ver} {cs : List Cell} {mk : List Cell → Slot} {d : Bool} {xs : List (List TC)} (hr : (rowAt h off e v).ev D σ = some (cs, mk, ⟨.slice e, .own d, .l xs⟩)) (hf : rowFlat T e)
    {g cap : Nat} (hu : (us h)[off]? = some (.slice (some ⟨g, 0, none⟩) xs.length cap)) {lo : Nat} {rs : List (List TC)} {vs : List Value} (hrs : ∀ r, r ∈ rs → r.length = (T e).cts.length) (hlo : lo + rs.length ≤ xs.length) (hvl : vs.length = rs.length * (T e).cts.length) (h1 : ∀ v, v ∈ vs → v.oneCell' = true)
    (hv : ∀ q, q < rs.length * (T e).cts.length → RepC T w (fun _ => False) ((T e).cts.getD (q % (T e).cts.length) .bool) (vs.getD q undef) (nth (rs.getD (q / (T e).cts.length) []) (q % (T e).cts.length))) :
    ∃ w', (storeCells ⟨g, lo * (T e).cts.length, none⟩ vs 0).run P w = .ok () w' ∧ Chg w w' [g] ∧ (∀ b, b ∈ [g] → base.own b) ∧ RelF T G base nt (σ.set h (mk (V.splice cs off [⟨.slice e, .own d, .l (V.splice xs lo rs)⟩]))) a w' [] fp us blk := by
  obtain ⟨hvv, hhome, hcc, d', xs', u, fc, hce, hu', hcell, -, hfc⟩ := rowAt_sound hF hr
  have hd' : d' = d ∧ xs' = xs := by
    simp only [Cell.mk.injEq, Fl.own.injEq, TC.l.injEq, true_and] at hce
    exact ⟨hce.1.symm, hce.2.symm⟩
  obtain ⟨rfl, rfl⟩ := hd'
  rw [hu] at hu'
  have hue := (Option.some.inj hu').symm
  subst hue
  have hpos := flat_pos hf
  rcases flat_row hf hcell with ⟨k1, -, -⟩ | ⟨g', cap', cur, k1, k2, k3, k4, k5, k6, k7, k8, k9⟩
  · cases k1
  simp only [Value.slice.injEq, Option.some.injEq, Addr.mk.injEq, and_true, true_and] at k1
  obtain ⟨rfl, rfl⟩ := k1
  subst k2
  have hgh : g ∈ fp h := hfc g (by simp)
  have hmul : lo * (T e).cts.length + rs.length * (T e).cts.length ≤ xs'.length * (T e).cts.length := by
    rw [← Nat.add_mul]; exact Nat.mul_le_mul_right _ hlo
  have hmul2 : xs'.length * (T e).cts.length ≤ cap * (T e).cts.length := Nat.mul_le_mul_right _ k3
  have hfit : lo * (T e).cts.length + vs.length ≤ cur.length := by rw [hvl, k7]; omega
  obtain ⟨w', hrun, hb', hch, -⟩ := run_storeCells_blk P g e vs (lo * (T e).cts.length) 0 cur w k6 (by omega) h1
  rw [Nat.add_zero] at hb'
  have hsd : (σ h).sv ≠ .dead := by
    rcases homeAt_ev hhome with ⟨_, q, _⟩ | ⟨_, q, _⟩ | ⟨q, _⟩ <;> rw [q] <;> exact SV.noConfusion
  refine ⟨w', hrun, hch, fun b hb => by rw [List.mem_singleton.1 hb]; exact hF.lo h _ (.inl hsd) hgh, ?_⟩
  obtain ⟨extra, fq, svf, hfx, hcr, hmk, hghost, hslot⟩ := home_open hF hhome
  obtain ⟨f1, f2, f3, hff, c1, c2, c3⟩ := hcr.sub off 1
  have hdt : (cs.drop off).take 1 = [⟨.slice e, .own d', .l xs'⟩] := by
    obtain ⟨hlt, hx⟩ := List.getElem?_eq_some_iff.1 hcc
    rw [List.drop_eq_getElem_cons hlt, hx]; rfl
  have hdu : ((us h).drop off).take 1 = [.slice (some ⟨g, 0, none⟩) xs'.length cap] := by
    obtain ⟨hlt, hx⟩ := List.getElem?_eq_some_iff.1 hu
    rw [List.drop_eq_getElem_cons hlt, hx]; rfl
  rw [hdt, hdu] at c2
  have hcell2 : CellRel T w (Sh w fp []) ⟨.slice e, .own d', .l xs'⟩ (.slice (some ⟨g, 0, none⟩) xs'.length cap) f2 := by
    generalize hq : ([] : List Cell) = nl at c2
    cases c2 with
    | cons q1 q2 =>
      subst hq
      cases q2
      rwa [List.append_nil]
  have hf2 : f2 = [g] := by
    rcases flat_row hf hcell2 with ⟨k1, -, -⟩ | ⟨g', cap', cur', k1, k2, -⟩
    · cases k1
    · simp only [Value.slice.injEq, Option.some.injEq, Addr.mk.injEq, and_true, true_and] at k1
      rw [k2, k1.1]
  subst hf2
  have hnd := hF.nodup h
  rw [hfx, hff] at hnd
  have hndx := List.nodup_append.1 hnd
  have hnd' := List.nodup_append.1 hndx.2.1
  have hnd'' := List.nodup_append.1 hnd'.1
  have hlen : (V.splice xs' lo rs).length = xs'.length := splice_length _ _ _ hlo
  have hnew : ∀ S1 : Nat → Prop, CellRel T w' S1 ⟨.slice e, .own d', .l (V.splice xs' lo rs)⟩ (.slice (some ⟨g, 0, none⟩) xs'.length cap) [g] := by
    intro S1
    rw [← hlen]
    refine flat_mk hf (cur := V.splice cur (lo * (T e).cts.length) vs) (by rw [hlen]; exact k3) k4 (fun x hx => ?_) hb' (by rw [splice_length _ _ _ hfit, k7]) (fun u hu => ?_) (fun k hk => ?_)
    · unfold V.splice at hx
      simp only [List.mem_append] at hx
      rcases hx with (hx | hx) | hx
      · exact k5 x (List.mem_of_mem_take hx)
      · exact hrs x hx
      · exact k5 x (List.mem_of_mem_drop hx)
    · unfold V.splice at hu
      simp only [List.mem_append] at hu
      rcases hu with (hu | hu) | hu
      · exact k8 u (List.mem_of_mem_take hu)
      · exact h1 u hu
      · exact k8 u (List.mem_of_mem_drop hu)
    · rw [hlen] at hk
      have hdm := Nat.div_add_mod k (T e).cts.length
      have hml := Nat.mod_lt k hpos
      rw [getD_splice hfit, getD_splice hlo, hvl]
      by_cases hc : lo ≤ k / (T e).cts.length ∧ k / (T e).cts.length < lo + rs.length
      · have hc1 : lo * (T e).cts.length ≤ k := by
          have := Nat.mul_le_mul_left (T e).cts.length hc.1
          rw [Nat.mul_comm] at this
          omega
        have hc2 : k < lo * (T e).cts.length + rs.length * (T e).cts.length := by
          rw [← Nat.add_mul]
          exact (Nat.div_lt_iff_lt_mul hpos).1 hc.2
        rw [if_pos hc, if_pos ⟨hc1, hc2⟩]
        have hk' : k - lo * (T e).cts.length < rs.length * (T e).cts.length := by omega
        have e1 : (k - lo * (T e).cts.length) % (T e).cts.length = k % (T e).cts.length := by
          conv => rhs; rw [show k = lo * (T e).cts.length + (k - lo * (T e).cts.length) from by omega]
          rw [Nat.add_comm, Nat.add_mul_mod_self_right]
        have e2 : (k - lo * (T e).cts.length) / (T e).cts.length = k / (T e).cts.length - lo := by
          rw [Nat.mul_comm, Nat.sub_mul_div]
        have := hv _ hk'
        rw [e1, e2] at this
        exact this.flat (flat_mem hf _)
      · have hc' : ¬ (lo * (T e).cts.length ≤ k ∧ k < lo * (T e).cts.length + rs.length * (T e).cts.length) := by
          intro hx
          refine hc ⟨(Nat.le_div_iff_mul_le hpos).2 hx.1, ?_⟩
          rw [Nat.div_lt_iff_lt_mul hpos, Nat.add_mul]; exact hx.2
        rw [if_neg hc, if_neg hc']
        exact (k9 k hk).flat (flat_mem hf _)
  have hup := upd_self us h
  have hupf := upd_self fp h
  have hSg : ∀ b, Sh w fp [] b → b ∉ [g] := fun b hb hm => by rw [List.mem_singleton.1 hm] at hb; exact hb.2.1 h hgh
  have hre := hF.reW hch h hsd (fun b hb => by rw [List.mem_singleton.1 hb]; exact .inl hgh) (svf (V.splice cs off [⟨.slice e, .own d', .l (V.splice xs' lo rs)⟩])) (σ h).v (fp h) (us h) []
    (.inr ⟨rfl, rfl⟩) (hF.nodup h) .nil (fun b hb => hb.elim .inl (fun hb => by cases hb)) (fun _ _ h => by cases h) (fun e => ⟨rfl, hghost e _⟩)
    (fun hSh => by
      rw [hup, hupf] at *
      rw [hfx, hff]
      have hcells := CellsRel.splice (ys := [⟨.slice e, .own d', .l (V.splice xs' lo rs)⟩]) (c1.chg hch (fun b hb hm => hnd''.2.2 b hb g (by simp) (List.mem_singleton.1 hm)) hSg hSh) (CellsRel.cons (hnew _) .nil) (c3.chg hch (fun b hb hm => hnd'.2.2 g (by simp) b hb (List.mem_singleton.1 hm).symm) hSg hSh)
      rw [splice_self hu, List.append_nil] at hcells
      refine hslot w' _ _ _ _ (fun b hb => hch.block b (hF.lt h b (by rw [hfx]; simp [hb])) fun hm => by
        rw [List.mem_singleton.1 hm] at hb
        exact hndx.2.2 g hb g (by simp) rfl) hcells ?_
      refine ctsOf_splice ?_
      rw [List.length_singleton, hdt]; rfl)
  rw [hup, hupf] at hre
  rw [hmk]
  exact hre
end
section
variable {P : Program} {T : Tab} {G : Nat → Prop} {base : Bs} {nt : Nat} {σ : St} {a : Act} {w w' : World} {F : List Nat} {fp : Nat → List Nat} {us : Nat → List Value} {blk : Nat → Nat} {D : FuncId → List Arg → Option (Bool × Res)}
  {K : Act → World → Prop} {Q : Exit → Act → World → Prop} {o : Oper} {S S' : Nat → Prop}

theorem op_takeHead {ws : Ws} {t : Nat} {r : Nat × Nat × TypeId × Int × Int × Ver} (_ho : o.op = .assign (.tmp t)) (_h : Rel T G base nt σ a w) (_hd : ∀ d, o.dst = some d → d < nt)
    (_hr : (headOf (.tmp t)).ev D σ = some (some r)) (he : (takeHead T r o.dst).ev D σ = some ws) (_hK : ∀ a' w', Rel T G base nt (σ.setAll ws) a' w' → Bel base w w' → K a' w') : o.wp P a w K Q := by
  have he : (none : Option Ws) = some ws := he
  cases he
theorem op_assign {ws : Ws} {x : Operand} (ho : o.op = .assign x) (h : Rel T G base nt σ a w) (hd : ∀ d, o.dst = some d → d < nt)
    (he : (opR T o).ev D σ = some ws) (hK : ∀ a' w', Rel T G base nt (σ.setAll ws) a' w' → Bel base w w' → K a' w') : o.wp P a w K Q := by
  unfold opR at he
  simp only [ho] at he
  split at he
  · rename_i t
    simp only [R.ev_bind] at he
    obtain ⟨r, h1, h2⟩ := Option.bind_eq_some_iff.1 he
    cases r with
    | none => exact op_assign0 ho h hd (D := D) (by simpa only [R.ev_bind] using h2) hK
    | some r => exact op_takeHead ho h hd h1 h2 hK
  · rename_i v
    simp only [R.ev_bind] at he
    obtain ⟨r, h1, h2⟩ := Option.bind_eq_some_iff.1 he
    cases r with
    | none => exact op_assign0 ho h hd (D := D) (by simpa only [R.ev_bind] using h2) hK
    | some r => simp [headOf] at h1
  · simp at he

theorem set_self (h : Nat) : σ.set h (σ h) = σ := by
  funext n
  by_cases e : n = h
  · subst e; rw [St.set_at]
  · rw [St.set_ne _ _ e]
theorem home_same {h : Nat} {cs : List Cell} {mk : List Cell → Slot} (he : (homeAt h).ev D σ = some (cs, mk)) : mk cs = σ h := by
  rcases homeAt_ev he with ⟨e, h1, rfl⟩ | ⟨g, h1, rfl⟩ | ⟨h1, rfl⟩ <;> (show (⟨_, (σ h).v⟩ : Slot) = σ h; rw [← h1])
theorem splice_nil {α : Type} (l : List α) (i : Nat) : V.splice l i [] = l := by
  unfold V.splice
  rw [List.append_nil, List.length_nil, Nat.add_zero, List.take_append_drop]

theorem op_clear {ws : Ws} {c : Call} {x : Operand} {t : TypeId} (_hT : TabOk P T) (_ho : o.op = .call c) (_hcl : c.callee = .builtin .clear) (_hca : c.args.toList = [x]) (_hct : c.argTypes.toList = [t]) (_h : Rel T G base nt σ a w) (_hd : ∀ d, o.dst = some d → d < nt)
    (he : (clearOp T t x o.dst).ev D σ = some ws) (_hK : ∀ a' w', Rel T G base nt (σ.setAll ws) a' w' → Bel base w w' → K a' w') : o.wp P a w K Q := by
  have he : (none : Option Ws) = some ws := he
  cases he
end
section
variable {P : Program} {T : Tab} {G : Nat → Prop} {base : Bs} {nt : Nat} {σ : St} {a : Act} {w w' : World} {F : List Nat} {fp : Nat → List Nat} {us : Nat → List Value} {blk : Nat → Nat} {D : FuncId → List Arg → Option (Bool × Res)}
  {K : Act → World → Prop} {Q : Exit → Act → World → Prop} {o : Oper} {S S' : Nat → Prop}

structure SrcRd (P : Program) (T : Tab) (w : World) (e : TypeId) (u : Value) (ys : List (List TC)) : Prop where
  len : (Builtin.lenOf u).run P w = .ok ys.length w
  rows : ∀ r, r ∈ ys → r.length = (T e).cts.length
  read : ∀ n, n ≤ ys.length → ∃ vs : List Value, (Builtin.firstCells (T e).cts.length n u).run P w = .ok vs.toArray w ∧ vs.length = n * (T e).cts.length ∧ (∀ v, v ∈ vs → v.oneCell' = true) ∧
    ∀ q, q < n * (T e).cts.length → RepC T w (fun _ => False) ((T e).cts.getD (q % (T e).cts.length) .bool) (vs.getD q undef) (nth (ys.getD (q / (T e).cts.length) []) (q % (T e).cts.length))

theorem srcRd_nil {e : TypeId} {cap : Nat} {ao : Option Addr} : SrcRd P T w e (.slice ao 0 cap) [] := by
  refine ⟨rfl, (fun _ h => by cases h), fun n hn => ?_⟩
  have hn0 : n = 0 := by simpa using hn
  subst hn0
  refine ⟨[], ?_, by simp, (fun _ h => by cases h), fun q hq => by simp at hq⟩
  cases ao with
  | none => rfl
  | some ad => exact run_firstCells_some w _ 0 ad 0 cap [] (by simp) (fun j v hj => by simp at hj)

theorem srcRd_cells {e : TypeId} (hf : rowFlat T e) {ad : Addr} {ys : List (List TC)} {cap : Nat} (val : Nat → Value) (hr : ∀ r, r ∈ ys → r.length = (T e).cts.length) (hc : ∀ q, q < ys.length * (T e).cts.length → w.cell? (ad.add q) = some (val q))
    (hv : ∀ q, q < ys.length * (T e).cts.length → RepC T w (fun _ => False) ((T e).cts.getD (q % (T e).cts.length) .bool) (val q) (nth (ys.getD (q / (T e).cts.length) []) (q % (T e).cts.length))) :
    SrcRd P T w e (.slice (some ad) ys.length cap) ys := by
  refine ⟨rfl, hr, fun n hn => ?_⟩
  have hm : n * (T e).cts.length ≤ ys.length * (T e).cts.length := Nat.mul_le_mul_right _ hn
  refine ⟨(List.range (n * (T e).cts.length)).map val, run_firstCells_some w _ n ad _ cap _ (by simp) (fun j v hj => ?_), by simp, fun v hv' => ?_, fun q hq => ?_⟩
  · simp only [List.getElem?_map, Option.map_eq_some_iff] at hj
    obtain ⟨k, hk, rfl⟩ := hj
    obtain ⟨hk1, hk2⟩ := List.getElem?_eq_some_iff.1 hk
    simp only [List.getElem_range] at hk2
    subst hk2
    simp only [List.length_range] at hk1
    exact hc _ (by omega)
  · obtain ⟨q, hq, rfl⟩ := List.mem_map.1 hv'
    have := hv q (by have := List.mem_range.1 hq; omega)
    exact this.one
  · have : ((List.range (n * (T e).cts.length)).map val).getD q undef = val q := by
      simp [List.getD_eq_getElem?_getD, List.getElem?_range hq]
    rw [this]
    exact hv q (by omega)

theorem srcRd_str {e : TypeId} (he : (T e).cts = [.int .u8]) {l : List UInt8} : SrcRd P T w e (.string ⟨l.toArray⟩) (bytesRow l) := by
  have hlen : (bytesRow l).length = l.length := by simp [bytesRow]
  refine ⟨?_, fun r hr => ?_, fun n hn => ?_⟩
  · rw [hlen]
    simp [Builtin.lenOf, ByteArray.size]
  · simp only [bytesRow, List.mem_map] at hr
    obtain ⟨b, _, rfl⟩ := hr
    rw [he]; rfl
  · rw [hlen] at hn
    refine ⟨(l.take n).map fun b => .int .u8 b.toNat, ?_, by rw [he]; simp; omega, fun v hv => ?_, fun q hq => ?_⟩
    · show Sem.run P (pure (Array.map (fun b => Value.int .u8 b.toNat) ((⟨l.toArray⟩ : ByteArray).extract 0 n).data)) w = _
      rw [bytes_slice]
      simp
    · obtain ⟨b, _, rfl⟩ := List.mem_map.1 hv
      rfl
    · rw [he] at hq ⊢
      simp only [List.length_singleton, Nat.mul_one] at hq
      simp only [List.length_singleton, Nat.mod_one, Nat.div_one, List.getD_cons_zero]
      have hql : q < l.length := by omega
      have e1 : ((l.take n).map fun b => Value.int .u8 b.toNat).getD q undef = .int .u8 (l[q]).toNat := by
        simp [List.getD_eq_getElem?_getD, hq, List.getElem?_eq_getElem hql]
      have e2 : (bytesRow l).getD q [] = [.i (l[q]).toNat] := by
        simp [bytesRow, List.getD_eq_getElem?_getD, List.getElem?_eq_getElem hql]
      rw [e1, e2]
      exact .int _ _
theorem srcRows_sound (hF : RelF T G base nt σ a w [] fp us blk) {e : TypeId} (hf : rowFlat T e) {y : Operand} {ys : List (List TC)} (he : (srcRows T e y).ev D σ = some ys) : SrcRd P T w e (a.eval y) ys := by
  unfold srcRows at he
  simp only [R.ev_bind] at he
  obtain ⟨r, h1, h2⟩ := Option.bind_eq_some_iff.1 he
  clear he
  cases r with
  | none =>
    simp only [R.ev_bind] at h2
    obtain ⟨d, h3, h4⟩ := Option.bind_eq_some_iff.1 h2
    split at h4
    · rename_i hc
      simp only [R.ev_pure, Option.some.injEq] at h4
      subst h4
      obtain ⟨fq, hcr, -⟩ := peek1_sound hF h3
      obtain ⟨ct, fl, c⟩ := d
      dsimp only at hc
      obtain ⟨rfl, rfl⟩ := hc
      have hrep : RepC T w _ (.slice e) (a.eval y) c := hcr.1
      generalize a.eval y = u at hrep
      cases hrep with
      | nil => exact srcRd_nil
      | slice _ ad xs cap us1 p1 p2 p3 p4 => exact srcRd_cells hf us1 p2 (fun q hq => (p3 q hq).2) (fun q hq => (p4 q hq).flat (flat_mem hf _))
    · split at h4
      · rename_i hc
        simp only [R.ev_pure, Option.some.injEq] at h4
        subst h4
        have r1 := peek1_rep hF h3
        rw [hc.1] at r1
        rw [rep_str r1]
        exact srcRd_str hc.2
      · simp at h4
  | some r =>
    obtain ⟨hh, off, e', v, p⟩ := r
    simp only [R.ev_bind] at h2
    obtain ⟨⟨cs, mk, c0⟩, h3, h4⟩ := Option.bind_eq_some_iff.1 h2
    clear h2
    dsimp only at h4
    split at h4
    · rename_i hee
      subst hee
      simp only [R.ev_pure, Option.some.injEq] at h4
      obtain ⟨hv, hhome, hcc, d, xs, u, fc, rfl, q1, q2, ⟨ao, cap, rfl⟩, hfc⟩ := rowAt_sound hF h3
      obtain ⟨p1, p2, p3, p4⟩ := partOf_sound hF h1 hv q1 rfl
      dsimp only [TC.list] at h4
      generalize hp : p.getD (0, (xs.length : Int)) = pp at h4 p1 p2 p3 p4
      obtain ⟨lo, hi⟩ := pp
      dsimp only at h4 p1 p2 p3 p4
      rw [p4]
      have hyl : ys.length = hi.toNat - lo.toNat := by rw [← h4]; simp; omega
      by_cases hn : hi.toNat - lo.toNat = 0
      · rw [hn] at hyl ⊢
        have : ys = [] := List.eq_nil_of_length_eq_zero hyl
        rw [this]
        exact srcRd_nil
      · rcases flat_row hf q2 with ⟨k1, rfl, _⟩ | ⟨g, cap', cur, k1, rfl, k3, k4, k5, k6, k7, k8, k9⟩
        · simp at p3; omega
        · simp only [Value.slice.injEq, true_and] at k1
          obtain ⟨rfl, rfl⟩ := k1
          rw [if_neg (show ¬ cap = lo.toNat by omega), ← hyl]
          simp only [Option.map_some, add_zero_block]
          have hin : ∀ q, q < ys.length * (T e').cts.length → lo.toNat * (T e').cts.length + q < xs.length * (T e').cts.length := fun q hq => by
            have h1 := Nat.mul_le_mul_right (T e').cts.length (show lo.toNat + ys.length ≤ xs.length by omega)
            rw [Nat.add_mul] at h1
            omega
          refine srcRd_cells hf (fun q => cur.getD (lo.toNat * (T e').cts.length + q) undef) (fun r hr => k5 r (by rw [← h4] at hr; exact List.mem_of_mem_take (List.mem_of_mem_drop hr))) (fun q hq => ?_) (fun q hq => ?_)
          · rw [add_at, k6.cell]
            have hlt : lo.toNat * (T e').cts.length + q < cur.length := by
              rw [k7]
              have := Nat.mul_le_mul_right (T e').cts.length k3
              have := hin q hq
              omega
            simp only [List.getD_eq_getElem?_getD, List.getElem?_eq_getElem hlt, Option.getD_some]
          · have hk := k9 _ (hin q hq)
            have hpos := flat_pos hf
            have e1 : (lo.toNat * (T e').cts.length + q) % (T e').cts.length = q % (T e').cts.length := by rw [Nat.add_comm, Nat.add_mul_mod_self_right]
            have e2 : (lo.toNat * (T e').cts.length + q) / (T e').cts.length = lo.toNat + q / (T e').cts.length := by rw [Nat.add_comm, Nat.add_mul_div_right _ _ hpos, Nat.add_comm]
            rw [e1, e2] at hk
            have hql : q / (T e').cts.length < ys.length := (Nat.div_lt_iff_lt_mul hpos).2 hq
            have e3 : ys.getD (q / (T e').cts.length) [] = xs.getD (lo.toNat + q / (T e').cts.length) [] := by
              rw [← h4]
              simp only [List.getD_eq_getElem?_getD, List.getElem?_drop, List.getElem?_take]
              rw [if_pos (by omega)]
            rw [e3]
            exact hk
    · simp at h4

theorem op_copy {ws : Ws} {c : Call} {x y : Operand} {t u : TypeId} (hT : TabOk P T) (ho : o.op = .call c) (hcl : c.callee = .builtin .copy) (hca : c.args.toList = [x, y]) (hct : c.argTypes.toList = [t, u]) (h : Rel T G base nt σ a w) (hd : ∀ d, o.dst = some d → d < nt)
    (he : (copyOp T t u x y o.dst).ev D σ = some ws) (hK : ∀ a' w', Rel T G base nt (σ.setAll ws) a' w' → Bel base w w' → K a' w') : o.wp P a w K Q := by
  obtain ⟨fp, us, blk, hF⟩ := h
  have hca' : c.args = #[x, y] := by rw [← Array.toArray_toList (xs := c.args), hca]
  have hct' : c.argTypes = #[t, u] := by rw [← Array.toArray_toList (xs := c.argTypes), hct]
  have hex : ∀ z w', (Builtin.copy_ #[t, u] o.type #[a.eval x, a.eval y]).run P w = .ok z w' → (execOp a.eval o).run P w = .ok (.value z) w' := by
    intro z w' hz
    simp [execOp, ho, resolve, hcl, invoke, builtin, hca', hct', hz]
  unfold copyOp at he
  simp only [R.ev_bind] at he
  obtain ⟨r, h1, h2⟩ := Option.bind_eq_some_iff.1 he
  clear he
  cases r with
  | none => simp at h2
  | some r =>
    obtain ⟨hh, off, e, v, p⟩ := r
    simp only [R.ev_bind] at h2
    obtain ⟨⟨cs, mk, c0⟩, h3, h4⟩ := Option.bind_eq_some_iff.1 h2
    obtain ⟨ys, h5, h6⟩ := Option.bind_eq_some_iff.1 h4
    clear h2 h4
    dsimp only at h5 h6
    split at h6
    · rename_i hc
      obtain ⟨hc1, hf⟩ := hc
      obtain ⟨hv, hhome, hcc, d, xs, u0, fc, rfl, q1, q2, ⟨ao, cap, rfl⟩, hfc⟩ := rowAt_sound hF h3
      obtain ⟨p1, p2, p3, p4⟩ := partOf_sound hF h1 hv q1 rfl
      dsimp only [TC.list] at h6
      generalize hp : p.getD (0, (xs.length : Int)) = pp at h6 p1 p2 p3 p4
      obtain ⟨lo, hi⟩ := pp
      dsimp only at h6 p1 p2 p3 p4
      have hu := isSliceOf_ok hT hc1
      obtain ⟨ie, hie⟩ := hT e hf.2.2
      have hpos := flat_pos hf
      have hsrc := srcRows_sound (P := P) hF hf h5
      obtain ⟨n, hn1⟩ : ∃ n, min ys.length (hi.toNat - lo.toNat) = n := ⟨_, rfl⟩
      have hsz := sizeOf_run hT hf.2.2 (P := P) w
      obtain ⟨vs, s1, s2, s3, s4⟩ := hsrc.read n (by omega)
      have hlt : (ys.take (hi.toNat - lo.toNat)).length = n := by rw [List.length_take]; omega
      have hmin : Nat.min ys.length (hi.toNat - lo.toNat) = n := hn1
      rw [hn1] at h6
      by_cases hn : n = 0
      · have hys : ys.take (hi.toNat - lo.toNat) = [] := List.eq_nil_of_length_eq_zero (by rw [hlt]; exact hn)
        rw [hys, splice_nil, splice_self hcc] at h6
        have hF2 : RelF T G base nt (σ.setAll [(hh, mk cs)]) a w [] fp us blk := by
          show RelF T G base nt (σ.set hh (mk cs)) a w [] fp us blk
          rw [home_same hhome, set_self]; exact hF
        have hvs : vs = [] := List.eq_nil_of_length_eq_zero (by rw [s2, hn, Nat.zero_mul])
        subst hvs
        refine wp_ok (hex (goInt n) w ?_) (hK _ _ (finish_val (g := false) (usn := [goInt n]) hF2 h6 hd (CellsRel.cons (fp := []) (fp' := []) (makes_int .i64 (n : Int)).rel .nil) .nil (fun _ h => by cases h) (fun _ => rfl)) (Bel.refl _ _))
        rw [p4]
        cases hq : (if cap = lo.toNat then ao else ao.map (·.add (lo.toNat * (T e).cts.length))) <;> simp [Builtin.copy_, run_underlying hu, hsrc.len, hmin, hsz, s1, storeCells]
      · rcases flat_row hf q2 with ⟨k1, rfl, _⟩ | ⟨g, cap', cur, k1, rfl, k3, k4, k5, k6, k7, k8, k9⟩
        · simp at p3; omega
        · simp only [Value.slice.injEq, true_and] at k1
          obtain ⟨rfl, rfl⟩ := k1
          rw [if_neg (show ¬ cap = lo.toNat by omega)] at p4
          obtain ⟨w', w1, w2, w3, w4⟩ := rows_write (P := P) hF h3 hf q1 (lo := lo.toNat) (rs := ys.take (hi.toNat - lo.toNat)) (vs := vs) (fun r hr => hsrc.rows r (List.mem_of_mem_take hr)) (by rw [hlt]; omega) (by rw [hlt]; exact s2) s3 (fun q hq => by
            rw [hlt] at hq
            have hql : q / (T e).cts.length < n := (Nat.div_lt_iff_lt_mul hpos).2 hq
            have e1 : (ys.take (hi.toNat - lo.toNat)).getD (q / (T e).cts.length) [] = ys.getD (q / (T e).cts.length) [] := by
              simp only [List.getD_eq_getElem?_getD, List.getElem?_take]
              rw [if_pos (by omega)]
            rw [e1]
            exact s4 q hq)
          have w4 : RelF T G base nt (σ.setAll [(hh, mk (V.splice cs off [⟨.slice e, .own d, .l (V.splice xs lo.toNat (ys.take (hi.toNat - lo.toNat)))⟩]))]) a w' [] fp us blk := w4
          refine wp_ok (hex (goInt n) w' ?_) (hK _ _ (finish_val (g := false) (usn := [goInt n]) w4 h6 hd (CellsRel.cons (fp := []) (fp' := []) (makes_int .i64 (n : Int)).rel .nil) .nil (fun _ h => by cases h) (fun _ => rfl)) (w2.bel w3))
          rw [p4]
          simp only [Option.map_some, add_zero_block]
          simp [Builtin.copy_, run_underlying hu, hsrc.len, hmin, hsz, s1, w1]
    · simp at h6
end

end Go.Proofs.Ytlombmcoklbfoaa.V
