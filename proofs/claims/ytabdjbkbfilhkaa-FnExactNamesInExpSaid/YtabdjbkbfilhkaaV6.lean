import Derived.Test.YtabdjbkbfilhkaaV5
import Derived.Laws.StructEq
import Derived.Laws.Small
import Derived.Lib.ConvBytes
import Derived.Laws.BytesArg
namespace Go.Proofs.Ytabdjbkbfilhkaa.V
open Go Go.RowKit

section
variable {P : Program} {T : Tab} {G : Nat → Prop} {base : Bs} {nt : Nat} {σ : St} {a : Act} {w : World} {F : List Nat} {fp : Nat → List Nat} {us : Nat → List Value} {blk : Nat → Nat} {D : FuncId → List Arg → Option (Bool × Res)}
  {K : Act → World → Prop} {Q : Exit → Act → World → Prop} {o : Oper} {S : Nat → Prop}

def Makes (T : Tab) (c : Cell) (u : Value) : Prop := c.fl = .sh ∧ ∀ (w : World) (S : Nat → Prop), RepC T w S c.ct u c.c

theorem Makes.rel {c : Cell} {u : Value} (h : Makes T c u) : CellRel T w S c u [] := by
  unfold CellRel; rw [h.1]; exact ⟨h.2 w S, rfl⟩

theorem makes_int (k : IntKind) (n : Int) : Makes T ⟨.int k, .sh, .i n⟩ (.int k n) := ⟨rfl, fun _ _ => .int k n⟩
theorem makes_bool (b : Bool) : Makes T ⟨.bool, .sh, .b b⟩ (.bool b) := ⟨rfl, fun _ _ => .bool b⟩
theorem makes_str (l : List UInt8) : Makes T ⟨.str, .sh, .s l⟩ (.string ⟨l.toArray⟩) := ⟨rfl, fun _ _ => .str l⟩

theorem intOp_sound {op : BinOp} {k : IntKind} {x y : Int} {c : Cell} (t : TypeId) (he : (intOp op k x y).ev D σ = some c) :
    ∃ u, (Go.binOp op t (.int k x) (.int k y)).run P w = .ok u w ∧ Makes T c u := by
  unfold intOp at he
  cases op <;> simp only [R.ev_pure, R.ev_fail, Option.some.injEq, reduceCtorEq, R.ev_chk] at he
  all_goals first
    | (obtain ⟨hy, rfl⟩ := he
       refine ⟨_, ?_, makes_int _ _⟩
       simp [Go.binOp, Op.intDiv, hy])
    | (subst he
       first
         | (refine ⟨_, ?_, makes_int _ _⟩; simp [Go.binOp, Op.intArith]; done)
         | (refine ⟨_, ?_, makes_int _ _⟩; simp [Go.binOp, Op.intBits]; done)
         | (refine ⟨_, ?_, makes_bool _⟩; simp [Go.binOp, Op.intCmp]; done))
    | cases he

theorem shiftOp_sound {op : BinOp} {k k' : IntKind} {x y : Int} {c : Cell} (t : TypeId) (he : (shiftOp op k x y).ev D σ = some c) :
    ∃ u, (Go.binOp op t (.int k x) (.int k' y)).run P w = .ok u w ∧ Makes T c u := by
  unfold shiftOp at he
  cases op <;> simp only [R.ev_pure, R.ev_fail, Option.some.injEq, reduceCtorEq, R.ev_chk] at he
  all_goals first
    | (obtain ⟨hy, rfl⟩ := he
       have hy' : ¬ y < 0 := by omega
       refine ⟨_, ?_, makes_int _ _⟩
       simp [Go.binOp, Op.shift, hy'])
    | cases he

theorem bytesLess_eq (x y : List UInt8) : Op.bytesLess x y = bytesLess x y := by
  induction x generalizing y with
  | nil => cases y <;> rfl
  | cons a x ih => cases y with
    | nil => rfl
    | cons b y => simp only [Op.bytesLess, bytesLess, ih]

theorem strOp_sound {op : BinOp} {x y : List UInt8} {c : Cell} (t : TypeId) (he : (strOp op x y).ev D σ = some c) :
    ∃ u, (Go.binOp op t (.string ⟨x.toArray⟩) (.string ⟨y.toArray⟩)).run P w = .ok u w ∧ Makes T c u := by
  unfold strOp at he
  cases op <;> simp only [R.ev_pure, R.ev_fail, Option.some.injEq, reduceCtorEq, R.ev_chk] at he
  case add =>
    obtain ⟨hy, rfl⟩ := he
    refine ⟨.string ⟨(x ++ y).toArray⟩, ?_, makes_str _⟩
    have h1 : ¬ (((⟨x.toArray⟩ : ByteArray).size + (⟨y.toArray⟩ : ByteArray).size : Nat) : Int) > IntKind.i64.max := by
      simp only [ByteArray.size, List.size_toArray]
      have : IntKind.i64.max = 9223372036854775807 := by decide
      omega
    have h2 : (⟨x.toArray⟩ : ByteArray) ++ (⟨y.toArray⟩ : ByteArray) = ⟨(x ++ y).toArray⟩ := by
      apply ByteArray.ext
      rw [ByteArray.data_append]
      simp
    simp only [Go.binOp, Op.stringOp]
    rw [if_neg h1, h2]
    rfl
  all_goals first
    | (subst he
       refine ⟨_, ?_, makes_bool _⟩
       simp [Go.binOp, Op.stringOp, bytesLess_eq]
       done)
    | cases he

theorem eqGuard_flat (op : BinOp) (t : TypeId) (x y : Operand) (u v : Value) (h1 : u.oneCell' = true) (h2 : u ≠ .nilIface) : (eqGuard op t x y u v).run P w = .ok () w := by
  cases u <;> first | (exact absurd rfl h2) | (simp [Value.oneCell'] at h1; done) | (cases op <;> rfl)

theorem flat_op {m : R Cell} {ws : Ws} (h : Rel T G base nt σ a w) (hd : ∀ d, o.dst = some d → d < nt) (he : (do let c ← m; put o.dst (.val false [c]) : R Ws).ev D σ = some ws)
    (hm : ∀ c fp us blk, RelF T G base nt σ a w [] fp us blk → m.ev D σ = some c → ∃ u, (execOp a.eval o).run P w = .ok (.value u) w ∧ Makes T c u)
    (hK : ∀ a' w', Rel T G base nt (σ.setAll ws) a' w' → Bel base w w' → K a' w') : o.wp P a w K Q := by
  obtain ⟨fp, us, blk, hF⟩ := h
  simp only [R.ev_bind] at he
  obtain ⟨c, hc, hp⟩ := Option.bind_eq_some_iff.1 he
  obtain ⟨u, hr, hmk⟩ := hm c fp us blk hF hc
  exact wp_ok hr (hK _ _ (finish_flat hF hp hd hmk.rel) (Bel.refl _ _))

theorem rep_int {w : World} {k : IntKind} {u : Value} {c : TC} (h : RepC T w S (.int k) u c) : u = .int k c.int := by cases h; rfl
theorem rep_bool {w : World} {u : Value} {c : TC} (h : RepC T w S .bool u c) : u = .bool c.bool := by cases h; rfl
theorem rep_str {w : World} {u : Value} {c : TC} (h : RepC T w S .str u c) : u = .string ⟨c.str.toArray⟩ := by cases h; rfl

theorem peek_rep (h : RelF T G base nt σ a w F fp us blk) {x : Operand} {g : Bool} {cs : List Cell} (he : (peek x).ev D σ = some (g, cs)) :
    ∃ vs, a.eval x = mkv g vs ∧ vs.length = cs.length ∧ (g = false → cs.length = 1) ∧ ∀ j (hj : j < cs.length), RepC T w (fun b => b < w.heap.size) (cs[j]).ct (vs.getD j undef) (cs[j]).c := by
  obtain ⟨vs, fp', hv, hc, hg, hl, n, hn⟩ := peek_sound h he
  refine ⟨vs, hv, hc.length, hl, ?_⟩
  clear hv hl hn he
  induction hc with
  | nil => intro j hj; cases hj
  | @cons c cs u us fp fp' h1 h2 ih =>
    simp only [List.any_cons, Bool.or_eq_false_iff] at hg
    intro j hj
    cases j with
    | zero => exact h1.toRep hg.1 (fun b hb => h1.lt b hb) (fun b hb => hb.1)
    | succ j =>
      have := ih hg.2 j (by simpa using hj)
      simpa using this

theorem eqCell_sound {c d : Cell} {p : Bool} (he : eqCell c d = some p) {u v : Value} {w' : World} (hu : RepC T w' S c.ct u c.c) (hv : RepC T w' S d.ct v d.c) {dep : Nat} {t : TypeId} (hT : TabOk P T) (ht : (T t).cts = [c.ct]) (ho : (T t).kind.isOther = false) (hg : (T t).kind.agg = false) :
    (Op.equalIn (dep + 1) t u v).run P w = .ok p w := by
  obtain ⟨i, hi⟩ := hT t ho
  have hk := hi.kind
  unfold eqCell at he
  split at he
  · rename_i k k' hc hd
    rw [hc] at hu ht; rw [hd] at hv
    rw [rep_int hu, rep_int hv]
    split at he
    · rename_i hkk
      subst hkk
      cases he
      cases hkd : (T t).kind <;> rw [hkd] at hk hg ho <;> simp [TK.isOther, TK.agg] at hg ho <;> simp only [KindOk] at hk <;> rw [ht] at hk <;> simp at hk
      simp [Op.equalIn, run_underlying hk.1]
    · cases he
  · rename_i hc hd
    rw [hc] at hu ht; rw [hd] at hv
    rw [rep_bool hu, rep_bool hv]
    cases he
    cases hkd : (T t).kind <;> rw [hkd] at hk hg ho <;> simp [TK.isOther, TK.agg] at hg ho <;> simp only [KindOk] at hk <;> rw [ht] at hk <;> simp at hk
    simp [Op.equalIn, run_underlying hk]
  · rename_i hc hd
    rw [hc] at hu ht; rw [hd] at hv
    rw [rep_str hu, rep_str hv]
    cases he
    cases hkd : (T t).kind <;> rw [hkd] at hk hg ho <;> simp [TK.isOther, TK.agg] at hg ho <;> simp only [KindOk] at hk <;> rw [ht] at hk <;> simp at hk
    have : ((⟨c.c.str.toArray⟩ : ByteArray) == ⟨d.c.str.toArray⟩) = (c.c.str == d.c.str) := by
      show (c.c.str.toArray == d.c.str.toArray) = _
      simp
    simp [Op.equalIn, run_underlying hk, this]
  · cases he

theorem part_one {e : TypeId} (hT : TabOk P T) (ho : (T e).kind.isOther = false) (hg : (T e).kind.agg = false) {xs : Array Value} {j : Nat} {u : Value} (hu : xs[j]? = some u) (w : World) : (part e xs j).run P w = .ok u w := by
  simp [part, isAgg_run hT ho w, hg, hu]

theorem eqFields_sound (hT : TabOk P T) {xs ys : List Value} {w : World} : ∀ (n : Nat) (fl : List Field) (cs ds : List Cell) (p : Bool) (k : Nat), fl.length = n → cs.length = n → eqCells cs ds = some p →
    (∀ j (hj : j < cs.length), RepC T w S (cs[j]).ct (xs.getD (k + j) undef) (cs[j]).c) → (∀ j (hj : j < ds.length), RepC T w S (ds[j]).ct (ys.getD (k + j) undef) (ds[j]).c) → k + n ≤ xs.length → k + n ≤ ys.length →
    (∀ j (hj : j < fl.length), (fl[j]).name ≠ "_" ∧ (fl[j]).offset = k + j ∧ (T (fl[j]).type).kind.isOther = false ∧ (T (fl[j]).type).kind.agg = false ∧ ∀ c, cs[j]? = some c → (T (fl[j]).type).cts = [c.ct]) →
    ∀ dep, (Op.eqFields (dep + 1) xs.toArray ys.toArray fl).run P w = .ok p w := by
  intro n
  induction n with
  | zero =>
    intro fl cs ds p k hf hc he _ _ _ _ _ dep
    cases fl with
    | cons => cases hf
    | nil =>
      cases cs with
      | cons => cases hc
      | nil =>
        cases ds with
        | cons => cases he
        | nil => cases he; rfl
  | succ n ih =>
    intro fl cs ds p k hf hc he hx hy lx ly hfl dep
    cases fl with
    | nil => cases hf
    | cons f fl =>
      cases cs with
      | nil => cases hc
      | cons c cs =>
        cases ds with
        | nil => cases he
        | cons d ds =>
          simp only [eqCells] at he
          obtain ⟨q, hq, he⟩ := Option.bind_eq_some_iff.1 he
          obtain ⟨r, hr, rfl⟩ := Option.map_eq_some_iff.1 he
          obtain ⟨hn, hof, h1, h2, h3⟩ := hfl 0 (by simp)
          have hx0 := hx 0 (by simp)
          have hy0 := hy 0 (by simp)
          have ex : xs.toArray[(f.offset)]? = some (xs.getD (k + 0) undef) := by
            have : f.offset = k + 0 := hof
            rw [this]; simp [List.getD_eq_getElem?_getD, List.getElem?_eq_getElem (show k < xs.length by omega)]
          have ey : ys.toArray[(f.offset)]? = some (ys.getD (k + 0) undef) := by
            have : f.offset = k + 0 := hof
            rw [this]; simp [List.getD_eq_getElem?_getD, List.getElem?_eq_getElem (show k < ys.length by omega)]
          have heq := eqCell_sound (w := w) (dep := dep) (t := f.type) hq hx0 hy0 hT (h3 c rfl) h1 h2
          have hrest := ih fl cs ds r (k + 1) (by simpa using hf) (by simpa using hc) hr
            (fun j hj => by have := hx (j + 1) (by simpa using hj); rwa [show k + (j + 1) = k + 1 + j by omega] at this)
            (fun j hj => by have := hy (j + 1) (by simpa using hj); rwa [show k + (j + 1) = k + 1 + j by omega] at this) (by omega) (by omega)
            (fun j hj => by
              obtain ⟨a1, a2, a3, a4, a5⟩ := hfl (j + 1) (by simpa using hj)
              simp only [List.getElem_cons_succ] at a1 a2 a3 a4 a5
              exact ⟨a1, by omega, a3, a4, fun c hc => a5 c (by simpa using hc)⟩) dep
          have hn' : f.name ≠ "_" := hn
          have pa := part_one (P := P) hT h1 h2 ex w
          have pb := part_one (P := P) hT h1 h2 ey w
          simp only [List.getElem_cons_zero] at pa pb heq
          simp only [Op.eqFields, if_pos hn', Sem.run_bind, pa, pb, heq, Result.andThen_ok]
          cases q
          · simp
          · simpa using hrest

theorem eqCells_length {cs ds : List Cell} {p : Bool} (h : eqCells cs ds = some p) : cs.length = ds.length := by
  induction cs generalizing ds p with
  | nil => cases ds with
    | nil => rfl
    | cons => cases h
  | cons c cs ih => cases ds with
    | nil => cases h
    | cons d ds =>
      simp only [eqCells] at h
      obtain ⟨q, _, h⟩ := Option.bind_eq_some_iff.1 h
      obtain ⟨r, hr, _⟩ := Option.map_eq_some_iff.1 h
      simp [ih hr]

theorem equalIn_bool {t : TypeId} {p q : Bool} (hu : P.underlying t = some .bool) (n : Nat) : (Op.equalIn (n + 1) t (.bool p) (.bool q)).run P w = .ok (p == q) w := by
  simp [Op.equalIn, run_underlying hu]

theorem op_binOp (hT : TabOk P T) {ws : Ws} {op : BinOp} {xt yt : TypeId} {x y : Operand} (ho : o.op = .binOp op xt x y yt) (h : Rel T G base nt σ a w) (hd : ∀ d, o.dst = some d → d < nt)
    (he : (opR T o).ev D σ = some ws) (hK : ∀ a' w', Rel T G base nt (σ.setAll ws) a' w' → Bel base w w' → K a' w') : o.wp P a w K Q := by
  unfold opR at he
  simp only [ho] at he
  refine flat_op h hd he ?_ hK
  intro c fp us blk hF hc
  have hex : ∀ u v z, a.eval x = u → a.eval y = v → u.oneCell' = true → u ≠ .nilIface → (Go.binOp op xt u v).run P w = .ok z w → (execOp a.eval o).run P w = .ok (.value z) w := by
    intro u v z hu hv h1 h2 hz
    simp only [execOp, ho, Sem.run_bind, hu, hv, eqGuard_flat op xt x y u v h1 h2, Result.andThen_ok, hz, Sem.run_pure]
  unfold binOp at hc
  simp only [R.ev_bind] at hc
  obtain ⟨⟨g1, cs⟩, h1, hc1⟩ := Option.bind_eq_some_iff.1 hc
  clear hc
  obtain ⟨⟨g2, ds⟩, h2, hc⟩ := Option.bind_eq_some_iff.1 hc1
  clear hc1
  obtain ⟨us1, e1, l1, m1, r1⟩ := peek_rep hF h1
  obtain ⟨us2, e2, l2, m2, r2⟩ := peek_rep hF h2
  split at hc
  · rename_i cc dd q1 q2
    simp only [Prod.mk.injEq] at q1 q2
    obtain ⟨rfl, rfl⟩ := q1
    obtain ⟨rfl, rfl⟩ := q2
    have r1 := r1 0 (by simp)
    have r2 := r2 0 (by simp)
    obtain ⟨u1, rfl, k1⟩ := mkv_false_one l1
    obtain ⟨u2, rfl, k2⟩ := mkv_false_one l2
    rw [k1] at e1
    rw [k2] at e2
    simp only [List.getElem_cons_zero, List.getD_cons_zero] at r1 r2
    cases hk : cc.ct with
    | int k =>
      cases hk' : dd.ct with
      | int k' =>
        rw [hk] at r1; rw [hk'] at r2
        have q1 := rep_int r1
        have q2 := rep_int r2
        have hs : ∀ c, (shiftOp op k cc.c.int dd.c.int).ev D σ = some c → ∃ u, (execOp a.eval o).run P w = .ok (.value u) w ∧ Makes T c u := fun c hc => by
          obtain ⟨u, hr, hm⟩ := shiftOp_sound (P := P) (T := T) (w := w) (k' := k') xt hc
          exact ⟨u, hex _ _ _ (e1.trans q1) (e2.trans q2) rfl (by simp) hr, hm⟩
        have hi : ∀ c, (if k = k' then intOp op k cc.c.int dd.c.int else R.fail).ev D σ = some c → ∃ u, (execOp a.eval o).run P w = .ok (.value u) w ∧ Makes T c u := fun c hc => by
          split at hc
          · rename_i hkk
            subst hkk
            obtain ⟨u, hr, hm⟩ := intOp_sound (P := P) (T := T) (w := w) xt hc
            exact ⟨u, hex _ _ _ (e1.trans q1) (e2.trans q2) rfl (by simp) hr, hm⟩
          · simp at hc
        rw [hk, hk'] at hc
        cases op <;> first | exact hs _ hc | exact hi _ hc
      | _ => simp [hk, hk'] at hc
    | str =>
      cases hk' : dd.ct with
      | str =>
        rw [hk] at r1; rw [hk'] at r2
        rw [hk, hk'] at hc
        obtain ⟨u, hr, hm⟩ := strOp_sound (P := P) (T := T) (w := w) xt hc
        exact ⟨u, hex _ _ _ (e1.trans (rep_str r1)) (e2.trans (rep_str r2)) rfl (by simp) hr, hm⟩
      | _ => simp [hk, hk'] at hc
    | bool =>
      cases hk' : dd.ct with
      | bool =>
        rw [hk] at r1; rw [hk'] at r2
        rw [hk, hk'] at hc
        have q1 := rep_bool r1
        have q2 := rep_bool r2
        cases hkd : (T xt).kind with
        | bool =>
          obtain ⟨i, hi⟩ := hT xt (by rw [hkd]; rfl)
          have hki := hi.kind
          rw [hkd] at hki
          have hq : (Op.equal xt (.bool cc.c.bool) (.bool dd.c.bool)).run P w = .ok (cc.c.bool == dd.c.bool) w := by
            exact equalIn_bool hki.1 9999
          rw [hkd] at hc
          cases op <;> simp only [R.ev_pure, R.ev_fail, Option.some.injEq, reduceCtorEq] at hc
          · subst hc
            exact ⟨_, hex _ _ _ (e1.trans q1) (e2.trans q2) rfl (by simp) (by simp [Go.binOp, hq]), makes_bool _⟩
          · subst hc
            exact ⟨_, hex _ _ _ (e1.trans q1) (e2.trans q2) rfl (by simp) (by simp [Go.binOp, hq]), makes_bool _⟩
        | _ => cases op <;> simp [hkd] at hc
      | _ => simp [hk, hk'] at hc
    | _ => cases hk' : dd.ct <;> simp [hk, hk'] at hc
  · rename_i cs' ds' q1 q2
    simp only [Prod.mk.injEq] at q1 q2
    obtain ⟨rfl, rfl⟩ := q1
    obtain ⟨rfl, rfl⟩ := q2
    split at hc
    · rename_i hcond
      simp only [Bool.and_eq_true, beq_iff_eq, Bool.not_eq_true'] at hcond
      obtain ⟨⟨⟨hcm, hoth⟩, hct1⟩, hct2⟩ := hcond
      obtain ⟨i, hi⟩ := hT xt hoth
      obtain ⟨hg0, hst, fs, fields, hkd, hun, hfl, hfs, hnm⟩ := hi.cmp hcm
      have hki := hi.kind
      rw [hkd] at hki
      obtain ⟨fields', hun', hsz, hfo⟩ := hki
      rw [hun] at hun'
      simp only [Option.some.injEq, TypeDesc.struct.injEq] at hun'
      subst hun'
      have hlen : cs.length = fields.size := by rw [hsz, hfl, ← hct1]; simp [ctsOf]
      have key : ∀ p, eqCells cs ds = some p → (Op.equal xt (.agg us1.toArray) (.agg us2.toArray)).run P w = .ok p w := by
        intro p hp
        show (Op.equalIn (9999 + 1) xt _ _).run P w = _
        have hfo2 : P.fieldsOf xt = fields := by simp [Program.fieldsOf, hun]
        rw [run_equalIn_struct w 9999 xt _ _ (by rw [hfo2]; exact hun) hst, hfo2]
        have hl2 := eqCells_length hp
        refine eqFields_sound (S := fun b => b < w.heap.size) hT cs.length fields.toList cs ds p 0 (by simp [hlen]) rfl hp ?_ ?_ (by omega) (by omega) ?_ 9998
        · intro j hj; rw [Nat.zero_add]; exact r1 j hj
        · intro j hj; rw [Nat.zero_add]; exact r2 j hj
        · intro j hj
          have hj' : j < fields.size := by simpa using hj
          have hjf : j < fs.length := by omega
          obtain ⟨hfj, ho1, ho2⟩ := hfs j hjf
          obtain ⟨f, hf1, hf2, hf3, hf4, _⟩ := hfo j j _ hfj
          have hfe : fields.toList[j] = f := by
            have := Array.getElem?_eq_some_iff.1 hf1
            obtain ⟨_, h⟩ := this
            simpa using h
          rw [hfe, hf3]
          refine ⟨hnm f ?_, by omega, ho1, ho2, fun c hc => ?_⟩
          · rw [← hfe]; exact Array.mem_toList_iff.1 (List.getElem_mem _)
          · have h1 := agg_cts hT ho1 ho2
            rw [h1, ← hct1] at hf4
            rw [← hf4]
            have hjc : j < cs.length := by omega
            rw [List.getElem?_eq_getElem hjc] at hc
            have hce : cs[j] = c := Option.some.inj hc
            rw [show ctsOf cs = cs.map (·.ct) from rfl, ← List.map_drop, List.drop_eq_getElem_cons hjc, hce]
            rfl
      have hgu : (eqGuard op xt x y (.agg us1.toArray) (.agg us2.toArray)).run P w = .ok () w := by
        cases op <;> simp [eqGuard, hg0]
      have hex2 : ∀ z, (Go.binOp op xt (.agg us1.toArray) (.agg us2.toArray)).run P w = .ok z w → (execOp a.eval o).run P w = .ok (.value z) w := by
        intro z hz
        have e1' : a.eval x = .agg us1.toArray := e1
        have e2' : a.eval y = .agg us2.toArray := e2
        simp only [execOp, ho, Sem.run_bind, e1', e2', hgu, Result.andThen_ok, hz, Sem.run_pure]
      split at hc
      · rename_i p hp
        simp only [R.ev_pure, Option.some.injEq] at hc
        subst hc
        exact ⟨.bool p, hex2 _ (by simp [Go.binOp, key p hp]), makes_bool _⟩
      · rename_i p hp
        simp only [R.ev_pure, Option.some.injEq] at hc
        subst hc
        exact ⟨.bool (!p), hex2 _ (by simp [Go.binOp, key p hp]), makes_bool _⟩
      · simp at hc
    · simp at hc
  · simp at hc

theorem op_unOp {ws : Ws} {op : UnOp} {t : TypeId} {x : Operand} (ho : o.op = .unOp op t x) (h : Rel T G base nt σ a w) (hd : ∀ d, o.dst = some d → d < nt)
    (he : (opR T o).ev D σ = some ws) (hK : ∀ a' w', Rel T G base nt (σ.setAll ws) a' w' → Bel base w w' → K a' w') : o.wp P a w K Q := by
  unfold opR at he
  simp only [ho] at he
  refine flat_op h hd he ?_ hK
  intro c fp us blk hF hc
  have hex : ∀ z, (Op.unary op (a.eval x)).run P w = .ok z w → (execOp a.eval o).run P w = .ok (.value z) w := by
    intro z hz
    simp only [execOp, ho, Sem.run_bind, hz, Result.andThen_ok, Sem.run_pure]
  unfold unOp at hc
  simp only [R.ev_bind] at hc
  obtain ⟨d, h1, hc1⟩ := Option.bind_eq_some_iff.1 hc
  clear hc
  have r1 := peek1_rep hF h1
  cases hk : d.ct with
  | bool =>
    rw [hk] at r1 hc1
    cases op <;> simp only [R.ev_pure, R.ev_fail, Option.some.injEq, reduceCtorEq] at hc1
    subst hc1
    exact ⟨_, hex _ (by rw [rep_bool r1]; simp [Op.unary]), makes_bool _⟩
  | int k =>
    rw [hk] at r1 hc1
    cases op <;> simp only [R.ev_fail, reduceCtorEq, intOp, R.ev_pure, Option.some.injEq] at hc1
    · subst hc1
      exact ⟨_, hex _ (by rw [rep_int r1]; simp [Op.unary, Op.intArith]), makes_int _ _⟩
    · subst hc1
      exact ⟨_, hex _ (by rw [rep_int r1]; simp [Op.unary, Op.intBits]), makes_int _ _⟩
  | _ => cases op <;> simp [hk] at hc1

theorem bytes_get {l : List UInt8} {n : Nat} (h : n < l.length) : (⟨l.toArray⟩ : ByteArray)[n]? = some l[n] := by
  rw [getElem?_pos (⟨l.toArray⟩ : ByteArray) n (by simpa [ByteArray.size] using h)]; rfl
theorem bytes_size (l : List UInt8) : (⟨l.toArray⟩ : ByteArray).size = l.length := by simp [ByteArray.size]

theorem op_index {ws : Ws} {t : TypeId} {x ix : Operand} (hT : TabOk P T) (ho : o.op = .index t x ix) (h : Rel T G base nt σ a w) (hd : ∀ d, o.dst = some d → d < nt)
    (he : (opR T o).ev D σ = some ws) (hK : ∀ a' w', Rel T G base nt (σ.setAll ws) a' w' → Bel base w w' → K a' w') : o.wp P a w K Q := by
  unfold opR at he
  simp only [ho] at he
  refine flat_op h hd he ?_ hK
  intro c fp us blk hF hc
  have hex : ∀ z, (Instr.index t (a.eval x) (a.eval ix)).run P w = .ok z w → (execOp a.eval o).run P w = .ok (.value z) w := by
    intro z hz
    simp only [execOp, ho, Sem.run_bind, hz, Result.andThen_ok, Sem.run_pure]
  unfold index at hc
  simp only [R.ev_bind] at hc
  obtain ⟨d, h1, hc1⟩ := Option.bind_eq_some_iff.1 hc
  obtain ⟨⟨k, i⟩, h2, hc2⟩ := Option.bind_eq_some_iff.1 hc1
  clear hc hc1
  have r1 := peek1_rep hF h1
  have r2 := peekInt_sound hF h2
  cases hkd : (T t).kind <;> cases hk : d.ct <;> rw [hk, hkd] at hc2 <;> first | (simp only [R.ev_fail, reduceCtorEq] at hc2; done) | skip
  case str.str =>
    obtain ⟨i0, hi⟩ := hT t (by rw [hkd]; rfl)
    have hu := hi.kind
    rw [hkd] at hu
    replace hu := hu.1
    rw [hk] at r1
    simp only [R.ev_bind] at hc2
    obtain ⟨_, hg, hc3⟩ := Option.bind_eq_some_iff.1 hc2
    rw [R.ev_guard] at hg
    simp only [R.ev_pure, Option.some.injEq] at hc3
    subst hc3
    refine ⟨_, hex _ ?_, makes_int _ _⟩
    rw [rep_str r1, r2]
    have hlt : i.toNat < d.c.str.length := by omega
    have hb := bytes_get hlt
    simp [Instr.index, asIntOf, run_underlying hu, hg.1, hb, List.getElem?_eq_getElem hlt]

theorem op_len {ws : Ws} {c : Call} {x : Operand} {t : TypeId} (hT : TabOk P T) (ho : o.op = .call c) (hcl : c.callee = .builtin .len) (hca : c.args.toList = [x]) (hct : c.argTypes.toList = [t])
    (h : Rel T G base nt σ a w) (hd : ∀ d, o.dst = some d → d < nt)
    (he : (opR T o).ev D σ = some ws) (hK : ∀ a' w', Rel T G base nt (σ.setAll ws) a' w' → Bel base w w' → K a' w') : o.wp P a w K Q := by
  unfold opR at he
  simp only [ho, hcl, hca, hct] at he
  refine flat_op h hd he ?_ hK
  intro cc fp us blk hF hc
  have hca' : c.args = #[x] := by rw [← Array.toArray_toList (xs := c.args), hca]
  have hct' : c.argTypes = #[t] := by rw [← Array.toArray_toList (xs := c.argTypes), hct]
  have hex : ∀ z, (Builtin.len_ #[t] o.type #[a.eval x]).run P w = .ok z w → (execOp a.eval o).run P w = .ok (.value z) w := by
    intro z hz
    simp [execOp, ho, resolve, hcl, invoke, builtin, hca', hct', hz]
  unfold lenOp at hc
  simp only [R.ev_bind] at hc
  obtain ⟨d, h1, hc1⟩ := Option.bind_eq_some_iff.1 hc
  clear hc
  have r1 := peek1_rep hF h1
  cases hkd : (T t).kind <;> cases hk : d.ct <;> rw [hk, hkd] at hc1 <;> first | (simp only [R.ev_fail, reduceCtorEq] at hc1; done) | skip
  all_goals
    obtain ⟨i0, hi⟩ := hT t (by rw [hkd]; rfl)
    have hu := hi.kind
    rw [hkd] at hu
    replace hu := hu.1
    rw [hk] at r1
    simp only [R.ev_pure, Option.some.injEq] at hc1
    subst hc1
    refine ⟨_, hex _ ?_, makes_int _ _⟩
  · rw [rep_str r1]; have := bytes_size d.c.str; simp [Builtin.len_, run_underlying hu, goInt, this]
  · generalize d.c = dc at r1 ⊢
    generalize a.eval x = u at r1 ⊢
    cases r1 with
    | nil => simp [Builtin.len_, run_underlying hu, goInt, TC.list]
    | slice => simp [Builtin.len_, run_underlying hu, goInt, TC.list]
  · generalize d.c = dc at r1 ⊢
    generalize a.eval x = u at r1 ⊢
    cases r1
    simp [Builtin.len_, run_underlying hu, goInt]
end

end Go.Proofs.Ytabdjbkbfilhkaa.V
