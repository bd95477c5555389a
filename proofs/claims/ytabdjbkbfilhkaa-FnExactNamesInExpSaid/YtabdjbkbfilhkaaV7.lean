import Derived.Test.YtabdjbkbfilhkaaV6
namespace Go.Proofs.Ytabdjbkbfilhkaa.V
open Go Go.RowKit

section
variable {P : Program} {T : Tab} {G : Nat → Prop} {base : Bs} {nt : Nat} {σ : St} {a : Act} {w : World} {F : List Nat} {fp : Nat → List Nat} {us : Nat → List Value} {blk : Nat → Nat} {D : FuncId → List Arg → Option (Bool × Res)}
  {K : Act → World → Prop} {Q : Exit → Act → World → Prop} {o : Oper} {S : Nat → Prop}

theorem op_minMax {ws : Ws} {c : Call} {mx : Bool} (ho : o.op = .call c) (hcl : c.callee = .builtin (if mx then .max else .min))
    (h : Rel T G base nt σ a w) (hd : ∀ d, o.dst = some d → d < nt)
    (he : (do let d ← minMax mx c.args.toList; put o.dst (.val false [d]) : R Ws).ev D σ = some ws) (hK : ∀ a' w', Rel T G base nt (σ.setAll ws) a' w' → Bel base w w' → K a' w') : o.wp P a w K Q := by
  refine flat_op h hd he ?_ hK
  intro cc fp us blk hF hc
  unfold minMax at hc
  split at hc
  · rename_i x y hxy
    have hca : c.args = #[x, y] := by rw [← Array.toArray_toList (xs := c.args), hxy]
    simp only [R.ev_bind] at hc
    obtain ⟨⟨k, m⟩, h1, hc1⟩ := Option.bind_eq_some_iff.1 hc
    obtain ⟨⟨k', n⟩, h2, hc2⟩ := Option.bind_eq_some_iff.1 hc1
    clear hc hc1
    have r1 := peekInt_sound hF h1
    have r2 := peekInt_sound hF h2
    split at hc2
    · simp only [R.ev_pure, Option.some.injEq] at hc2
      subst hc2
      refine ⟨_, ?_, makes_int _ _⟩
      cases mx
      · have := run_min_int2 (P := P) w c.argTypes o.type k k' m n
        simp only [Bool.false_eq_true, if_false] at hcl ⊢
        simp [execOp, ho, resolve, hcl, invoke, builtin, hca, r1, r2, this]
      · have := run_max_int2 (P := P) w c.argTypes o.type k k' m n
        simp only [if_true] at hcl ⊢
        simp [execOp, ho, resolve, hcl, invoke, builtin, hca, r1, r2, this]
    · simp at hc2
  · simp at hc

theorem rep_slice {e : TypeId} {u : Value} {c : TC} (h : RepC T w S (.slice e) u c) :
    (u = .slice none 0 0 ∧ c.list = []) ∨ ∃ ad cap, ∃ vs : List Value, u = .slice (some ad) c.list.length cap ∧ c.list.length ≤ cap ∧ vs.length = c.list.length * (T e).cts.length ∧ (∀ j v, vs[j]? = some v → w.cell? (ad.add j) = some v ∧ S ad.block) ∧
      (∀ x, x ∈ c.list → x.length = (T e).cts.length) ∧
      (∀ k, k < c.list.length * (T e).cts.length → RepC T w S ((T e).cts.getD (k % (T e).cts.length) .bool) (vs.getD k undef) (nth (c.list.getD (k / (T e).cts.length) []) (k % (T e).cts.length))) := by
  cases h with
  | nil => exact .inl ⟨rfl, rfl⟩
  | slice e ad xs cap us h1 h2 h3 h4 =>
    refine .inr ⟨ad, cap, (List.range (xs.length * (T e).cts.length)).map us, rfl, h1, by simp [TC.list], ?_, h2, ?_⟩
    · intro j v hj
      simp only [List.getElem?_map, Option.map_eq_some_iff] at hj
      obtain ⟨k, hk, rfl⟩ := hj
      obtain ⟨hlt, rfl⟩ := List.getElem?_eq_some_iff.1 hk
      simp only [List.length_range] at hlt
      simp only [List.getElem_range]
      exact ⟨(h3 _ hlt).2, (h3 _ hlt).1⟩
    · intro k hk
      have : ((List.range (xs.length * (T e).cts.length)).map us).getD k undef = us k := by
        simp only [TC.list] at hk
        simp [List.getD_eq_getElem?_getD, List.getElem?_range hk]
      rw [this]
      exact h4 k hk

theorem byteRow (xs : List (List TC)) : (xs.map byteOf) = (xs.map fun x => (nth x 0).int).map fun n => UInt8.ofNat n.toNat := by
  rw [List.map_map]; rfl

theorem own_flat {e : TypeId} {g cap : Nat} {xs : List (List TC)} {cur : List Value} (h1 : xs.length ≤ cap) (h1m : cap ≤ maxLen) (h2 : ∀ x, x ∈ xs → x.length = (T e).cts.length) (hb : Blk w g cur e) (hl : cur.length = cap * (T e).cts.length)
    (ho : ∀ u, u ∈ cur → u.oneCell' = true) (hm : ∀ ct, ct ∈ (T e).cts → ct.mem = false) (hr : ∀ k, k < xs.length * (T e).cts.length → RepC T w S ((T e).cts.getD (k % (T e).cts.length) .bool) (cur.getD k undef) (nth (xs.getD (k / (T e).cts.length) []) (k % (T e).cts.length))) :
    OwnC T w (.slice e) (.slice (some ⟨g, 0, none⟩) xs.length cap) (.l xs) [g] := by
  have := OwnC.slice (T := T) (w := w) e g xs cap cur (fun _ => []) h1 h1m h2 hb hl ho fun k hk => by
    have hmem : ((T e).cts.getD (k % (T e).cts.length) .bool).mem = false := by
      rw [List.getD_eq_getElem?_getD]
      cases hq : (T e).cts[k % (T e).cts.length]? with
      | none => rfl
      | some ct => exact hm ct (List.mem_of_getElem? hq)
    exact .flat _ _ _ hmem ((hr k hk).flat hmem)
  have e2 : (List.range (xs.length * (T e).cts.length)).flatMap (fun _ => ([] : List Nat)) = [] := by simp
  rwa [e2] at this

theorem kind_u8 (hT : TabOk P T) {e : TypeId} {k : IntKind} (hk : (T e).kind = .int k) : P.underlying e = some (.int k) ∧ (T e).cts = [.int k] := by
  obtain ⟨i, hi⟩ := hT e (by rw [hk]; rfl)
  have := hi.kind
  rwa [hk] at this

theorem finish_own {ws' : Ws} {dst : Option Tmp} {e : TypeId} {xs : List (List TC)} {u : Value} {w' : World} {g : Nat} (h : RelF T G base nt σ a w [] fp us blk) (hc : Chg w w' []) (hg : w.heap.size ≤ g ∧ g < w'.heap.size)
    (hp : (put dst (.val false [⟨.slice e, .own true, .l xs⟩])).ev D σ = some ws') (hd : ∀ d, dst = some d → d < nt) (hr : OwnC T w' (.slice e) u (.l xs) [g]) : Rel T G base nt (σ.setAll ws') (a.put dst u) w' := by
  have h2 := h.chg hc (fun _ h => by cases h) [g] (fun b hb => by rw [List.mem_singleton.1 hb]; exact hg) (by simp)
  have hcr := CellsRel.cons (T := T) (w := w') (S := Sh w' fp [g]) (c := ⟨.slice e, .own true, .l xs⟩) (u := u) (fp := [g]) (fp' := []) hr .nil
  exact finish_val (ws := []) (F := [g]) (usn := [u]) h2 hp hd hcr (by simp) (fun b hb => by simpa using hb) (fun _ => rfl)

theorem op_convert {ws : Ws} {src dst : TypeId} {x : Operand} (hT : TabOk P T) (ho : o.op = .convert src dst x) (h : Rel T G base nt σ a w) (hd : ∀ d, o.dst = some d → d < nt)
    (he : (opR T o).ev D σ = some ws) (hK : ∀ a' w', Rel T G base nt (σ.setAll ws) a' w' → Bel base w w' → K a' w') : o.wp P a w K Q := by
  unfold opR at he
  simp only [ho] at he
  obtain ⟨fp, us, blk, hF⟩ := h
  simp only [R.ev_bind] at he
  obtain ⟨cc, hc, hp⟩ := Option.bind_eq_some_iff.1 he
  have hex : ∀ z w', (Go.convert src dst (a.eval x)).run P w = .ok z w' → (execOp a.eval o).run P w = .ok (.value z) w' := by
    intro z w' hz
    simp only [execOp, ho, Sem.run_bind, hz, Result.andThen_ok, Sem.run_pure]
  unfold convert at hc
  simp only [R.ev_bind] at hc
  obtain ⟨d, h1, hc1⟩ := Option.bind_eq_some_iff.1 hc
  clear hc he
  have r1 := peek1_rep hF h1
  cases hk : d.ct <;> cases hks : (T src).kind <;> cases hkd : (T dst).kind <;> rw [hk, hks, hkd] at hc1 <;> first | (simp only [R.ev_fail, reduceCtorEq] at hc1; done) | skip
  case int.int.int k k1 k2 =>
    obtain ⟨i0, hi⟩ := hT src (by rw [hks]; rfl)
    obtain ⟨j0, hj⟩ := hT dst (by rw [hkd]; rfl)
    have hu := hi.kind
    have hv := hj.kind
    rw [hks] at hu; rw [hkd] at hv
    rw [hk] at r1
    simp only [R.ev_pure, Option.some.injEq] at hc1
    subst hc1
    refine wp_ok (hex _ _ ?_) (hK _ _ (finish_flat hF hp hd (makes_int _ _).rel) (Bel.refl _ _))
    rw [rep_int r1]
    simp [Go.convert, run_underlying hu.1, run_underlying hv.1, Conv.intToInt]
  case str.str.str =>
    obtain ⟨i0, hi⟩ := hT src (by rw [hks]; rfl)
    obtain ⟨j0, hj⟩ := hT dst (by rw [hkd]; rfl)
    have hu := hi.kind
    have hv := hj.kind
    rw [hks] at hu; rw [hkd] at hv
    rw [hk] at r1
    simp only [R.ev_pure, Option.some.injEq] at hc1
    subst hc1
    have hrel : CellRel T w (Sh w fp []) ⟨.str, .sh, d.c⟩ (a.eval x) [] := ⟨r1.flat rfl, rfl⟩
    refine wp_ok (hex _ _ ?_) (hK _ _ (finish_flat hF hp hd hrel) (Bel.refl _ _))
    rw [rep_str r1]
    simp [Go.convert, run_underlying hu.1, run_underlying hv.1]
  case str.str.slice e =>
    obtain ⟨i0, hi⟩ := hT src (by rw [hks]; rfl)
    obtain ⟨j0, hj⟩ := hT dst (by rw [hkd]; rfl)
    have hu := hi.kind
    have hv := hj.kind
    rw [hks] at hu; rw [hkd] at hv
    rw [hk] at r1
    dsimp only at hc1
    split at hc1
    · rename_i hku
      obtain ⟨hue, hct⟩ := kind_u8 hT hku
      simp only [R.ev_bind] at hc1
      obtain ⟨_, hg, hc2⟩ := Option.bind_eq_some_iff.1 hc1
      rw [R.ev_guard] at hg
      simp only [R.ev_pure, Option.some.injEq] at hc2
      subst hc2
      have hs := rep_str r1
      have hrun := Lib.run_convert_string_bytes (P := P) w src dst e ⟨d.c.str.toArray⟩ hu.1 hv.1 hue
      rw [← hs, bytes_size] at hrun
      have hat := Lib.bytesWorld_at_new w e ⟨d.c.str.toArray⟩
      have hsz := Lib.bytesWorld_size w e ⟨d.c.str.toArray⟩
      have hge := grownCap_ge w d.c.str.length 0 e
      have hle := grownCap_le_maxLen w d.c.str.length 0 e (by simp only [maxLen]; omega)
      have hcl : (Lib.bytesCells w e ⟨d.c.str.toArray⟩).toList = d.c.str.map (fun b => Value.int .u8 b.toNat) ++ List.replicate (grownCap w d.c.str.length 0 e - d.c.str.length) (.int .u8 0) := by
        simp [Lib.bytesCells, bytes_size]
      have hsize : (Lib.bytesCells w e ⟨d.c.str.toArray⟩).toList.length = grownCap w d.c.str.length 0 e := by
        rw [hcl]; simp; omega
      have hblk : Blk (Lib.bytesWorld w e ⟨d.c.str.toArray⟩) w.heap.size (Lib.bytesCells w e ⟨d.c.str.toArray⟩).toList e :=
        ⟨_, hat, .inr (by simp)⟩
      have hchg : Chg w (Lib.bytesWorld w e ⟨d.c.str.toArray⟩) [] :=
        ⟨rfl, rfl, rfl, by rw [hsz]; omega, fun k hk _ => Lib.bytesWorld_at_old w e _ k hk⟩
      have hlen : (bytesRow d.c.str).length = d.c.str.length := by simp [bytesRow]
      have hown : OwnC T (Lib.bytesWorld w e ⟨d.c.str.toArray⟩) (.slice e) (.slice (some ⟨w.heap.size, 0, none⟩) (bytesRow d.c.str).length (grownCap w d.c.str.length 0 e)) (.l (bytesRow d.c.str)) [w.heap.size] := by
        refine own_flat (S := fun _ => False) (by rw [hlen]; exact hge) hle ?_ hblk (by rw [hsize, hct]; simp) ?_ (by rw [hct]; simp [CT.mem]) ?_
        · intro x hx
          simp only [bytesRow, List.mem_map] at hx
          obtain ⟨b, _, rfl⟩ := hx
          rw [hct]; rfl
        · intro u hu
          rw [hcl] at hu
          rcases List.mem_append.1 hu with hu | hu
          · obtain ⟨b, _, rfl⟩ := List.mem_map.1 hu; rfl
          · rw [List.eq_of_mem_replicate hu]; rfl
        · intro k hk
          rw [hct, hlen] at hk
          simp only [List.length_singleton, Nat.mul_one] at hk
          rw [hct, hcl]
          simp only [List.length_singleton, Nat.mod_one, Nat.div_one, List.getD_cons_zero]
          have e1 : (d.c.str.map (fun b => Value.int .u8 b.toNat) ++ List.replicate (grownCap w d.c.str.length 0 e - d.c.str.length) (Value.int .u8 0)).getD k undef = .int .u8 (d.c.str[k]).toNat := by
            rw [List.getD_eq_getElem?_getD, List.getElem?_append_left (by simpa using hk)]
            simp [List.getElem?_eq_getElem hk]
          have e2 : (bytesRow d.c.str).getD k [] = [.i (d.c.str[k]).toNat] := by
            simp [bytesRow, List.getD_eq_getElem?_getD, List.getElem?_eq_getElem hk]
          rw [e1, e2]
          exact .int _ _
      rw [hlen] at hown
      exact wp_ok (hex _ _ hrun) (hK _ _ (finish_own hF hchg ⟨Nat.le_refl _, by rw [hsz]; omega⟩ hp hd hown) (hchg.bel fun _ h => by cases h))
    · simp at hc1
  case slice.slice.str e e' =>
    obtain ⟨i0, hi⟩ := hT src (by rw [hks]; rfl)
    obtain ⟨j0, hj⟩ := hT dst (by rw [hkd]; rfl)
    have hu := hi.kind
    have hv := hj.kind
    rw [hks] at hu; rw [hkd] at hv
    rw [hk] at r1
    dsimp only at hc1
    split at hc1
    · rename_i hku
      split at hc1
      · rename_i hee
        subst hee
        obtain ⟨hue, hct⟩ := kind_u8 hT hku
        simp only [R.ev_pure, Option.some.injEq] at hc1
        subst hc1
        refine wp_ok (hex _ _ ?_) (hK _ _ (finish_flat hF hp hd (makes_str _).rel) (Bel.refl _ _))
        rcases rep_slice r1 with ⟨hs, hl⟩ | ⟨ad, cap, vs, hs, hcap, hvl, hcell, hx, hrep⟩
        · rw [hs, hl, run_convert_bytes_nil w src e hu.1 hue 0 0 dst hv.1]
          rfl
        · have hvs : vs = (d.c.list.map fun x => (nth x 0).int).map (Value.int .u8) := by
            rw [hct] at hvl hrep
            simp only [List.length_singleton, Nat.mul_one] at hvl hrep
            apply List.ext_getElem
            · simp [hvl]
            · intro k h1 h2
              have hkl : k < d.c.list.length := by omega
              have hk1 := hrep k hkl
              simp only [Nat.div_one, Nat.mod_one, List.getD_cons_zero] at hk1
              have := rep_int hk1
              simp only [List.getD_eq_getElem?_getD, List.getElem?_eq_getElem h1, List.getElem?_eq_getElem hkl, Option.getD_some] at this
              simp [this]
          have hld := run_loadCells_list (P := P) w ad vs (fun j v hj => (hcell j v hj).1)
          rw [hvs] at hld
          simp only [List.length_map] at hld
          rw [hs, run_convert_bytes_string w src dst e (some ad) d.c.list.length cap hu.1 hue hv.1, run_bytesToString w ad d.c.list.length cap _ hld, foldl_push_bytes, byteRow]
          simp [ByteArray.empty, ByteArray.emptyWithCapacity]
          rfl
      · simp at hc1
    · simp at hc1
def PlRel (T : Tab) (w : World) (S : Nat → Prop) (us : Nat → List Value) (blk : Nat → Nat) (u : Value) : Pl → Prop
  | .box h off => u = .pointer (some ⟨blk h, off, none⟩)
  | .el h off e i j => ∃ g len cap, (us h)[off]? = some (.slice (some ⟨g, 0, none⟩) len cap) ∧ 0 ≤ i ∧ i < (len : Int) ∧ u = .pointer (some ⟨g, i.toNat * (T e).cts.length + j, none⟩)
  | .shd e cs => RepC T w S (.ptr e) u (.p cs)

theorem place_sound (h : RelF T G base nt σ a w F fp us blk) {x : Operand} {pl : Pl} (he : (place x).ev D σ = some pl) : PlRel T w (Sh w fp F) us blk (a.eval x) pl := by
  unfold place at he
  split at he
  · rename_i t
    simp only [R.ev_bind, R.ev_slot, Option.bind_some] at he
    have hs := h.slot t
    split at he
    · rename_i e cs hsv
      rw [hsv] at hs
      simp only [R.ev_pure, Option.some.injEq] at he
      subst he
      exact hs.1
    · rename_i e o k hsv
      rw [hsv] at hs
      simp only [R.ev_pure, Option.some.injEq] at he
      subst he
      exact hs.1
    · rename_i h' off v hsv
      rw [hsv] at hs
      simp only [R.ev_bind, R.ev_slot, Option.bind_some] at he
      split at he
      · rename_i hv
        simp only [R.ev_pure, Option.some.injEq] at he
        subst he
        exact hs.2.2 hv
      · simp at he
    · rename_i h' off e i j v hsv
      rw [hsv] at hs
      simp only [R.ev_bind, R.ev_slot, Option.bind_some] at he
      split at he
      · rename_i hv
        simp only [R.ev_pure, Option.some.injEq] at he
        subst he
        exact hs.2.2 hv
      · simp at he
    · rename_i c hsv
      rw [hsv] at hs
      split at he
      · rename_i e hct
        split at he
        · rename_i hfl
          simp only [R.ev_pure, Option.some.injEq] at he
          subst he
          obtain ⟨hu, hc, _⟩ := hs
          obtain ⟨u1, hu1, hm⟩ := mkv_false_one (us := us t) (by rw [hc.length]; rfl)
          rw [hu1] at hc
          generalize fp t = ft at hc
          cases hc with
          | cons h1 h2 =>
            unfold CellRel at h1
            have hfl' : c.fl = .sh := by simpa using hfl
            rw [hfl', hct] at h1
            show RepC T w (Sh w fp F) (.ptr e) (a.eval (.tmp t)) (.p c.c.cells)
            rw [eval_tmp, hu, hm]
            have h1 := h1.1
            generalize c.c = cc at h1 ⊢
            cases h1 with
            | ptr e a cs us q1 q2 q3 => exact .ptr e a cs us q1 q2 q3
        · simp at he
      · simp at he
    · simp at he
  · simp at he

theorem PlRel.pointer {u : Value} {pl : Pl} (h : PlRel T w S us blk u pl) : ∃ ad, u = .pointer (some ad) := by
  cases pl with
  | box h' off => exact ⟨_, h⟩
  | el h' off e i j => obtain ⟨g, len, cap, _, _, _, h⟩ := h; exact ⟨_, h⟩
  | shd e cs =>
    have h : RepC T w S (.ptr e) u (.p cs) := h
    cases h
    exact ⟨_, rfl⟩

theorem ev_ite {α : Type} {c : Prop} [Decidable c] {m n : R α} : (if c then m else n).ev D σ = if c then m.ev D σ else n.ev D σ := by split <;> rfl
theorem TupRel.leave {S : Nat → Prop} {vs : List (Bool × List Cell)} {us : List Value} {fp : List Nat} (h : TupRel T w S vs us fp) : TupRel T w S (vs.map fun p => (p.1, p.2.map Cell.leave)) us [] := by
  induction h with
  | nil => exact .nil
  | cons h1 h2 _ ih =>
    have := TupRel.cons h1.leave (fun e => by rw [List.length_map]; exact h2 e) ih
    exact this
theorem tupOwn_ev {x : Operand} {t : Nat} {vs : List (Bool × List Cell)} {v : Ver} (h : (tupOwn x).ev D σ = some (some (t, vs, v))) : x = .tmp t ∧ (σ t).sv = .tup vs ∧ v = (σ t).v := by
  unfold tupOwn at h
  cases x <;> simp only [R.ev_pure, Option.some.injEq, reduceCtorEq] at h
  simp only [R.ev_bind, R.ev_slot, Option.bind_some] at h
  split at h
  · rename_i ws hsv
    rw [ev_ite] at h
    split at h
    · simp at h
    · simp only [R.ev_pure, Option.some.injEq, Prod.mk.injEq] at h
      obtain ⟨rfl, rfl, rfl⟩ := h
      exact ⟨rfl, hsv, rfl⟩
  · simp at h

theorem op_move {ws : Ws} {x : Operand} (ho : o.op = .move x) (h : Rel T G base nt σ a w) (hd : ∀ d, o.dst = some d → d < nt)
    (he : (opR T o).ev D σ = some ws) (hK : ∀ a' w', Rel T G base nt (σ.setAll ws) a' w' → Bel base w w' → K a' w') : o.wp P a w K Q := by
  unfold opR at he
  simp only [ho, R.ev_bind] at he
  obtain ⟨fp, us, blk, hF⟩ := h
  obtain ⟨q, h0, he⟩ := Option.bind_eq_some_iff.1 he
  have hrun : (execOp a.eval o).run P w = .ok (.value (a.eval x)) w := by simp [execOp, ho]
  split at he
  · rename_i t vs v
    obtain ⟨rfl, hsv, rfl⟩ := tupOwn_ev h0
    have hs := hF.slot t
    rw [hsv] at hs
    obtain ⟨uw, hu, htr⟩ := hs
    have hre := hF.re t (by rw [hsv]; exact SV.noConfusion) (.tup (vs.map fun p => (p.1, p.2.map Cell.leave))) ⟨(σ t).v.w, (σ t).v.c + 1⟩ (.inr ⟨rfl, by simp⟩) [] (us t) (fp t) .nil (hF.nodup t)
      (fun b hb => by
        rcases hb with hb | hb
        · cases hb
        · exact .inl hb) (fun b hb => by cases hb) (fun e => absurd e (hF.ngh (by rw [hsv]; rfl))) ⟨uw, hu, htr.leave⟩
    have hSh : ∀ b, Sh w fp [] b → Sh w (upd fp t []) (fp t) b := fun b hb =>
      ⟨hb.1, fun n hm => by
        by_cases e : n = t
        · subst e; rw [upd_at] at hm; cases hm
        · rw [upd_ne _ _ e] at hm; exact hb.2.1 n hm, hb.2.1 t⟩
    have h1 : RelF T G base nt (σ.setAll [(t, ⟨.tup (vs.map fun p => (p.1, p.2.map Cell.leave)), ⟨(σ t).v.w, (σ t).v.c + 1⟩⟩)]) a w (fp t) _ _ blk := hre
    rw [show a.eval (.tmp t) = .tuple uw.toArray from hu] at hrun
    exact wp_ok hrun (hK _ _ (finish_tup h1 he hd (htr.same (fun _ _ => rfl) hSh (fun _ _ _ h => h)) (hF.nodup t) (fun _ h => h)) (Bel.refl _ _))
  · rw [R.ev_bind] at he
    obtain ⟨sv, h1, h2⟩ := Option.bind_eq_some_iff.1 he
    exact wp_ok hrun (hK _ _ (finish_look hF h1 h2 hd) (Bel.refl _ _))

theorem op_nilCheck {ws : Ws} {x : Operand} (ho : o.op = .nilCheck x) (h : Rel T G base nt σ a w) (hd : ∀ d, o.dst = some d → d < nt)
    (he : (opR T o).ev D σ = some ws) (hK : ∀ a' w', Rel T G base nt (σ.setAll ws) a' w' → Bel base w w' → K a' w') : o.wp P a w K Q := by
  unfold opR at he
  simp only [ho, R.ev_bind] at he
  obtain ⟨fp, us, blk, hF⟩ := h
  obtain ⟨pl, h0, he⟩ := Option.bind_eq_some_iff.1 he
  obtain ⟨sv, h1, h2⟩ := Option.bind_eq_some_iff.1 he
  obtain ⟨ad, hu⟩ := (place_sound hF h0).pointer
  exact wp_ok (v := a.eval x) (w' := w) (by simp [execOp, ho, hu]) (hK _ _ (finish_look hF h1 h2 hd) (Bel.refl _ _))

theorem op_assign0 {ws : Ws} {x : Operand} (ho : o.op = .assign x) (h : Rel T G base nt σ a w) (hd : ∀ d, o.dst = some d → d < nt)
    (he : (do let (g, cs, ws) ← take x; put o.dst (.val g cs) ws : R Ws).ev D σ = some ws) (hK : ∀ a' w', Rel T G base nt (σ.setAll ws) a' w' → Bel base w w' → K a' w') : o.wp P a w K Q := by
  obtain ⟨fp, us, blk, hF⟩ := h
  simp only [R.ev_bind] at he
  obtain ⟨⟨g, cs, ws1⟩, h1, h2⟩ := Option.bind_eq_some_iff.1 he
  obtain ⟨vs, fpx, fp', hR, hv, hc, hg, hl, hn, _, _⟩ := take_sound hF h1
  have hr := finish_val hR h2 hd hc hn (fun b hb => List.mem_append_left _ hb) hl
  rw [← hv] at hr
  exact wp_ok (v := a.eval x) (w' := w) (by simp [execOp, ho]) (hK _ _ hr (Bel.refl _ _))

theorem op_pick {ws : Ws} {c x y : Operand} (ho : o.op = .pick c x y) (h : Rel T G base nt σ a w) (hd : ∀ d, o.dst = some d → d < nt)
    (he : (opR T o).ev D σ = some ws) (hK : ∀ a' w', Rel T G base nt (σ.setAll ws) a' w' → Bel base w w' → K a' w') : o.wp P a w K Q := by
  unfold opR at he
  simp only [ho, R.ev_bind] at he
  obtain ⟨fp, us, blk, hF⟩ := h
  obtain ⟨p, h1, he⟩ := Option.bind_eq_some_iff.1 he
  rw [R.ev_br] at he
  simp only [R.ev_bind] at he
  obtain ⟨d, h2, he⟩ := Option.bind_eq_some_iff.1 he
  have hb := peekBool_sound hF h1
  obtain ⟨fp', hc, hg, n, hn⟩ := peek1_sound hF h2
  split at he
  · rename_i hfree
    have hr := hc.ofFree hfree hg
    have hrel : CellRel T w (Sh w fp []) d.share (a.eval (if p then x else y)) [] := ⟨hr, rfl⟩
    refine wp_ok (v := a.eval (if p then x else y)) (w' := w) ?_ (hK _ _ (finish_flat hF he hd hrel) (Bel.refl _ _))
    cases p <;> simp [execOp, ho, hb, asBool]
  · simp at he


theorem getD_take_drop {α : Type} (l : List α) (o n k : Nat) (d : α) (hk : k < n) : ((l.drop o).take n).getD k d = l.getD (o + k) d := by
  simp [List.getD_eq_getElem?_getD, hk, List.getElem?_drop]

theorem op_fieldAddr {ws : Ws} {s : TypeId} {x : Operand} {f : Nat} (hT : TabOk P T) (ho : o.op = .fieldAddr s x f) (h : Rel T G base nt σ a w) (hd : ∀ d, o.dst = some d → d < nt)
    (he : (opR T o).ev D σ = some ws) (hK : ∀ a' w', Rel T G base nt (σ.setAll ws) a' w' → Bel base w w' → K a' w') : o.wp P a w K Q := by
  unfold opR at he
  simp only [ho, R.ev_bind] at he
  obtain ⟨fp, us, blk, hF⟩ := h
  obtain ⟨sv, h1, h2⟩ := Option.bind_eq_some_iff.1 he
  clear he
  unfold fieldAddr at h1
  split at h1
  · rename_i fs hkd
    obtain ⟨i0, hi⟩ := hT s (by rw [hkd]; rfl)
    have hki := hi.kind
    rw [hkd] at hki
    obtain ⟨fields, hun, hsz, hfo⟩ := hki
    split at h1
    · rename_i off0 e hf
      obtain ⟨fl, hf1, hf2, hf3, hf4, ie, hie, hies⟩ := hfo f off0 e hf
      split at h1
      · simp at h1
      · rename_i hne
        simp only [R.ev_bind] at h1
        obtain ⟨pl, h0, h3⟩ := Option.bind_eq_some_iff.1 h1
        clear h1
        rename _ => h1
        have hpl := place_sound hF h0
        have hrun : ∀ ad, a.eval x = .pointer (some ad) → (execOp a.eval o).run P w = .ok (.value (.pointer (some (ad.add off0)))) w := by
          intro ad had
          have hsn : ie.size ≠ 0 := by rw [hies]; intro hz; exact hne (List.eq_nil_of_length_eq_zero hz)
          simp [execOp, ho, Instr.fieldAt, run_underlying hun, hf1, had, Instr.sureAddr, fieldPlace, Go.sizeOf, typeInfo, hf3, hie, hsn, hf2]
        have h00 : RelF T G base nt (σ.setAll []) a w [] fp us blk := hF
        cases pl with
        | box h' off =>
          simp only [R.ev_bind, R.ev_slot, Option.bind_some, R.ev_pure, Option.some.injEq] at h1
          subst h1
          refine wp_ok (hrun _ hpl) (hK _ _ (finish_light h00 h2 hd rfl fun n => ⟨rfl, Nat.le_refl _, fun _ => ?_⟩) (Bel.refl _ _))
          rw [add_at]
        | el h' off e' i j =>
          simp only [R.ev_bind, R.ev_slot, Option.bind_some, R.ev_pure, Option.some.injEq] at h1
          subst h1
          obtain ⟨g, len, cap, q1, q2, q3, q4⟩ := hpl
          refine wp_ok (hrun _ q4) (hK _ _ (finish_light h00 h2 hd rfl fun n => ⟨rfl, .inr ⟨rfl, Nat.le_refl _⟩, fun _ => ⟨g, len, cap, q1, q2, q3, ?_⟩⟩) (Bel.refl _ _))
          rw [add_at, Nat.add_assoc]
        | shd e' cs =>
          dsimp only at h1
          split at h1
          · rename_i hes
            subst hes
            simp only [R.ev_pure, Option.some.injEq] at h1
            subst h1
            have hpl : RepC T w (Sh w fp []) (.ptr e') (a.eval x) (.p cs) := hpl
            generalize hu : a.eval x = u at hpl
            cases hpl with
            | ptr _ ad _ uu q1 q2 q3 =>
              refine wp_ok (hrun _ hu) (hK _ _ (finish_flat hF h2 hd ?_) (Bel.refl _ _))
              have hle : off0 + (T e).cts.length ≤ (T e').cts.length := by
                have := congrArg List.length hf4
                simp at this
                have hp : 0 < (T e).cts.length := List.length_pos_iff.2 hne
                omega
              refine ⟨.ptr e (ad.add off0) _ (fun k => uu (off0 + k)) (by simp) (fun k hk => ?_) (fun k hk => ?_), rfl⟩
              · rw [add_block, add_add]; exact q2 (off0 + k) (by omega)
              · have e1 : (T e).cts.getD k .bool = (T e').cts.getD (off0 + k) .bool := by rw [← hf4, getD_take_drop _ _ _ _ _ hk]
                have e2 : nth ((List.range (T e).cts.length).map fun k => nth cs (off0 + k)) k = nth cs (off0 + k) := by
                  simp [nth, List.getD_eq_getElem?_getD, List.getElem?_range hk]
                rw [e1, e2]
                exact q3 (off0 + k) (by omega)
          · simp at h1
    · simp at h1
  · simp at h1
end

end Go.Proofs.Ytabdjbkbfilhkaa.V
