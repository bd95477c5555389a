import Derived.Test.YtabdjbkbfilhkaaV7
namespace Go.Proofs.Ytabdjbkbfilhkaa.V
open Go Go.RowKit

section
variable {P : Program} {T : Tab} {G : Nat → Prop} {base : Bs} {nt : Nat} {σ : St} {a : Act} {w : World} {F : List Nat} {fp : Nat → List Nat} {us : Nat → List Value} {blk : Nat → Nat} {D : FuncId → List Arg → Option (Bool × Res)}
  {K : Act → World → Prop} {Q : Exit → Act → World → Prop} {o : Oper} {S : Nat → Prop}

theorem cellsRel_of : ∀ {cs : List Cell} {vs : List Value}, vs.length = cs.length → (∀ k (h : k < cs.length), CellRel T w S (cs[k]) (vs.getD k undef) []) → CellsRel T w S cs vs []
  | [], [], _, _ => .nil
  | c :: cs, v :: vs, hl, h => by
    have h0 := h 0 (by simp)
    have := CellsRel.cons (fp := []) (fp' := []) h0 (cellsRel_of (cs := cs) (vs := vs) (by simpa using hl) fun k hk => by
      have := h (k + 1) (by simpa using hk)
      simpa using this)
    simpa using this
  | [], _ :: _, hl, _ => by cases hl
  | _ :: _, [], hl, _ => by cases hl

theorem rep_norm {ct : CT} {u : Value} {c : TC} (h : RepC T w S ct u c) : RepC T w S ct u (normTC ct c) := by
  cases h with
  | int k n => exact .int k n
  | bool b => exact .bool b
  | str l => exact .str l
  | nils => exact .nils
  | nil e => exact .nil e
  | slice e a xs cap us h1 h2 h3 h4 => exact .slice e a xs cap us h1 h2 h3 h4
  | ptr e a cs us h1 h2 h3 => exact .ptr e a cs us h1 h2 h3
  | func fn caps vs h => exact .func fn caps vs h

theorem readCells_rel {cts : List CT} {cs : List TC} {off : Nat} {vs : List Value} (hl : vs.length = cts.length) (h : ∀ k, k < cts.length → RepC T w S (cts.getD k .bool) (vs.getD k undef) (nth cs (off + k))) :
    CellsRel T w S (readCells cts cs off) vs [] := by
  refine cellsRel_of (by simp [readCells, hl]) fun k hk => ?_
  have hk' : k < cts.length := by simpa [readCells] using hk
  have e : (readCells cts cs off)[k] = ⟨cts[k], .sh, normTC cts[k] (nth cs (off + k))⟩ := by simp [readCells]
  rw [e]
  have := h k hk'
  rw [List.getD_eq_getElem?_getD, List.getElem?_eq_getElem hk', Option.getD_some] at this
  exact ⟨rep_norm this, rfl⟩

theorem readCells_length (cts : List CT) (cs : List TC) (off : Nat) : (readCells cts cs off).length = cts.length := by simp [readCells]

theorem run_loadAt (hT : TabOk P T) {t : TypeId} (ho : (T t).kind.isOther = false) {ad : Addr} {vs : List Value} (hl : vs.length = (T t).cts.length) (hc : ∀ j v, vs[j]? = some v → w.cell? (ad.add j) = some v) :
    (Instr.loadAt t (.pointer (some ad))).run P w = .ok (mkv (T t).kind.agg vs) w := by
  cases hg : (T t).kind.agg with
  | true =>
    have hld := run_loadCells_list (P := P) w ad vs hc
    simp [Instr.loadAt, Instr.sureAddr, loadVar, isAgg_run hT ho w, hg, sizeOf_run hT ho w, ← hl, hld, mkv]
  | false =>
    have h1 := agg_cts hT ho hg
    obtain ⟨u, rfl, hm⟩ := mkv_false_one (hl.trans h1)
    have h0 := hc 0 u rfl
    have : ad.add 0 = ad := by simp [Addr.add]
    rw [this] at h0
    simp [Instr.loadAt, Instr.sureAddr, loadVar, isAgg_run hT ho w, hg, hm, Go.load]
    simp only [Sem.run, h0]

theorem own_header {c : Cell} {u : Value} {fp' : List Nat} {e : TypeId} (h : CellRel T w S c u fp') {d : Bool} (hf : c.fl = .own d) (hct : c.ct = .slice e) (hpos : 0 < c.c.list.length) :
    ∃ g cap cur, u = .slice (some ⟨g, 0, none⟩) c.c.list.length cap ∧ c.c.list.length ≤ cap ∧ cap ≤ maxLen ∧ Blk w g cur e ∧ cur.length = cap * (T e).cts.length ∧ (∀ u, u ∈ cur → u.oneCell' = true) ∧ g ∈ fp' ∧ (∀ x, x ∈ c.c.list → x.length = (T e).cts.length) ∧
      ∀ k, k < c.c.list.length * (T e).cts.length → (d = false ∨ ((T e).cts.getD (k % (T e).cts.length) .bool).mem = false) → RepC T w S ((T e).cts.getD (k % (T e).cts.length) .bool) (cur.getD k undef) (nth (c.c.list.getD (k / (T e).cts.length) []) (k % (T e).cts.length)) := by
  unfold CellRel at h
  rw [hf] at h
  cases d with
  | true =>
    have h : OwnC T w c.ct u c.c fp' := h
    rw [hct] at h
    generalize c.c = cc at h hpos ⊢
    cases h with
    | flat _ _ _ hm => simp [CT.mem] at hm
    | nil => simp [TC.list] at hpos
    | slice e g xs cap cur fps h1 h1m h2 hb hl ho hr =>
      refine ⟨g, cap, cur, rfl, h1, h1m, hb, hl, ho, List.mem_cons_self, h2, fun k hk hd => ?_⟩
      have hmem := hd.resolve_left (by simp)
      have := hr k hk
      exact (this.toRep (S := fun _ => True) fun _ _ => trivial).flat hmem
  | false =>
    have h : OwnT T w S c.ct u c.c fp' := h
    rw [hct] at h
    generalize c.c = cc at h hpos ⊢
    cases h with
    | flat _ _ _ hm => simp [CT.mem] at hm
    | nil => simp [TC.list] at hpos
    | slice e g xs cap cur h1 h1m h2 hb hl ho hr =>
      exact ⟨g, cap, cur, rfl, h1, h1m, hb, hl, ho, List.mem_cons_self, h2, fun k hk _ => hr k hk⟩

theorem run_indexAt_slice {st e : TypeId} {ad : Addr} {len cap : Nat} {k : IntKind} {i : Int} (hu : P.underlying st = some (.slice e)) {ie : TypeInfo} (hi : P.info? e = some ie) (h0 : 0 ≤ i) (h1 : i < (len : Int)) :
    (Instr.indexAt st (.slice (some ad) len cap) (.int k i)).run P w = .ok (.pointer (some (ad.add (i.toNat * ie.size)))) w := by
  simp [Instr.indexAt, asIntOf, run_underlying hu, h0, h1, Go.sizeOf, typeInfo, hi]

theorem idx_arith {i k n : Nat} (hk : k < n) : (i * n + k) % n = k ∧ (i * n + k) / n = i := by
  constructor
  · rw [Nat.mul_comm, Nat.mul_add_mod]; exact Nat.mod_eq_of_lt hk
  · rw [Nat.mul_comm, Nat.mul_add_div (by omega), Nat.div_eq_of_lt hk]; rfl

theorem op_indexAddr {ws : Ws} {st : TypeId} {x ix : Operand} (hT : TabOk P T) (ho : o.op = .indexAddr st x ix) (h : Rel T G base nt σ a w) (hd : ∀ d, o.dst = some d → d < nt)
    (he : (opR T o).ev D σ = some ws) (hK : ∀ a' w', Rel T G base nt (σ.setAll ws) a' w' → Bel base w w' → K a' w') : o.wp P a w K Q := by
  unfold opR at he
  simp only [ho, R.ev_bind] at he
  obtain ⟨fp, us, blk, hF⟩ := h
  obtain ⟨sv, h1, h2⟩ := Option.bind_eq_some_iff.1 he
  clear he
  unfold indexAddr at h1
  simp only [R.ev_bind] at h1
  obtain ⟨⟨ki, i⟩, h3, h4⟩ := Option.bind_eq_some_iff.1 h1
  clear h1
  have hix := peekInt_sound hF h3
  have h00 : RelF T G base nt (σ.setAll []) a w [] fp us blk := hF
  split at h4
  · rename_i e t hkd
    obtain ⟨i0, hi⟩ := hT st (by rw [hkd]; rfl)
    have hu := hi.kind
    rw [hkd] at hu
    replace hu := hu.1
    split at h4
    · simp at h4
    · rename_i hoe
      have hoe' : (T e).kind.isOther = false := by simpa using hoe
      obtain ⟨ie, hie⟩ := hT e hoe'
      simp only [R.ev_bind, R.ev_view, Option.bind_some] at h4
      have hs := hF.view t
      have hrun : ∀ ad len cap, a.eval (.tmp t) = .slice (some ad) len cap → 0 ≤ i → i < (len : Int) → (execOp a.eval o).run P w = .ok (.value (.pointer (some (ad.add (i.toNat * (T e).cts.length))))) w := by
        intro ad len cap hx q1 q2
        simp only [execOp, ho, Sem.run_bind, hx, hix, run_indexAt_slice hu hie.info q1 q2, Result.andThen_ok, Sem.run_pure, hie.size]
      split at h4
      · rename_i c hsv
        rw [hsv] at hs
        obtain ⟨hu1, hc1, _⟩ := hs
        obtain ⟨u1, hu2, hm⟩ := mkv_false_one (us := us t) (by rw [hc1.length]; rfl)
        have hev : a.eval (.tmp t) = u1 := by rw [eval_tmp, hu1, hm]
        rw [hu2] at hc1
        generalize hft : fp t = ft at hc1
        cases hc1 with
        | @cons _ _ _ _ f1 f2 q h2' =>
          split at h4
          · simp at h4
          · rename_i hct
            have hct : c.ct = .slice e := by simpa using hct
            split at h4
            · rename_i hfl
              simp only [R.ev_bind] at h4
              obtain ⟨_, hg, h5⟩ := Option.bind_eq_some_iff.1 h4
              rw [R.ev_guard] at hg
              simp only [R.ev_pure, Option.some.injEq] at h5
              subst h5
              unfold CellRel at q
              rw [hfl, hct] at q
              have q := q.1
              have hrow : ∃ ad cap, u1 = .slice (some ad) c.c.list.length cap ∧ RepC T w (Sh w fp []) (.ptr e) (.pointer (some (ad.add (i.toNat * (T e).cts.length)))) (.p (row c.c.list i)) := by
                generalize c.c = cc at q hg ⊢
                cases q with
                | nil => simp [TC.list] at hg; omega
                | slice _ ad xs cap uu p1 p2 p3 p4 =>
                  refine ⟨ad, cap, rfl, ?_⟩
                  simp only [TC.list] at hg ⊢
                  have hlt : i.toNat < xs.length := by omega
                  have hrow : row xs i = xs[i.toNat] := by simp [row, List.getD_eq_getElem?_getD, List.getElem?_eq_getElem hlt]
                  have hb : ∀ k, k < (T e).cts.length → i.toNat * (T e).cts.length + k < xs.length * (T e).cts.length := fun k hk => by
                    have := Nat.mul_le_mul_right (T e).cts.length (show i.toNat + 1 ≤ xs.length by omega)
                    rw [Nat.add_mul, Nat.one_mul] at this
                    omega
                  rw [hrow]
                  refine .ptr e _ _ (fun k => uu (i.toNat * (T e).cts.length + k)) (p2 _ (List.getElem_mem _)) (fun k hk => ?_) (fun k hk => ?_)
                  · rw [add_block, add_add]; exact p3 _ (hb k hk)
                  · have := p4 _ (hb k hk)
                    obtain ⟨e1, e2⟩ := idx_arith (i := i.toNat) hk
                    rw [e1, e2] at this
                    simpa [List.getD_eq_getElem?_getD, List.getElem?_eq_getElem hlt] using this
              obtain ⟨ad, cap, hu3, hrp⟩ := hrow
              exact wp_ok (hrun ad _ cap (hev.trans hu3) hg.1 hg.2) (hK _ _ (finish_flat hF h2 hd ⟨hrp, rfl⟩) (Bel.refl _ _))
            · rename_i dd hfl
              simp only [R.ev_bind] at h4
              obtain ⟨_, hg, h5⟩ := Option.bind_eq_some_iff.1 h4
              rw [R.ev_guard] at hg
              simp only [R.ev_pure, Option.some.injEq, viewSlot_v] at h5
              subst h5
              obtain ⟨g, cap, cur, hh, _⟩ := own_header q hfl hct (by omega)
              refine wp_ok (hrun _ _ cap (hev.trans hh) hg.1 hg.2) (hK _ _ (finish_light h00 h2 hd rfl fun n => ⟨rfl, .inr ⟨rfl, Nat.le_refl _⟩, fun _ => ⟨g, _, cap, ?_, hg.1, hg.2, ?_⟩⟩) (Bel.refl _ _))
              · rw [hu2, hh]; rfl
              · rw [add_zero_block, Nat.add_zero]
            · simp at h4
      · rename_i h' off v hsv
        rw [hsv] at hs
        obtain ⟨_, hvl, _, hal⟩ := hs
        simp only [R.ev_bind] at h4
        obtain ⟨cs, h5, h6⟩ := Option.bind_eq_some_iff.1 h4
        obtain ⟨hv, all, hall, hcs, hcl⟩ := homeCells_ev h5
        obtain ⟨fph, hch, hfph⟩ := hF.home hall
        obtain ⟨f1, f2, f3, hf, _, hc2, _⟩ := hch.sub off 1
        rw [← hcs] at hc2
        split at h6
        · rename_i c
          split at h6
          · simp at h6
          · rename_i hct
            have hct : c.ct = .slice e := by simpa using hct
            split at h6
            · rename_i dd hfl
              simp only [R.ev_bind] at h6
              obtain ⟨_, hg, h7⟩ := Option.bind_eq_some_iff.1 h6
              rw [R.ev_guard] at hg
              simp only [R.ev_pure, Option.some.injEq] at h7
              subst h7
              obtain ⟨u1, hu2, hm⟩ := mkv_false_one (us := ((us h').drop off).take 1) (by rw [hc2.length]; rfl)
              have hev : a.eval (.tmp t) = u1 := by rw [eval_tmp, hal hv, hm]
              rw [hu2] at hc2
              cases hc2 with
              | cons q h2' =>
                obtain ⟨g, cap, cur, hh, _⟩ := own_header q hfl hct (by omega)
                have hat : (us h')[off]? = some u1 := by
                  have := congrArg (·[0]?) hu2
                  simpa [List.getElem?_take, List.getElem?_drop] using this
                refine wp_ok (hrun _ _ cap (hev.trans hh) hg.1 hg.2) (hK _ _ (finish_light h00 h2 hd rfl fun n => ⟨rfl, .inr ⟨by show v.w = (σ h').v.w; rw [hv], by show v.c ≤ (σ h').v.c; rw [hv]; exact Nat.le_refl _⟩, fun _ => ⟨g, _, cap, ?_, hg.1, hg.2, ?_⟩⟩) (Bel.refl _ _))
                · rw [hat, hh]
                · rw [add_zero_block, Nat.add_zero]
            · simp at h6
        · simp at h6
      · simp at h4
  · simp at h4
theorem boxAt_ev {h : Nat} {e : TypeId} {cs : List Cell} {v : Ver} (he : (boxAt h).ev D σ = some (e, cs, v)) : (σ h).sv = .bx e cs ∧ v = (σ h).v := by
  unfold boxAt at he
  simp only [R.ev_bind, R.ev_slot, Option.bind_some] at he
  split at he
  · rename_i e' cs' hsv
    simp only [R.ev_pure, Option.some.injEq, Prod.mk.injEq] at he
    obtain ⟨rfl, rfl, rfl⟩ := he
    exact ⟨hsv, rfl⟩
  · simp at he

theorem homeAt_ev {h : Nat} {cs : List Cell} {mk : List Cell → Slot} (he : (homeAt h).ev D σ = some (cs, mk)) :
    (∃ e, (σ h).sv = .bx e cs ∧ mk = fun ds => ⟨.bx e ds, (σ h).v⟩) ∨ (∃ g, (σ h).sv = .val g cs ∧ mk = fun ds => ⟨.val g ds, (σ h).v⟩) ∨ ((σ h).sv = .gv cs ∧ mk = fun ds => ⟨.gv ds, (σ h).v⟩) := by
  unfold homeAt at he
  simp only [R.ev_bind, R.ev_slot, Option.bind_some] at he
  split at he
  · rename_i e' cs' hsv
    simp only [R.ev_pure, Option.some.injEq, Prod.mk.injEq] at he
    obtain ⟨rfl, rfl⟩ := he
    exact .inl ⟨e', hsv, rfl⟩
  · rename_i g' cs' hsv
    simp only [R.ev_pure, Option.some.injEq, Prod.mk.injEq] at he
    obtain ⟨rfl, rfl⟩ := he
    exact .inr (.inl ⟨g', hsv, rfl⟩)
  · rename_i cs' hsv
    simp only [R.ev_pure, Option.some.injEq, Prod.mk.injEq] at he
    obtain ⟨rfl, rfl⟩ := he
    exact .inr (.inr ⟨hsv, rfl⟩)
  · simp at he

theorem ctsOf_length (cs : List Cell) : (ctsOf cs).length = cs.length := by simp [ctsOf]

theorem cell_at {cs : List Cell} {vs : List Value} {fq : List Nat} (h : CellsRel T w S cs vs fq) {off : Nat} {c : Cell} (hc : cs[off]? = some c) :
    ∃ u fc, vs[off]? = some u ∧ CellRel T w S c u fc ∧ ∀ b, b ∈ fc → b ∈ fq := by
  induction h generalizing off with
  | nil => simp at hc
  | @cons c' cs u us f1 f2 h1 h2 ih =>
    cases off with
    | zero =>
      simp only [List.getElem?_cons_zero, Option.some.injEq] at hc
      subst hc
      exact ⟨u, f1, rfl, h1, fun b hb => List.mem_append_left _ hb⟩
    | succ off =>
      simp only [List.getElem?_cons_succ] at hc
      obtain ⟨u', fc, q1, q2, q3⟩ := ih hc
      exact ⟨u', fc, q1, q2, fun b hb => List.mem_append_right _ (q3 b hb)⟩

theorem op_load {ws : Ws} {t : TypeId} {x : Operand} (hT : TabOk P T) (ho : o.op = .load t x) (h : Rel T G base nt σ a w) (hd : ∀ d, o.dst = some d → d < nt)
    (he : (opR T o).ev D σ = some ws) (hK : ∀ a' w', Rel T G base nt (σ.setAll ws) a' w' → Bel base w w' → K a' w') : o.wp P a w K Q := by
  unfold opR at he
  simp only [ho, R.ev_bind] at he
  obtain ⟨fp, us, blk, hF⟩ := h
  obtain ⟨sv, h1, h2⟩ := Option.bind_eq_some_iff.1 he
  clear he
  have h00 : RelF T G base nt (σ.setAll []) a w [] fp us blk := hF
  unfold load at h1
  dsimp only at h1
  split at h1
  · simp at h1
  · rename_i hko
    have hko' : (T t).kind.isOther = false := by simpa using hko
    have hagg := agg_cts hT hko'
    simp only [R.ev_bind] at h1
    obtain ⟨pl, h3, h4⟩ := Option.bind_eq_some_iff.1 h1
    clear h1
    have hpl := place_sound hF h3
    have hrun : ∀ ad vs, a.eval x = .pointer (some ad) → vs.length = (T t).cts.length → (∀ j v, vs[j]? = some v → w.cell? (ad.add j) = some v) → (execOp a.eval o).run P w = .ok (.value (mkv (T t).kind.agg vs)) w := by
      intro ad vs hx hl hc
      simp only [execOp, ho, Sem.run_bind, hx, run_loadAt hT hko' hl hc, Result.andThen_ok, Sem.run_pure]
    cases pl with
    | box hh off =>
      have hpl : a.eval x = .pointer (some ⟨blk hh, off, none⟩) := hpl
      simp only [R.ev_bind, R.ev_slot, Option.bind_some] at h4
      split at h4
      · rename_i e o k hsv
        have hs := hF.slot hh
        rw [hsv] at hs
        obtain ⟨_, hb, _⟩ := hs
        simp only [R.ev_bind, R.ev_slot, Option.bind_some] at h4
        split at h4
        · rename_i cs hsg
          have hcr := hF.slot gh
          rw [hsg] at hcr
          have hcr : CellsRel T w (Sh w fp []) cs (us gh) (fp gh) := hcr
          obtain ⟨f1, f2, f3, hf, _, hc2, _⟩ := hcr.sub (o + off) (T t).cts.length
          skip
          split at h4
          · simp at h4
          · rename_i hct
            have hct : ctsOf ((cs.drop (o + off)).take (T t).cts.length) = (T t).cts := by simpa using hct
            have hlen : ((cs.drop (o + off)).take (T t).cts.length).length = (T t).cts.length := by rw [← ctsOf_length, hct]
            split at h4
            · simp at h4
            · rename_i hk
              have hcell : ∀ j v, (((us gh).drop (o + off)).take (T t).cts.length)[j]? = some v → w.cell? ((⟨blk hh, off, none⟩ : Addr).add j) = some v := by
                intro j v hj
                rw [add_at, hb.cell]
                rw [List.getElem?_take] at hj
                split at hj
                · rename_i hjl
                  rw [List.getElem?_drop] at hj
                  rw [List.getElem?_take, if_pos (by omega), List.getElem?_drop, ← Nat.add_assoc]
                  exact hj
                · cases hj
              have hr := hrun _ _ hpl (by rw [hc2.length, hlen]) hcell
              split at h4
              · simp at h4
              · rename_i hg
                split at h4
                · rename_i hfree
                  simp only [R.ev_pure, Option.some.injEq] at h4
                  subst h4
                  exact wp_ok hr (hK _ _ (finish_val h00 h2 hd (hc2.shared hfree (by simpa using hg)) .nil (fun _ h => by cases h) (fun e => by rw [List.length_map, hlen]; exact hagg e)) (Bel.refl _ _))
                · simp only [R.ev_pure, Option.some.injEq] at h4
                  subst h4
                  exact wp_ok hr (hK _ _ (finish_light h00 h2 hd rfl fun n => ⟨rfl, hagg, rfl⟩) (Bel.refl _ _))
        · simp at h4
      simp only [R.ev_bind] at h4
      obtain ⟨⟨e, cs, v⟩, h5, h6⟩ := Option.bind_eq_some_iff.1 h4
      clear h4
      obtain ⟨hsv, rfl⟩ := boxAt_ev h5
      have hs := hF.slot hh
      rw [hsv] at hs
      obtain ⟨hp, hb, ⟨fq, hfq, hcr⟩, hty⟩ := hs
      obtain ⟨f1, f2, f3, hf, _, hc2, _⟩ := hcr.sub off (T t).cts.length
      dsimp only at h6
      split at h6
      · simp at h6
      · rename_i hct
        have hct : ctsOf ((cs.drop off).take (T t).cts.length) = (T t).cts := by simpa using hct
        have hlen : ((cs.drop off).take (T t).cts.length).length = (T t).cts.length := by rw [← ctsOf_length, hct]
        have hcell : ∀ j v, (((us hh).drop off).take (T t).cts.length)[j]? = some v → w.cell? ((⟨blk hh, off, none⟩ : Addr).add j) = some v := by
          intro j v hj
          rw [add_at, hb.cell]
          rw [List.getElem?_take] at hj
          split at hj
          · rwa [List.getElem?_drop] at hj
          · cases hj
        have hr := hrun _ _ hpl (by rw [hc2.length, hlen]) hcell
        split at h6
        · simp at h6
        · rename_i hg
          split at h6
          · rename_i hfree
            simp only [R.ev_pure, Option.some.injEq] at h6
            subst h6
            exact wp_ok hr (hK _ _ (finish_val h00 h2 hd (hc2.shared hfree (by simpa using hg)) .nil (fun _ h => by cases h) (fun e => by rw [List.length_map, hlen]; exact hagg e)) (Bel.refl _ _))
          · simp only [R.ev_pure, Option.some.injEq] at h6
            subst h6
            exact wp_ok hr (hK _ _ (finish_light h00 h2 hd rfl fun n => ⟨rfl, .inr ⟨rfl, Nat.le_refl _⟩, hagg, fun _ => rfl⟩) (Bel.refl _ _))
    | el hh off e i j =>
      obtain ⟨g, len, cap, q1, q2, q3, q4⟩ := hpl
      simp only [R.ev_bind] at h4
      obtain ⟨⟨cs, mk⟩, h5, h6⟩ := Option.bind_eq_some_iff.1 h4
      clear h4
      obtain ⟨c, h7, h8⟩ := Option.bind_eq_some_iff.1 h6
      clear h6
      have hcs : (σ hh).sv.home = some cs := by
        rcases homeAt_ev h5 with ⟨e, hsv, _⟩ | ⟨g, hsv, _⟩ | ⟨hsv, _⟩ <;> rw [hsv] <;> rfl
      obtain ⟨fq, hcr, _⟩ := hF.home hcs
      have hcc : cs[off]? = some c := by simpa [cellOf] using h7
      obtain ⟨u, fc, hu, hrel, _⟩ := cell_at hcr hcc
      split at h8
      · rename_i deep hfl
        split at h8
        · simp at h8
        · rename_i hct
          have hct : c.ct = .slice e := by simpa using hct
          split at h8
          · simp at h8
          · rename_i hcts
            have hcts : ((T e).cts.drop j).take (T t).cts.length = (T t).cts := by simpa using hcts
            split at h8
            · simp at h8
            · rename_i hmem
              simp only [R.ev_pure, Option.some.injEq] at h8
              subst h8
              rw [q1] at hu
              obtain rfl := Option.some.inj hu
              have hpos : 0 < c.c.list.length := by
                by_cases hz : 0 < c.c.list.length
                · exact hz
                · exfalso
                  have hl0 : c.c.list = [] := List.eq_nil_of_length_eq_zero (by omega)
                  unfold CellRel at hrel
                  rw [hfl] at hrel
                  cases deep with
                  | true =>
                    have hrel : OwnC T w c.ct _ c.c fc := hrel
                    rw [hct] at hrel
                    generalize c.c = cc at hrel hl0
                    cases hrel with
                    | flat _ _ _ hm => simp [CT.mem] at hm
                    | slice => simp [TC.list] at hl0; subst hl0; simp at q3; omega
                  | false =>
                    have hrel : OwnT T w _ c.ct _ c.c fc := hrel
                    rw [hct] at hrel
                    generalize c.c = cc at hrel hl0
                    cases hrel with
                    | flat _ _ _ hm => simp [CT.mem] at hm
                    | slice => simp [TC.list] at hl0; subst hl0; simp at q3; omega
              obtain ⟨g', cap', cur, hh1, hle, hlem, hblk, hcl, h1c, _, hxl, hrr⟩ := own_header hrel hfl hct hpos
              simp only [Value.slice.injEq, Option.some.injEq, Addr.mk.injEq] at hh1
              obtain ⟨⟨rfl, _⟩, rfl, rfl⟩ := hh1
              have hlt : i.toNat < c.c.list.length := by omega
              have hjl : j + (T t).cts.length ≤ (T e).cts.length ∨ (T t).cts.length = 0 := by
                have := congrArg List.length hcts
                simp at this
                omega
              have hb : ∀ k, k < (T t).cts.length → j + k < (T e).cts.length ∧ i.toNat * (T e).cts.length + j + k < c.c.list.length * (T e).cts.length := fun k hk => by
                have h1 : j + k < (T e).cts.length := by omega
                have := Nat.mul_le_mul_right (T e).cts.length (show i.toNat + 1 ≤ c.c.list.length by omega)
                rw [Nat.add_mul, Nat.one_mul] at this
                exact ⟨h1, by omega⟩
              have hcurl : c.c.list.length * (T e).cts.length ≤ cur.length := by rw [hcl]; exact Nat.mul_le_mul_right _ hle
              have hr := hrun ⟨g, i.toNat * (T e).cts.length + j, none⟩ ((List.range (T t).cts.length).map fun k => cur.getD (i.toNat * (T e).cts.length + j + k) undef) q4 (by simp) (by
                intro k v hk
                simp only [List.getElem?_map, Option.map_eq_some_iff] at hk
                obtain ⟨k', hk', rfl⟩ := hk
                obtain ⟨hkl, rfl⟩ := List.getElem?_eq_some_iff.1 hk'
                simp only [List.length_range] at hkl
                simp only [List.getElem_range]
                rw [add_at, hblk.cell]
                have := (hb k hkl).2
                rw [List.getD_eq_getElem?_getD, List.getElem?_eq_getElem (show i.toNat * (T e).cts.length + j + k < cur.length by omega)]
                rfl)
              refine wp_ok hr (hK _ _ (finish_val h00 h2 hd (readCells_rel (by simp) fun k hk => ?_) .nil (fun _ h => by cases h) (fun e => by rw [readCells_length]; exact hagg e)) (Bel.refl _ _))
              obtain ⟨b1, b2⟩ := hb k hk
              have hmk : deep = false ∨ ((T e).cts.getD ((i.toNat * (T e).cts.length + (j + k)) % (T e).cts.length) .bool).mem = false := by
                cases deep with
                | false => exact .inl rfl
                | true =>
                  right
                  obtain ⟨e1, _⟩ := idx_arith (i := i.toNat) b1
                  rw [e1]
                  have hnm : anyMem (T t).cts = false := by simpa using hmem
                  have hkc : (T t).cts.getD k .bool = (T e).cts.getD (j + k) .bool := by rw [← hcts, getD_take_drop _ _ _ _ _ hk]
                  rw [← hkc]
                  unfold anyMem at hnm
                  rw [List.any_eq_false] at hnm
                  rw [List.getD_eq_getElem?_getD, List.getElem?_eq_getElem hk]
                  simpa using hnm _ (List.getElem_mem hk)
              have := hrr (i.toNat * (T e).cts.length + (j + k)) (by omega) hmk
              obtain ⟨e1, e2⟩ := idx_arith (i := i.toNat) b1
              rw [e1, e2] at this
              have hkc : (T t).cts.getD k .bool = (T e).cts.getD (j + k) .bool := by rw [← hcts, getD_take_drop _ _ _ _ _ hk]
              rw [hkc]
              have e3 : ((List.range (T t).cts.length).map fun k => cur.getD (i.toNat * (T e).cts.length + j + k) undef).getD k undef = cur.getD (i.toNat * (T e).cts.length + (j + k)) undef := by
                rw [List.getD_eq_getElem?_getD, List.getElem?_map, List.getElem?_range hk, ← Nat.add_assoc]; rfl
              rw [e3]
              exact this
      · simp at h8
    | shd e cs =>
      have hpl : RepC T w (Sh w fp []) (.ptr e) (a.eval x) (.p cs) := hpl
      dsimp only at h4
      split at h4
      · simp at h4
      · rename_i hct
        have hct : (T e).cts = (T t).cts := by simpa using hct
        simp only [R.ev_pure, Option.some.injEq] at h4
        subst h4
        generalize hu : a.eval x = u at hpl
        cases hpl with
        | ptr _ ad _ uu q1 q2 q3 =>
          rw [hct] at q1 q2 q3
          have hr := hrun ad ((List.range (T t).cts.length).map uu) hu (by simp) (by
            intro k v hk
            simp only [List.getElem?_map, Option.map_eq_some_iff] at hk
            obtain ⟨k', hk', rfl⟩ := hk
            obtain ⟨hkl, rfl⟩ := List.getElem?_eq_some_iff.1 hk'
            simp only [List.length_range] at hkl
            simp only [List.getElem_range]
            exact (q2 k hkl).2)
          refine wp_ok hr (hK _ _ (finish_val h00 h2 hd (readCells_rel (by simp) fun k hk => ?_) .nil (fun _ h => by cases h) (fun e => by rw [readCells_length]; exact hagg e)) (Bel.refl _ _))
          have e3 : ((List.range (T t).cts.length).map uu).getD k undef = uu k := by
            rw [List.getD_eq_getElem?_getD, List.getElem?_map, List.getElem?_range hk]; rfl
          rw [e3, Nat.zero_add]
          exact q3 k hk
end

end Go.Proofs.Ytabdjbkbfilhkaa.V
