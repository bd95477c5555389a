import Derived.Test.YtabdjbkbfilhkaaV9
import Derived.Great.BuildSlice
import Derived.Laws.OwnMore
namespace Go.Proofs.Ytabdjbkbfilhkaa.V
open Go Go.RowKit

section
variable {P : Program} {T : Tab} {G : Nat → Prop} {base : Bs} {nt : Nat} {σ : St} {a : Act} {w w' : World} {F : List Nat} {fp : Nat → List Nat} {us : Nat → List Value} {blk : Nat → Nat} {D : FuncId → List Arg → Option (Bool × Res)}
  {K : Act → World → Prop} {Q : Exit → Act → World → Prop} {o : Oper} {S S' : Nat → Prop}

theorem Blk.alloc (w : World) (cur : List Value) (e : TypeId) : Blk (w.alloc (.cells cur.toArray e)) w.heap.size cur e :=
  ⟨(0, 0), heap_alloc_new w _, .inl rfl⟩
theorem size_alloc (w : World) (o : Obj) : (w.alloc o).heap.size = w.heap.size + 1 := by simp

theorem finish_newbox {ws ws' : Ws} {dst : Option Tmp} {t : TypeId} {cs : List Cell} {vs : List Value} {fpx : List Nat} (h : RelF T G base nt (σ.setAll ws) a w F fp us blk) (hp : (put dst (.bx t cs) ws).ev D σ = some ws') (hd : ∀ d, dst = some d → d < nt)
    (hc : CellsRel T w (Sh w fp F) cs vs fpx) (hx : ∀ b, b ∈ fpx → b ∈ F) (hn : fpx.Nodup) (ht : ctsOf cs = (T t).cts) :
    Rel T G base nt (σ.setAll ws') (a.put dst (.pointer (some ⟨w.heap.size, 0, none⟩))) (w.alloc (.cells vs.toArray t)) := by
  have hch := Chg.alloc w (.cells vs.toArray t) []
  have h2 := h.chg hch (fun _ h => by cases h) [w.heap.size] (fun b hb => by rw [List.mem_singleton.1 hb, size_alloc]; omega) (by simp)
  have hc2 := hc.chg (S' := Sh (w.alloc (.cells vs.toArray t)) fp (F ++ [w.heap.size])) hch (fun _ _ h => by cases h) (fun _ _ h => by cases h) (fun b hb => by
    refine ⟨by rw [size_alloc]; have := hb.1; omega, hb.2.1, fun hm => ?_⟩
    rcases List.mem_append.1 hm with hm | hm
    · exact hb.2.2 hm
    · have := hb.1; rw [List.mem_singleton.1 hm] at this; omega)
  refine finish_bx h2 hp hd (Blk.alloc w vs t) hc2 (List.nodup_cons.2 ⟨fun hm => ?_, hn⟩) (fun b hb => ?_) ht
  · have := h.ltF _ (hx _ hm); omega
  · rcases List.mem_cons.1 hb with rfl | hb
    · simp
    · exact List.mem_append_left _ (hx b hb)

theorem zeroCells_rel : ∀ {cts : List CT} {zs : List Cell}, zeroCells cts = some zs → CellsRel T w S zs (cts.map zeroV) [] ∧ ctsOf zs = cts ∧ zs.all Cell.deep = true ∧ zs.any Cell.isGone = false
  | [], zs, h => by
    simp only [zeroCells, List.mapM_nil] at h
    cases h
    exact ⟨.nil, rfl, rfl, rfl⟩
  | ct :: cts, zs, h => by
    simp only [zeroCells, List.mapM_cons] at h
    obtain ⟨z, hz, h⟩ := Option.bind_eq_some_iff.1 h
    obtain ⟨zs', hzs, h⟩ := Option.bind_eq_some_iff.1 h
    cases h
    obtain ⟨h1, h2, h3, h4⟩ := zeroCells_rel (cts := cts) (zs := zs') hzs
    unfold zeroCell at hz
    obtain ⟨c, hc, rfl⟩ := Option.map_eq_some_iff.1 hz
    have hr : CellRel T w S ⟨ct, .own true, c⟩ (zeroV ct) [] := by
      cases ct <;> simp only [zeroTC, Option.some.injEq, reduceCtorEq] at hc <;> subst hc
      · exact OwnC.flat _ _ _ rfl (.int _ _)
      · exact OwnC.flat _ _ _ rfl (.bool _)
      · exact OwnC.flat _ _ _ rfl (.str [])
      · exact OwnC.nil _
      · exact OwnC.nils
    refine ⟨.cons hr h1, by simp only [ctsOf, List.map_cons] at h2 ⊢; rw [h2], ?_, ?_⟩
    · simp only [List.all_cons, h3, Bool.and_true]
      unfold Cell.deep; simp
    · simp only [List.any_cons, h4, Bool.or_false]
      simp [Cell.isGone]

theorem CellRel.shared {z : Cell} {u : Value} (h : CellRel T w S z u []) (hg : z.isGone = false) : CellRel T w S z.share u [] := by
  obtain ⟨ct, fl, c⟩ := z
  cases fl with
  | sh => exact h
  | gone => cases hg
  | own d => cases d with
    | true => exact ⟨OwnC.toRep (show OwnC T w ct u c [] from h) (fun _ h => by cases h), rfl⟩
    | false => exact ⟨OwnT.toRep (show OwnT T w S ct u c [] from h) (fun _ h => by cases h) (fun _ h => h), rfl⟩
theorem shz1_rel : ∀ {zs : List Cell} {us : List Value} {f : List Nat}, CellsRel T w S zs us f → f = [] → zs.any Cell.isGone = false → CellsRel T w S (zs.map shz1) us [] ∧ ctsOf (zs.map shz1) = ctsOf zs ∧ (zs.map shz1).any Cell.isGone = false
  | [], us, f, h, hf, _ => ⟨hf ▸ h, rfl, rfl⟩
  | z :: zs, us, f, h, hf, hg => by
    cases h with
    | @cons _ _ u us f1 f2 h1 h2 =>
      obtain ⟨rfl, rfl⟩ := List.append_eq_nil_iff.1 hf
      simp only [List.any_cons, Bool.or_eq_false_iff] at hg
      obtain ⟨k1, k2, k3⟩ := shz1_rel h2 rfl hg.2
      have hz : CellRel T w S (shz1 z) u [] ∧ (shz1 z).ct = z.ct ∧ (shz1 z).isGone = false := by
        exact ⟨h1.shared hg.1, rfl, rfl⟩
      exact ⟨.cons hz.1 k1, by simp only [ctsOf, List.map_cons] at k2 ⊢; rw [k2, hz.2.1], by simp only [List.map_cons, List.any_cons, k3, hz.2.2, Bool.or_false]⟩
theorem zerosOf_rel {t : TypeId} {zs : List Cell} (h : zerosOf T t = some zs) : ∃ z0, zeroCells (T t).cts = some z0 ∧ CellsRel T w S zs ((T t).cts.map zeroV) [] ∧ ctsOf zs = (T t).cts ∧ zs.any Cell.isGone = false := by
  obtain ⟨z0, h0, rfl⟩ := Option.map_eq_some_iff.1 h
  obtain ⟨h1, h2, _, h4⟩ := zeroCells_rel (T := T) (w := w) (S := S) h0
  refine ⟨z0, h0, ?_⟩
  unfold shz
  split
  · obtain ⟨k1, k2, k3⟩ := shz1_rel h1 rfl h4
    exact ⟨k1, k2.trans h2, k3⟩
  · exact ⟨h1, h2, h4⟩
def BldTy (P : Program) (T : Tab) : Prop := ∀ t e, (T t).kind = .bld e → (∃ i, P.info? t = some i ∧ i.zero = some (.agg #[.pointer none, .slice none 0 0])) ∧ (T e).cts = [.int .u8]

theorem op_alloc {ws : Ws} {t : TypeId} (hT : TabOk P T) (hM : BldTy P T) (ho : o.op = .alloc t) (h : Rel T G base nt σ a w) (hd : ∀ d, o.dst = some d → d < nt)
    (he : (opR T o).ev D σ = some ws) (hK : ∀ a' w', Rel T G base nt (σ.setAll ws) a' w' → Bel base w w' → K a' w') : o.wp P a w K Q := by
  unfold opR at he
  simp only [ho] at he
  obtain ⟨fp, us, blk, hF⟩ := h
  split at he
  · rename_i e hk
    obtain ⟨⟨i, hi, hz⟩, _⟩ := hM t e hk
    have hch := Chg.alloc w (.cells [Value.pointer none, .slice none 0 0].toArray t) []
    have h2 := hF.chg hch (fun _ h => by cases h) [w.heap.size] (fun b hb => by rw [List.mem_singleton.1 hb, size_alloc]; omega) (by simp)
    have hfin : Rel T G base nt (σ.setAll ws) (a.put o.dst (.pointer (some ⟨w.heap.size, 0, none⟩))) (w.alloc (.cells [Value.pointer none, .slice none 0 0].toArray t)) := by
      rcases put_ev he with ⟨hd0, rfl⟩ | ⟨d, hd0, hne, rfl⟩
      · rw [hd0]; exact h2.toRel
      · rw [hd0]
        exact (h2.put (hd d hd0) (.pointer (some ⟨w.heap.size, 0, none⟩)) (.bld t e []) ⟨(σ d).v.w + 1, (σ d).v.c⟩ (by simp) [w.heap.size] (us d) w.heap.size (by simp) (fun b hb => by simpa using hb)
          ⟨by rw [upd_at], hk, _, _, [], by rw [upd_at]; exact Blk.alloc w _ t, .inl rfl, by rw [upd_at], .nil e⟩).toRel
    refine wp_ok ?_ (hK _ _ hfin (hch.bel fun _ h => by cases h))
    simp [execOp, ho, Instr.alloc, zeroValue, typeInfo, hi, hz, newVar, newRow, Value.cells]
  split at he
  · simp at he
  · rename_i hko
    have hko' : (T t).kind.isOther = false := by simpa using hko
    simp only [R.ev_bind, R.ev_opt] at he
    obtain ⟨cs, h1, h2⟩ := Option.bind_eq_some_iff.1 he
    obtain ⟨i, hi⟩ := hT t hko'
    obtain ⟨hc, hct, _, _⟩ := zeroCells_rel (T := T) (w := w) (S := Sh w fp []) h1
    have hz := hi.zero cs h1
    have hcl : (mkv (T t).kind.agg ((T t).cts.map zeroV)).cells = ((T t).cts.map zeroV).toArray := mkv_cells (fun e => by rw [List.length_map]; exact agg_cts hT hko' e) hc.one
    have h00 : RelF T G base nt (σ.setAll []) a w [] fp us blk := hF
    refine wp_ok ?_ (hK _ _ (finish_newbox h00 h2 hd hc (fun _ h => by cases h) .nil hct) ((Chg.alloc w _ []).bel fun _ h => by cases h))
    simp [execOp, ho, Instr.alloc, zeroValue, typeInfo, hi.info, hz, newVar, newRow, hcl]

theorem op_box {ws : Ws} {t : TypeId} {x : Operand} (ho : o.op = .box t x) (h : Rel T G base nt σ a w) (hd : ∀ d, o.dst = some d → d < nt)
    (he : (opR T o).ev D σ = some ws) (hK : ∀ a' w', Rel T G base nt (σ.setAll ws) a' w' → Bel base w w' → K a' w') : o.wp P a w K Q := by
  unfold opR at he
  simp only [ho] at he
  obtain ⟨fp, us, blk, hF⟩ := h
  split at he
  · simp at he
  · simp only [R.ev_bind] at he
    obtain ⟨gp, hgp, he0⟩ := Option.bind_eq_some_iff.1 he
    clear he
    have he := he0
    clear he0
    split at he
    · rename_i off n
      simp only [R.ev_bind, R.ev_slot, Option.bind_some] at he
      split at he
      · rename_i cs hsg
        split at he
        · rename_i hcn
          obtain ⟨hct, hln⟩ := hcn
          have hcr := hF.slot gh
          rw [hsg] at hcr
          have hcr : CellsRel T w (Sh w fp []) cs (us gh) (fp gh) := hcr
          obtain ⟨f1, f2, f3, hf, _, hc2, _⟩ := hcr.sub off n
          have hv : a.eval x = mkv true (((us gh).drop off).take n) := by
            unfold ghostPart at hgp
            split at hgp
            · rename_i tn
              simp only [R.ev_bind, R.ev_slot, Option.bind_some] at hgp
              split at hgp
              · rename_i off' k' hsv
                simp only [R.ev_pure, Option.some.injEq, Prod.mk.injEq] at hgp
                obtain ⟨rfl, rfl⟩ := hgp
                have hs := hF.slot tn
                rw [hsv] at hs
                exact hs.2.2
              · simp at hgp
            · simp at hgp
          have hch := Chg.alloc w (.cells (((us gh).drop off).take n).toArray t) []
          have h2 := hF.chg hch (fun _ h => by cases h) [w.heap.size] (fun b hb => by rw [List.mem_singleton.1 hb, size_alloc]; omega) (by simp)
          have hfin : Rel T G base nt (σ.setAll ws) (a.put o.dst (.pointer (some ⟨w.heap.size, 0, none⟩))) (w.alloc (.cells (((us gh).drop off).take n).toArray t)) := by
            rcases put_ev he with ⟨hd0, rfl⟩ | ⟨d, hd0, hne, rfl⟩
            · rw [hd0]; exact h2.toRel
            · rw [hd0]
              have hgd : gh ≠ d := Nat.ne_of_gt (Nat.lt_of_lt_of_le (hd d hd0) hF.gnt)
              exact (h2.put (hd d hd0) (.pointer (some ⟨w.heap.size, 0, none⟩)) (.gbx t off n) ⟨(σ d).v.w + 1, (σ d).v.c⟩ (by simp) [w.heap.size] (us d) w.heap.size (by simp) (fun b hb => by simpa using hb)
                ⟨by rw [upd_at], by rw [upd_at, upd_ne _ _ hgd]; exact Blk.alloc w _ t, by rw [upd_at]⟩).toRel
          refine wp_ok ?_ (hK _ _ hfin (hch.bel fun _ h => by cases h))
          simp [execOp, ho, Instr.box, newVar, newRow, hv, mkv, Value.cells]
        · simp at he
      · simp at he
    simp only [R.ev_bind, R.ev_opt] at he
    obtain ⟨⟨g, ys, ws1⟩, h1, he1⟩ := Option.bind_eq_some_iff.1 he
    obtain ⟨cs, h2, h3⟩ := Option.bind_eq_some_iff.1 he1
    obtain ⟨vs, fpx, fp', hR, hv, hc, hg, hl, hn, _, _⟩ := take_sound hF h1
    rw [List.append_nil] at hR hc
    obtain ⟨hz, hzc, _, _⟩ := fitAll_rel hc hg h2
    have hcl : (mkv g vs).cells = vs.toArray := mkv_cells (fun e => by rw [hc.length]; exact hl e) hc.one
    refine wp_ok ?_ (hK _ _ (finish_newbox hR h3 hd hz (fun _ h => h) hn hzc) ((Chg.alloc w _ []).bel fun _ h => by cases h))
    simp [execOp, ho, Instr.box, newVar, newRow, hv, hcl]
theorem take_frame {σ' : St} {x : Operand} {rs : List Nat} (ht : (touched x).ev D σ = some rs) (hs : ∀ n, n ∈ rs → σ' n = σ n) : (take x).ev D σ' = (take x).ev D σ ∧ (touched x).ev D σ' = some rs ∧ (peek1 x).ev D σ' = (peek1 x).ev D σ := by
  unfold touched at ht
  split at ht
  · rename_i t
    simp only [R.ev_bind, R.ev_view, Option.bind_some] at ht
    cases hsv : (σ t).sv with
    | gal g off k =>
      have hvw : viewSlot σ t = ⟨.al g gh off k (σ gh).v, (σ t).v⟩ := by unfold viewSlot; rw [hsv]
      rw [hvw] at ht
      simp only [R.ev_pure, Option.some.injEq] at ht
      subst ht
      have e1 := hs t (by simp)
      have e2 := hs gh (by simp)
      have hvw' : viewSlot σ' t = viewSlot σ t := viewSlot_same e1 e2
      refine ⟨?_, ?_, ?_⟩
      · simp only [take, R.ev_bind, R.ev_slot, Option.bind_some, e1, hsv, e2]
        cases (σ gh).sv <;> simp only [R.ev_fail] <;> (split <;> first | rfl | (split <;> rfl))
      · simp only [touched, R.ev_bind, R.ev_view, Option.bind_some, hvw', hvw, R.ev_pure]
      · simp only [peek1, peek, homeCells, R.ev_bind, R.ev_slot, R.ev_view, Option.bind_some, hvw', hvw, e2]
        congr 1
        · cases (σ gh).sv.home with
          | none => simp
          | some cs =>
            simp only [if_true]
            split
            · simp only [R.ev_pure, Option.bind_some]
              split <;> rfl
            · simp
        · funext p
          split <;> rfl
    | al g h off n v =>
      have hvw : viewSlot σ t = σ t := by unfold viewSlot; rw [hsv]
      rw [hvw, hsv] at ht
      simp only [R.ev_pure, Option.some.injEq] at ht
      subst ht
      have e1 := hs t (by simp)
      have e2 := hs h (by simp)
      have hvw' : viewSlot σ' t = σ t := by unfold viewSlot; rw [e1, hsv]
      refine ⟨?_, ?_, ?_⟩
      · simp only [take, R.ev_bind, R.ev_slot, Option.bind_some, e1, hsv, e2]
        split
        · cases (σ h).sv <;> simp only [R.ev_fail] <;> (split <;> first | rfl | (split <;> rfl))
        · rfl
      · simp only [touched, R.ev_bind, R.ev_view, Option.bind_some, hvw', hsv, R.ev_pure]
      · simp only [peek1, peek, homeCells, R.ev_bind, R.ev_slot, R.ev_view, Option.bind_some, hvw', hvw, hsv, e2]
        congr 1
        · split
          · cases (σ h).sv.home with
            | none => simp
            | some cs =>
              dsimp only
              split
              · simp only [R.ev_pure, Option.bind_some]
                split <;> rfl
              · simp
          · simp
        · funext p
          split <;> rfl
    | _ =>
      have hvw : viewSlot σ t = σ t := by unfold viewSlot; rw [hsv]
      rw [hvw, hsv] at ht
      simp only [R.ev_pure, Option.some.injEq] at ht
      subst ht
      have e1 := hs t (by simp)
      have hvw' : viewSlot σ' t = σ t := by unfold viewSlot; rw [e1, hsv]
      refine ⟨?_, ?_, ?_⟩
      · simp only [take, R.ev_bind, R.ev_slot, Option.bind_some, e1, hsv]
        first | rfl | (split <;> first | rfl | (split <;> rfl))
      · simp only [touched, R.ev_bind, R.ev_view, Option.bind_some, hvw', hsv, R.ev_pure]
      · simp only [peek1, peek, R.ev_bind, R.ev_view, Option.bind_some, hvw', hvw, hsv]
        first
          | rfl
          | (congr 1
             · first | rfl | (split <;> rfl)
             · funext p
               split <;> rfl)
  · simp only [R.ev_pure, Option.some.injEq] at ht
    subst ht
    rename_i hx
    cases x with
    | tmp t => exact absurd rfl (hx t)
    | const v =>
      refine ⟨?_, rfl, ?_⟩
      · simp only [take]; split <;> rfl
      · simp only [peek1, peek, R.ev_bind]
        congr 1
        · split <;> rfl
        · funext p; split <;> rfl
    | _ => exact ⟨rfl, rfl, rfl⟩
end

end Go.Proofs.Ytabdjbkbfilhkaa.V
