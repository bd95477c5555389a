import Derived.Test.YtabdjbkbfilhkaaV11
import Derived.Laws.Slices
namespace Go.Proofs.Ytabdjbkbfilhkaa.V
open Go Go.RowKit

section
variable {P : Program} {T : Tab} {G : Nat → Prop} {base : Bs} {nt : Nat} {σ : St} {a : Act} {w w' : World} {F : List Nat} {fp : Nat → List Nat} {us : Nat → List Value} {blk : Nat → Nat} {D : FuncId → List Arg → Option (Bool × Res)}
  {K : Act → World → Prop} {Q : Exit → Act → World → Prop} {o : Oper} {S S' : Nat → Prop}

theorem chunk_rep {α : Type} (l : List α) : ∀ n, chunk l.length n (List.replicate n l).flatten = List.replicate n l
  | 0 => rfl
  | n + 1 => by
    rw [List.replicate_succ, List.flatten_cons, chunk, List.take_left, List.drop_left, chunk_rep l n]

theorem rawRow_rep (zs : List Cell) (n : Nat) : rawRow (List.replicate n zs).flatten = (List.replicate n (rawRow zs)).flatten := by
  unfold rawRow
  rw [List.map_flatten, List.map_replicate]

theorem op_makeSlice {ws : Ws} {t : TypeId} {l c : Operand} (hT : TabOk P T) (ho : o.op = .makeSlice t l c) (h : Rel T G base nt σ a w) (hd : ∀ d, o.dst = some d → d < nt)
    (he : (opR T o).ev D σ = some ws) (hK : ∀ a' w', Rel T G base nt (σ.setAll ws) a' w' → Bel base w w' → K a' w') : o.wp P a w K Q := by
  unfold opR at he
  simp only [ho] at he
  obtain ⟨fp, us, blk, hF⟩ := h
  simp only [R.ev_bind] at he
  obtain ⟨cc, hc, hp⟩ := Option.bind_eq_some_iff.1 he
  unfold makeSlice at hc
  simp only [R.ev_bind] at hc
  obtain ⟨⟨kl, n⟩, h1, hc1⟩ := Option.bind_eq_some_iff.1 hc
  obtain ⟨⟨kc, m⟩, h2, hc2⟩ := Option.bind_eq_some_iff.1 hc1
  clear hc he hc1
  have r1 := peekInt_sound hF h1
  have r2 := peekInt_sound hF h2
  dsimp only at hc2
  split at hc2
  · rename_i e hkd
    split at hc2
    · simp at hc2
    · rename_i hoe
      have hoe' : (T e).kind.isOther = false := by simpa using hoe
      obtain ⟨it, hit⟩ := hT t (by rw [hkd]; rfl)
      have hki := hit.kind
      rw [hkd] at hki
      obtain ⟨ie, hie⟩ := hT e hoe'
      simp only [R.ev_bind, R.ev_opt] at hc2
      obtain ⟨zs, h5, h6⟩ := Option.bind_eq_some_iff.1 hc2
      obtain ⟨_, hgd, h7⟩ := Option.bind_eq_some_iff.1 h6
      clear hc2 h6
      rw [R.ev_guard] at hgd
      obtain ⟨g1, g2, g3, g4⟩ := hgd
      split at h7
      · rename_i hcts
        simp only [R.ev_pure, Option.some.injEq] at h7
        subst h7
        obtain ⟨hz, hzc, hzd, hzg⟩ := zeroCells_rel (T := T) (w := w) (S := Sh w fp []) h5
        have hzero := hie.zero zs h5
        have hpos : 0 < (T e).cts.length := List.length_pos_iff.2 hcts
        have hzl : zs.length = (T e).cts.length := by rw [← ctsOf_length, hzc]
        obtain ⟨n', rfl⟩ := Int.eq_ofNat_of_zero_le g1
        obtain ⟨m', rfl⟩ := Int.eq_ofNat_of_zero_le (Int.le_trans g1 g2)
        have hnm : n' ≤ m' := by omega
        have hcv : (mkv (T e).kind.agg ((T e).cts.map zeroV)).cells = ((T e).cts.map zeroV).toArray := mkv_cells (fun h => by rw [List.length_map]; exact agg_cts hT hoe' h) hz.one
        have hrun := run_make (P := P) w t e ie _ hki.1 hie.info hzero kl kc (n' : Int) (m' : Int) g1 g2 (by rw [hie.bytes, Int.mul_comm]; omega) (by omega)
        simp only [Int.toNat_natCast] at hrun
        have hmade := rep_made (zv := (T e).cts.map zeroV) m' (by rw [List.length_map]; exact hpos)
        rw [List.length_map] at hmade
        have hcells : madeCells (mkv (T e).kind.agg ((T e).cts.map zeroV)).cells (m' * ie.size) = ((List.replicate m' ((T e).cts.map zeroV)).flatten).toArray := by
          unfold madeCells
          rw [hie.size, hcv, ← hmade]
          simp
        rw [hcells] at hrun
        have hch := Chg.alloc w (.cells ((List.replicate m' ((T e).cts.map zeroV)).flatten).toArray e) []
        have hC := rep_cells hz n'
        have hC2 : CellsRel T (w.alloc (.cells ((List.replicate m' ((T e).cts.map zeroV)).flatten).toArray e)) (fun _ => True) _ _ [] := hC.chg hch (fun _ h => by cases h) (fun _ _ h => by cases h) (fun _ _ => trivial)
        have hCm := rep_cells hz m'
        have hgone : (List.replicate n' zs).flatten.any Cell.isGone = false := by
          rw [List.any_eq_false] at hzg ⊢
          intro x hx
          obtain ⟨l, hl, hx⟩ := List.mem_flatten.1 hx
          rw [List.eq_of_mem_replicate hl] at hx
          exact hzg x hx
        have hdeep : (List.replicate n' zs).flatten.all Cell.deep = true := by
          rw [List.all_eq_true] at hzd ⊢
          intro x hx
          obtain ⟨l, hl, hx⟩ := List.mem_flatten.1 hx
          rw [List.eq_of_mem_replicate hl] at hx
          exact hzd x hx
        have hown := (own_of_cells (n := n') (cap := m') (Blk.alloc w ((List.replicate m' ((T e).cts.map zeroV)).flatten) e) hC2 hgone (fun k hk => by
            have h1 := rep_getD ((T e).cts.map zeroV) undef m' k (by rw [List.length_map]; exact Nat.lt_of_lt_of_le hk (Nat.mul_le_mul_right _ hnm))
            have h2 := rep_getD ((T e).cts.map zeroV) undef n' k (by rw [List.length_map]; exact hk)
            rw [h1, h2]) hnm (by rw [rep_length, List.length_map]) hCm.one (by simp only [maxLen]; omega) hpos (by rw [rep_length, hzl]) (fun k hk => by
            have : ctsOf (List.replicate n' zs).flatten = (List.replicate n' (T e).cts).flatten := by
              unfold ctsOf
              rw [List.map_flatten, List.map_replicate]
              have : zs.map (·.ct) = (T e).cts := hzc
              rw [this]
            rw [this]
            exact rep_getD _ _ _ _ hk)).1 hdeep
        rw [rawRow_rep, ← hzl] at hown
        have hrl : (rawRow zs).length = zs.length := by simp [rawRow]
        rw [← hrl, chunk_rep] at hown
        refine wp_ok (v := .slice (some ⟨w.heap.size, 0, none⟩) n' m') ?_ (hK _ _ (finish_own hF hch ⟨Nat.le_refl _, by rw [size_alloc]; omega⟩ hp hd hown) (hch.bel fun _ h => by cases h))
        simp only [execOp, ho, r1, r2, Sem.run_bind, hrun, Result.andThen_ok, Sem.run_pure]
      · simp at h7
  · simp at hc2

theorem TupRel.at {vs : List (Bool × List Cell)} {uw : List Value} {fq : List Nat} (h : TupRel T w S vs uw fq) : ∀ {i : Nat} {g : Bool} {cs : List Cell}, vs[i]? = some (g, cs) →
    ∃ ui f1 f2 f3, fq = f1 ++ f2 ++ f3 ∧ uw[i]? = some (mkv g ui) ∧ CellsRel T w S cs ui f2 ∧ (g = false → cs.length = 1) ∧ TupRel T w S (vs.set i (g, cs.map Cell.leave)) uw (f1 ++ f3) := by
  induction h with
  | nil => intro i g cs hi; simp at hi
  | @cons g0 cs0 vs us ws fp fp' hc hg ht ih =>
    intro i g cs hi
    cases i with
    | zero =>
      simp only [List.getElem?_cons_zero, Option.some.injEq, Prod.mk.injEq] at hi
      obtain ⟨rfl, rfl⟩ := hi
      refine ⟨us, [], fp, fp', rfl, rfl, hc, hg, ?_⟩
      have := TupRel.cons (hc.leave) (fun h => by rw [List.length_map]; exact hg h) ht
      simpa using this
    | succ i =>
      simp only [List.getElem?_cons_succ] at hi
      obtain ⟨ui, f1, f2, f3, hf, hu, hc', hg', ht'⟩ := ih hi
      refine ⟨ui, fp ++ f1, f2, f3, by rw [hf]; simp, by simpa using hu, hc', hg', ?_⟩
      have := TupRel.cons hc hg ht'
      simpa using this

theorem op_extract {ws : Ws} {x : Operand} {i : Nat} (ho : o.op = .extract x i) (h : Rel T G base nt σ a w) (hd : ∀ d, o.dst = some d → d < nt)
    (he : (opR T o).ev D σ = some ws) (hK : ∀ a' w', Rel T G base nt (σ.setAll ws) a' w' → Bel base w w' → K a' w') : o.wp P a w K Q := by
  unfold opR at he
  simp only [ho] at he
  obtain ⟨fp, us, blk, hF⟩ := h
  cases x <;> simp only [R.ev_fail, reduceCtorEq] at he
  rename_i t
  simp only [R.ev_bind, R.ev_slot, Option.bind_some] at he
  have hs := hF.slot t
  split at he
  · rename_i vs hsv
    rw [hsv] at hs
    obtain ⟨uw, hu, htr⟩ := hs
    simp only [R.ev_bind, R.ev_opt] at he
    obtain ⟨⟨g, cs⟩, hi, he⟩ := Option.bind_eq_some_iff.1 he
    obtain ⟨ui, f1, f2, f3, hf, hui, hc, hg, htr'⟩ := htr.at hi
    have hrun : (execOp a.eval o).run P w = .ok (.value (mkv g ui)) w := by
      have : uw.toArray[i]? = some (mkv g ui) := by simpa using hui
      simp [execOp, ho, eval_tmp, hu, Instr.extract, this]
    dsimp only at he
    split at he
    · simp at he
    · rename_i hgn
      have hgn' : cs.any Cell.isGone = false := by simpa using hgn
      split at he
      · rename_i hfr
        have h0 : RelF T G base nt (σ.setAll []) a w [] fp us blk := hF
        exact wp_ok hrun (hK _ _ (finish_val h0 he hd (hc.shared hfr hgn') .nil (fun _ h => by cases h) (fun h => by rw [List.length_map]; exact hg h)) (Bel.refl _ _))
      · have hnd := hF.nodup t
        rw [hf] at hnd
        have hnd' := List.nodup_append.1 hnd
        have hnd'' := List.nodup_append.1 hnd'.1
        have hre := hF.re t (by rw [hsv]; exact SV.noConfusion) (.tup (vs.set i (g, cs.map Cell.leave))) ⟨(σ t).v.w, (σ t).v.c + 1⟩ (.inr ⟨rfl, by simp⟩) (f1 ++ f3) (us t) f2
          (List.nodup_append.2 ⟨hnd''.1, hnd'.2.1, fun x hx y hy => hnd'.2.2 x (by simp [hx]) y hy⟩) hnd''.2.1
          (fun b hb => by
            rcases hb with hb | hb
            · exact .inl (by rw [hf]; simp at hb ⊢; rcases hb with hb | hb <;> simp [hb])
            · exact .inl (by rw [hf]; simp [hb]))
          (fun b hb hm => by
            rcases List.mem_append.1 hb with hb | hb
            · exact hnd''.2.2 b hb b hm rfl
            · exact hnd'.2.2 b (by simp [hm]) b hb rfl) (fun e => absurd e (hF.ngh (by rw [hsv]; rfl)))
          ⟨uw, hu, htr'⟩
        have hSh : ∀ b, Sh w fp [] b → Sh w (upd fp t (f1 ++ f3)) f2 b := fun b hb =>
          ⟨hb.1, fun n hm => by
            by_cases e : n = t
            · subst e; rw [upd_at] at hm; exact hb.2.1 n (by rw [hf]; simp at hm ⊢; rcases hm with hm | hm <;> simp [hm])
            · rw [upd_ne _ _ e] at hm; exact hb.2.1 n hm,
           fun hm => hb.2.1 t (by rw [hf]; simp [hm])⟩
        have h1 : RelF T G base nt (σ.setAll [(t, ⟨.tup (vs.set i (g, cs.map Cell.leave)), ⟨(σ t).v.w, (σ t).v.c + 1⟩⟩)]) a w f2 _ _ blk := hre
        exact wp_ok hrun (hK _ _ (finish_val h1 he hd (hc.same (fun _ _ => rfl) hSh (fun _ _ _ h => h)) hnd''.2.1 (fun _ h => h) hg) (Bel.refl _ _))
  · simp at he

theorem capHomes_sound (h : RelF T G base nt σ a w F fp us blk) : ∀ {xs : List Operand} {cs : List (Nat × Nat)}, (capHomes xs).ev D σ = some cs →
    xs.map a.eval = (cs.map fun p => Value.pointer (some ⟨blk p.1, 0, none⟩)) ∧ ∀ p, p ∈ cs → p.2 ≤ (σ p.1).v.w
  | [], cs, he => by
    simp only [capHomes, R.ev_pure, Option.some.injEq] at he
    subst he
    exact ⟨rfl, fun _ h => by cases h⟩
  | x :: rest, cs, he => by
    cases x <;> simp only [capHomes, R.ev_fail, reduceCtorEq] at he
    rename_i t
    simp only [R.ev_bind, R.ev_slot, Option.bind_some] at he
    have hs := h.slot t
    split at he
    · rename_i e cs0 hsv
      rw [hsv] at hs
      simp only [R.ev_bind] at he
      obtain ⟨r, h2, he⟩ := Option.bind_eq_some_iff.1 he
      simp only [R.ev_pure, Option.some.injEq] at he
      subst he
      obtain ⟨h3, h4⟩ := capHomes_sound h h2
      refine ⟨?_, fun p hp => ?_⟩
      · simp only [List.map_cons, h3, eval_tmp, hs.1]
      · rcases List.mem_cons.1 hp with rfl | hp
        · exact Nat.le_refl _
        · exact h4 p hp
    · rename_i hh off v hsv
      rw [hsv] at hs
      simp only [R.ev_bind, R.ev_slot, Option.bind_some] at he
      split at he
      · rename_i hv
        obtain ⟨rfl, hv⟩ := hv
        simp only [R.ev_bind] at he
        obtain ⟨r, h2, he⟩ := Option.bind_eq_some_iff.1 he
        simp only [R.ev_pure, Option.some.injEq] at he
        subst he
        obtain ⟨h3, h4⟩ := capHomes_sound h h2
        refine ⟨?_, fun p hp => ?_⟩
        · simp only [List.map_cons, h3, eval_tmp, hs.2.2 hv]
        · rcases List.mem_cons.1 hp with rfl | hp
          · exact hs.2.1
          · exact h4 p hp
      · simp at he
    · simp at he

theorem op_makeFunc {ws : Ws} {fn : Fn} {first caps : Array Operand} (ho : o.op = .makeFunc fn first caps) (h : Rel T G base nt σ a w) (hd : ∀ d, o.dst = some d → d < nt)
    (he : (opR T o).ev D σ = some ws) (hK : ∀ a' w', Rel T G base nt (σ.setAll ws) a' w' → Bel base w w' → K a' w') : o.wp P a w K Q := by
  unfold opR at he
  simp only [ho] at he
  obtain ⟨fp, us, blk, hF⟩ := h
  split at he
  · rename_i f
    split at he
    · rename_i hfi
      simp only [R.ev_bind] at he
      obtain ⟨cs, h1, h2⟩ := Option.bind_eq_some_iff.1 he
      obtain ⟨h3, h4⟩ := capHomes_sound hF h1
      have hv : caps.map a.eval = (cs.map fun p => Value.pointer (some ⟨blk p.1, 0, none⟩)).toArray := by
        rw [← h3]
        apply Array.ext'
        simp
      have hfe : first = #[] := by
        rw [← Array.toArray_toList (xs := first), List.isEmpty_iff.1 hfi]
      have h0 : RelF T G base nt (σ.setAll []) a w [] fp us blk := hF
      refine wp_ok (v := .func (.func f) #[] (caps.map a.eval)) ?_ (hK _ _ (finish_light h0 h2 hd rfl (fun n => ⟨rfl, h4, fun _ => by rw [hv]⟩)) (Bel.refl _ _))
      simp [execOp, ho, Instr.makeFunc, hfe]
    · simp at he
  · simp at he

theorem run_sliceB {c : Value} {k : IntKind} {n : Int} {y : Nat} {code : BoundsCode} (hc : c = .int k n) (h0 : 0 ≤ n) (h1 : n ≤ (y : Int)) (w : World) : (Instr.sliceBound c y code).run P w = .ok n.toNat w := by
  rw [hc]
  exact run_sliceBound w k n y code h0 h1

def BoundRel (a : Act) (lo : Option Operand) (d l : Int) : Prop := match lo with | some x => ∃ k, a.eval x = .int k l | none => l = d

theorem bounds_run {lo hi : Option Operand} {l h : Int} {b : Bool} {len cap : Nat} (hc : len ≤ cap)
    (hl : BoundRel a lo 0 l) (hh : BoundRel a hi len h) (h0 : 0 ≤ l) (h1 : l ≤ h) (h2 : h ≤ (len : Int)) (w : World) :
    (Instr.sliceBounds b len cap (lo.map a.eval) (hi.map a.eval) none).run P w = .ok (l.toNat, h.toNat, cap) w := by
  have e1 : h.toNat ≤ cap := by omega
  have e2 : l ≤ (h.toNat : Int) := by omega
  unfold BoundRel at hl hh
  cases lo with
  | none =>
    dsimp only at hl
    subst hl
    cases hi with
    | none => dsimp only at hh; subst hh; simp [Instr.sliceBounds]
    | some y => obtain ⟨k, hk⟩ := hh; simp [Instr.sliceBounds, run_sliceB hk (show 0 ≤ h by omega) (show h ≤ (cap : Int) by omega)]
  | some x =>
    obtain ⟨k, hk⟩ := hl
    cases hi with
    | none => dsimp only at hh; subst hh; simp [Instr.sliceBounds, run_sliceB hk h0 (show l ≤ (len : Int) by omega)]
    | some y =>
      obtain ⟨k', hk'⟩ := hh
      simp [Instr.sliceBounds, run_sliceB hk' (show 0 ≤ h by omega) (show h ≤ (cap : Int) by omega), run_sliceB hk h0 e2]

theorem bound_ev {lo : Option Operand} {d l : Int} (h : RelF T G base nt σ a w F fp us blk) (he : (bound lo d).ev D σ = some l) :
    BoundRel a lo d l := by
  cases lo with
  | none => simpa [bound, BoundRel] using he.symm
  | some x =>
    simp only [bound, R.ev_bind] at he
    obtain ⟨⟨k, i⟩, h1, h2⟩ := Option.bind_eq_some_iff.1 he
    simp only [R.ev_pure, Option.some.injEq] at h2
    subst h2
    exact ⟨k, peekInt_sound h h1⟩

theorem run_sliceV {t e : TypeId} (ht : P.underlying t = some (.slice e)) {sz : Nat} (hs : (Go.sizeOf e).run P w = .ok sz w) {ad : Option Addr} {len cap l h : Nat} {lo hi : Option Value}
    (hb : (Instr.sliceBounds true len cap lo hi none).run P w = .ok (l, h, cap) w) : (Instr.sliceAt t (.slice ad len cap) lo hi none).run P w = .ok (sliced ad l h cap sz) w := by
  have hel : P.elem t = e := by simp [Program.elem, ht]
  have ht' : P.underlying t = some (.slice (P.elem t)) := by rw [hel]; exact ht
  rw [run_sliceAt_slice w t _ _ _ _ ht', run_slice_any w t ad len cap ht', hb]
  simp only [Result.andThen_ok, hel, hs]

theorem rep_sliced {e : TypeId} {ad : Addr} {xs : List (List TC)} {cap l h : Nat} {us1 : Nat → Value} (p1 : xs.length ≤ cap) (p2 : ∀ x, x ∈ xs → x.length = (T e).cts.length)
    (p3 : ∀ k, k < xs.length * (T e).cts.length → S ad.block ∧ w.cell? (ad.add k) = some (us1 k))
    (p4 : ∀ k, k < xs.length * (T e).cts.length → RepC T w S ((T e).cts.getD (k % (T e).cts.length) .bool) (us1 k) (nth (xs.getD (k / (T e).cts.length) []) (k % (T e).cts.length)))
    (h1 : l ≤ h) (h2 : h ≤ xs.length) : RepC T w S (.slice e) (sliced (some ad) l h cap (T e).cts.length) (.l ((xs.take h).drop l)) := by
  have hlen : ((xs.take h).drop l).length = h - l := by simp; omega
  have hmem : ∀ x, x ∈ (xs.take h).drop l → x.length = (T e).cts.length := fun x hx => p2 x (List.mem_of_mem_take (List.mem_of_mem_drop hx))
  unfold sliced
  rw [← hlen]
  by_cases hc : cap = l
  · have h0 : (xs.take h).drop l = [] := by apply List.eq_nil_of_length_eq_zero; omega
    rw [if_pos hc, h0]
    exact .slice e ad [] _ (fun _ => undef) (by simp) (fun _ h => by cases h) (fun k hk => by simp at hk) (fun k hk => by simp at hk)
  · rw [if_neg hc]
    refine .slice e (ad.add (l * (T e).cts.length)) _ (cap - l) (fun k => us1 (l * (T e).cts.length + k)) (by omega) hmem (fun k hk => ?_) (fun k hk => ?_)
    · rw [hlen, Nat.sub_mul] at hk
      have hk' : l * (T e).cts.length + k < xs.length * (T e).cts.length := by
        have := Nat.mul_le_mul_right (T e).cts.length h2
        omega
      rw [add_block, add_add]
      exact p3 _ hk'
    · rw [hlen] at hk
      have hsz : 0 < (T e).cts.length := by
        rcases Nat.eq_zero_or_pos (T e).cts.length with h | h
        · rw [h] at hk; simp at hk
        · exact h
      have hq : k / (T e).cts.length < h - l := div_lt_of hk
      have hk' : l * (T e).cts.length + k < xs.length * (T e).cts.length := by
        rw [Nat.sub_mul] at hk
        have := Nat.mul_le_mul_right (T e).cts.length h2
        omega
      have := p4 _ hk'
      rw [show l * (T e).cts.length + k = k + l * (T e).cts.length by omega, Nat.add_mul_mod_self_right, Nat.add_mul_div_right _ _ hsz] at this
      rw [show l * (T e).cts.length + k = k + l * (T e).cts.length by omega]
      have e1 : ((xs.take h).drop l).getD (k / (T e).cts.length) [] = xs.getD (k / (T e).cts.length + l) [] := by
        simp only [List.getD_eq_getElem?_getD, List.getElem?_drop, List.getElem?_take]
        rw [if_pos (by omega), Nat.add_comm]
      rw [e1]
      exact this

theorem bytes_slice (l : List UInt8) (i j : Nat) : (⟨l.toArray⟩ : ByteArray).extract i j = ⟨((l.take j).drop i).toArray⟩ := by
  apply ByteArray.ext
  apply Array.ext'
  simp [List.drop_take]

theorem op_slice0 {ws : Ws} {t : TypeId} {x : Operand} {lo hi : Option Operand} (hT : TabOk P T) (ho : o.op = .slice t x lo hi none) (h : Rel T G base nt σ a w) (hd : ∀ d, o.dst = some d → d < nt)
    (he : (do put o.dst (.val false [← sliceOp T t x lo hi]) : R Ws).ev D σ = some ws) (hK : ∀ a' w', Rel T G base nt (σ.setAll ws) a' w' → Bel base w w' → K a' w') : o.wp P a w K Q := by
  obtain ⟨fp, us, blk, hF⟩ := h
  simp only [R.ev_bind] at he
  obtain ⟨cc, hc, hp⟩ := Option.bind_eq_some_iff.1 he
  unfold sliceOp at hc
  simp only [R.ev_bind] at hc
  obtain ⟨d, h1, hc1⟩ := Option.bind_eq_some_iff.1 hc
  obtain ⟨l, h2, hc2⟩ := Option.bind_eq_some_iff.1 hc1
  clear hc he hc1
  have r1 := peek1_rep hF h1
  have hl := bound_ev hF h2
  cases hk : d.ct <;> cases hkd : (T t).kind <;> rw [hk, hkd] at hc2 <;> first | (simp only [R.ev_fail, reduceCtorEq] at hc2; done) | skip
  case str.str =>
    obtain ⟨i0, hi0⟩ := hT t (by rw [hkd]; rfl)
    have hu := hi0.kind
    rw [hkd] at hu
    rw [hk] at r1
    simp only [R.ev_bind] at hc2
    obtain ⟨hh, h3, hc3⟩ := Option.bind_eq_some_iff.1 hc2
    obtain ⟨_, hg, hc4⟩ := Option.bind_eq_some_iff.1 hc3
    have hb := bound_ev hF h3
    rw [R.ev_guard] at hg
    simp only [R.ev_pure, Option.some.injEq] at hc4
    subst hc4
    have hbr := bounds_run (P := P) (a := a) (b := false) (Nat.le_refl d.c.str.length) hl hb hg.1 hg.2.1 hg.2.2 w
    refine wp_ok ?_ (hK _ _ (finish_flat hF hp hd (makes_str _).rel) (Bel.refl _ _))
    have hsz : (⟨d.c.str.toArray⟩ : ByteArray).size = d.c.str.length := bytes_size _
    have hrun : (Instr.slice t (a.eval x) (lo.map a.eval) (hi.map a.eval) none).run P w = .ok (.string ⟨((d.c.str.take hh.toNat).drop l.toNat).toArray⟩) w := by
      rw [rep_str r1]
      simp only [Instr.slice, Sem.run_bind, run_underlying hu.1, Result.andThen_ok, hsz, Option.isSome_none, Bool.false_eq_true, if_false]
      simp [hbr, bytes_slice]
    simp only [execOp, ho, Option.map_none, Sem.run_bind, run_sliceAt_string w t _ _ _ _ hu.1, hrun, Result.andThen_ok, Sem.run_pure]
  case slice.slice e e' =>
    obtain ⟨i0, hi0⟩ := hT t (by rw [hkd]; rfl)
    have hu := hi0.kind
    rw [hkd] at hu
    dsimp only at hc2
    split at hc2
    · rename_i hfe
      obtain ⟨hfl, rfl, hoe⟩ := hfe
      simp only [R.ev_bind] at hc2
      obtain ⟨hh, h3, hc3⟩ := Option.bind_eq_some_iff.1 hc2
      obtain ⟨_, hg, hc4⟩ := Option.bind_eq_some_iff.1 hc3
      have hb := bound_ev hF h3
      rw [R.ev_guard] at hg
      simp only [R.ev_pure, Option.some.injEq] at hc4
      subst hc4
      obtain ⟨fq, hcr, hgn, n0, hn0⟩ := peek1_sound hF h1
      unfold CellRel at hcr
      rw [hfl, hk] at hcr
      have hrep := hcr.1
      generalize hu0 : a.eval x = u0 at hrep
      generalize hc0 : d.c = c0 at hrep hb hg hp
      cases hrep with
      | nil =>
        simp only [TC.list, List.length_nil] at hb hg hp
        obtain ⟨q1, q2, q3⟩ := hg
        have hl0 : l = 0 := by omega
        have hh0 : hh = 0 := by omega
        subst hl0 hh0
        have hbr := bounds_run (P := P) (a := a) (b := true) (Nat.le_refl 0) hl hb q1 q2 q3 w
        have hrel : CellRel T w (Sh w fp []) ⟨.slice e, .sh, .l []⟩ (.slice none 0 0) [] := ⟨.nil e, rfl⟩
        refine wp_ok (v := .slice none 0 0) ?_ (hK _ _ (finish_flat hF hp hd hrel) (Bel.refl _ _))
        simp only [execOp, ho, hu0, Option.map_none, Sem.run_bind, run_sliceV hu.1 (sizeOf_run hT hoe w) hbr, Result.andThen_ok, Sem.run_pure]
        rfl
      | slice _ ad xs cap us1 p1 p2 p3 p4 =>
        simp only [TC.list] at hb hg hp
        have hbr := bounds_run (P := P) (a := a) (b := true) p1 hl hb hg.1 hg.2.1 hg.2.2 w
        have hrel : CellRel T w (Sh w fp []) ⟨.slice e, .sh, .l ((xs.take hh.toNat).drop l.toNat)⟩ (sliced (some ad) l.toNat hh.toNat cap (T e).cts.length) [] :=
          ⟨rep_sliced p1 p2 p3 p4 (by omega) (by omega), rfl⟩
        refine wp_ok ?_ (hK _ _ (finish_flat hF hp hd hrel) (Bel.refl _ _))
        simp only [execOp, ho, hu0, Option.map_none, Sem.run_bind, run_sliceV hu.1 (sizeOf_run hT hoe w) hbr, Result.andThen_ok, Sem.run_pure]
    · simp at hc2
end

end Go.Proofs.Ytabdjbkbfilhkaa.V
