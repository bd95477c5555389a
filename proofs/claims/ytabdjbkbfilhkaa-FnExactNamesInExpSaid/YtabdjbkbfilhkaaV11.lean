import Derived.Test.YtabdjbkbfilhkaaV10
namespace Go.Proofs.Ytabdjbkbfilhkaa.V
open Go Go.RowKit

section
variable {P : Program} {T : Tab} {G : Nat → Prop} {base : Bs} {nt : Nat} {σ : St} {a : Act} {w w' : World} {F : List Nat} {fp : Nat → List Nat} {us : Nat → List Value} {blk : Nat → Nat} {D : FuncId → List Arg → Option (Bool × Res)}
  {K : Act → World → Prop} {Q : Exit → Act → World → Prop} {o : Oper} {S S' : Nat → Prop}

inductive PartsRel (T : Tab) (w : World) (S : Nat → Prop) (a : Act) : List (Nat × Operand) → List (Nat × List Cell) → List Nat → Prop
  | nil : PartsRel T w S a [] [] []
  | cons {i : Nat} {x : Operand} {g : Bool} {ys : List Cell} {vs : List Value} {fq fq' : List Nat} {ops : List (Nat × Operand)} {ps : List (Nat × List Cell)} : a.eval x = mkv g vs → (g = false → ys.length = 1) → CellsRel T w S ys vs fq → ys.any Cell.isGone = false →
      PartsRel T w S a ops ps fq' → PartsRel T w S a ((i, x) :: ops) ((i, ys) :: ps) (fq ++ fq')

theorem PartsRel.mono {ops : List (Nat × Operand)} {ps : List (Nat × List Cell)} {fq : List Nat} (h : PartsRel T w S a ops ps fq) (hS : ∀ b, S b → S' b) : PartsRel T w S' a ops ps fq := by
  induction h with
  | nil => exact .nil
  | cons h1 h2 h3 h4 _ ih => exact .cons h1 h2 (h3.same (fun _ _ => rfl) hS fun _ _ _ h => h) h4 ih

theorem clash_false {ws : Ws} {rs : List Nat} (h : clash ws rs = false) : ∀ n, n ∈ rs → ∀ p, p ∈ ws → p.1 ≠ n := by
  intro n hn p hp e
  unfold clash at h
  rw [List.any_eq_false] at h
  exact h p hp (by rw [e]; simpa using hn)

theorem takeParts_frame {σ' : St} : ∀ {ops : List (Nat × Operand)} {ps : List (Nat × List Cell)} {ws : Ws} {rs : List Nat}, (takeParts ops).ev D σ = some (ps, ws, rs) → (∀ n, n ∈ rs → σ' n = σ n) → (takeParts ops).ev D σ' = some (ps, ws, rs)
  | [], _, _, _, h, _ => h
  | (i, x) :: ops, ps, ws, rs, h, hs => by
    simp only [takeParts, R.ev_bind] at h ⊢
    obtain ⟨⟨g, ys, ws1⟩, h1, h2⟩ := Option.bind_eq_some_iff.1 h
    obtain ⟨rs1, h3, h4⟩ := Option.bind_eq_some_iff.1 h2
    obtain ⟨⟨ps2, ws2, rs2⟩, h5, h6⟩ := Option.bind_eq_some_iff.1 h4
    have hrs : rs = rs1 ++ rs2 := by
      dsimp only at h6
      split at h6
      · simp at h6
      · simp only [R.ev_pure, Option.some.injEq, Prod.mk.injEq] at h6; exact h6.2.2.symm
    subst hrs
    obtain ⟨f1, f2, _⟩ := take_frame h3 (fun n hn => hs n (by simp [hn]))
    have f3 := takeParts_frame h5 (fun n hn => hs n (by simp [hn]))
    rw [f1, h1, Option.bind_some, f2, Option.bind_some, f3, Option.bind_some]
    dsimp only at h6 ⊢
    split at h6
    · simp at h6
    · rename_i hc; rw [if_neg hc]; exact h6

theorem takeParts_sound : ∀ {ops : List (Nat × Operand)} {ps : List (Nat × List Cell)} {ws : Ws} {rs : List Nat} {σ : St} {F : List Nat} {fp : Nat → List Nat}, RelF T G base nt σ a w F fp us blk → (takeParts ops).ev D σ = some (ps, ws, rs) →
    ∃ fpx fp', RelF T G base nt (σ.setAll ws) a w (fpx ++ F) fp' us blk ∧ PartsRel T w (Sh w fp' (fpx ++ F)) a ops ps fpx ∧ fpx.Nodup ∧ (∀ b, Sh w fp F b → Sh w fp' (fpx ++ F) b)
  | [], ps, ws, rs, σ, F, fp, hF, h => by
    simp only [takeParts, R.ev_pure, Option.some.injEq, Prod.mk.injEq] at h
    obtain ⟨rfl, rfl, rfl⟩ := h
    exact ⟨[], fp, hF, .nil, .nil, fun _ h => h⟩
  | (i, x) :: ops, ps, ws, rs, σ, F, fp, hF, h => by
    simp only [takeParts, R.ev_bind] at h
    obtain ⟨⟨g, ys, ws1⟩, h1, h2⟩ := Option.bind_eq_some_iff.1 h
    obtain ⟨rs1, h3, h4⟩ := Option.bind_eq_some_iff.1 h2
    obtain ⟨⟨ps2, ws2, rs2⟩, h5, h6⟩ := Option.bind_eq_some_iff.1 h4
    dsimp only at h6
    split at h6
    · simp at h6
    · rename_i hc
      simp only [R.ev_pure, Option.some.injEq, Prod.mk.injEq] at h6
      obtain ⟨rfl, rfl, rfl⟩ := h6
      have hc1 : clash ws1 rs2 = false := by simp at hc; exact hc.1
      obtain ⟨vs, fpx, fp', hR, hv, hcr, hg, hl, hn, hSS, _⟩ := take_sound hF h1
      have h5' := takeParts_frame (σ' := σ.setAll ws1) h5 (fun n hn => setAll_other σ ws1 n (clash_false hc1 n hn))
      obtain ⟨fpy, fp2, hR2, hP, hn2, hSS2⟩ := takeParts_sound hR h5'
      have hnd := hR2.ndF
      have hperm : ∀ b, b ∈ (fpx ++ fpy) ++ F ↔ b ∈ fpy ++ (fpx ++ F) := fun b => by
        simp only [List.mem_append]
        constructor
        · rintro ((h | h) | h)
          · exact .inr (.inl h)
          · exact .inl h
          · exact .inr (.inr h)
        · rintro (h | h | h)
          · exact .inl (.inr h)
          · exact .inl (.inl h)
          · exact .inr h
      have hdis := List.nodup_append.1 hnd
      have hdis2 := List.nodup_append.1 hdis.2.1
      have hnd2 : (fpx ++ fpy).Nodup := List.nodup_append.2 ⟨hn, hn2, fun u hu v hv e => hdis.2.2 v hv u (by simp [hu]) e.symm⟩
      have hnd3 : ((fpx ++ fpy) ++ F).Nodup := List.nodup_append.2 ⟨hnd2, hdis2.2.1, fun u hu v hv e => by
        rcases List.mem_append.1 hu with hu | hu
        · exact hdis2.2.2 u hu v hv e
        · exact hdis.2.2 u hu v (by simp [hv]) e⟩
      have hSp : ∀ b, Sh w fp2 (fpy ++ (fpx ++ F)) b → Sh w fp2 ((fpx ++ fpy) ++ F) b := fun b hb => ⟨hb.1, hb.2.1, fun hm => hb.2.2 ((hperm b).1 hm)⟩
      refine ⟨fpx ++ fpy, fp2, ?_, .cons hv hl (hcr.same (fun _ _ => rfl) (fun b hb => hSp b (hSS2 b hb)) fun _ _ _ h => h) hg (hP.mono hSp), hnd2, fun b hb => hSp b (hSS2 b (hSS b hb))⟩
      rw [setAll_append]
      exact hR2.drop (fun b hb => (hperm b).1 hb) hnd3

/-! ### Parts laid over cells -/
theorem foldl_cells : ∀ (vs : List Value) (off k : Nat) (cur : List Value), off + k + vs.length ≤ cur.length →
    (vs.zipIdx k).foldl (fun (cs : Array Value) (p : Value × Nat) => cs.setIfInBounds (off + p.2) p.1) cur.toArray = (V.splice cur (off + k) vs).toArray
  | [], off, k, cur, _ => by simp [V.splice]
  | v :: vs, off, k, cur, h => by
    simp only [List.length_cons] at h
    rw [List.zipIdx_cons, List.foldl_cons]
    have e1 : cur.toArray.setIfInBounds (off + k) v = (cur.set (off + k) v).toArray := by simp
    dsimp only
    rw [e1, foldl_cells vs off (k + 1) (cur.set (off + k) v) (by simp; omega)]
    have := list_seg_step cur (off + k) v vs (by omega)
    unfold V.splice
    rw [show off + (k + 1) = off + k + 1 by omega, this]
    simp

theorem fill_one {place : Nat → Option (Nat × Nat)} {cur vs : List Value} {i off : Nat} {v : Value} {rest : List (Nat × Value)} (hp : place i = some (off, vs.length)) (hv : v.cells = vs.toArray) (hf : off + vs.length ≤ cur.length) :
    Instr.fill place cur.toArray ((i, v) :: rest) = Instr.fill place (V.splice cur off vs).toArray rest := by
  have h := foldl_cells vs off 0 cur (by omega)
  rw [Nat.add_zero] at h
  have e1 : ¬ (decide (vs.length ≠ vs.length) || decide (off + vs.length > cur.length)) = true := by simp; omega
  rw [Instr.fill, hp]
  dsimp only
  rw [hv]
  simp only [List.size_toArray]
  rw [if_neg e1, ← h]
  congr 1
  rw [← Array.foldl_toList]
  simp

theorem fillParts_rel {at_ : Nat → Option (Nat × List CT)} {place : Nat → Option (Nat × Nat)} (hap : ∀ i o cts, at_ i = some (o, cts) → place i = some (o, cts.length)) {C : List CT} (hC : ∀ i o cts, at_ i = some (o, cts) → o + cts.length ≤ C.length → (C.drop o).take cts.length = cts) :
    ∀ {ops : List (Nat × Operand)} {ps : List (Nat × List Cell)} {fq : List Nat}, PartsRel T w S a ops ps fq → ∀ {cs cs' : List Cell} {cur : List Value} {f0 : List Nat}, CellsRel T w S cs cur f0 → cs.any Cell.isGone = false → ctsOf cs = C → fillParts at_ cs ps = some cs' → (f0 ++ fq).Nodup →
    ∃ cur' f1, Instr.fill place cur.toArray (ops.map fun p => (p.1, a.eval p.2)) = some cur'.toArray ∧ CellsRel T w S cs' cur' f1 ∧ f1.Nodup ∧ (∀ b, b ∈ f1 → b ∈ f0 ∨ b ∈ fq) ∧ cs'.any Cell.isGone = false ∧ ctsOf cs' = C := by
  intro ops ps fq h
  induction h with
  | nil =>
    intro cs cs' cur f0 hc hg hct hf hn
    simp only [fillParts, Option.some.injEq] at hf
    subst hf
    exact ⟨cur, f0, rfl, hc, (List.nodup_append.1 hn).1, fun b hb => .inl hb, hg, hct⟩
  | @cons i x g ys vs fy fq' ops ps hv hl hy hyg _ ih =>
    intro cs cs' cur f0 hc hg hct hf hn
    simp only [fillParts] at hf
    obtain ⟨⟨off, cts⟩, h1, hf⟩ := Option.bind_eq_some_iff.1 hf
    obtain ⟨zs, h2, hf⟩ := Option.bind_eq_some_iff.1 hf
    dsimp only at h2 hf
    split at hf
    · rename_i hfit
      obtain ⟨hz, hzc, hzg, _⟩ := fitAll_rel hy hyg h2
      have hzl : zs.length = cts.length := by rw [← ctsOf_length, hzc]
      have hvl : vs.length = zs.length := hz.length
      obtain ⟨f1, f2, f3, hfe, c1, c2, c3⟩ := hc.sub off zs.length
      subst hfe
      have hsp := CellsRel.splice c1 hz c3
      have hctn : ctsOf (V.splice cs off zs) = C := by
        rw [ctsOf_splice, hct]
        have := hC i off cts h1 (by rw [← hct, ctsOf_length]; omega)
        rw [hzc]
        unfold ctsOf at hct ⊢
        rw [List.map_take, List.map_drop, hct, hzl, this]
      have hgn : (V.splice cs off zs).any Cell.isGone = false := by
        rw [List.any_eq_false] at hg hzg ⊢
        intro c hcm
        unfold V.splice at hcm
        simp only [List.mem_append] at hcm
        rcases hcm with (hcm | hcm) | hcm
        · exact hg c (List.mem_of_mem_take hcm)
        · exact hzg c hcm
        · exact hg c (List.mem_of_mem_drop hcm)
      have n0 := List.nodup_append.1 hn
      have n1 := List.nodup_append.1 n0.1
      have n2 := List.nodup_append.1 n1.1
      have n3 := List.nodup_append.1 n0.2.1
      have hnn : ((f1 ++ fy ++ f3) ++ fq').Nodup := by
        refine List.nodup_append.2 ⟨List.nodup_append.2 ⟨List.nodup_append.2 ⟨n2.1, n3.1, fun u hu v hv => n0.2.2 u (by simp [hu]) v (by simp [hv])⟩, n1.2.1, fun u hu v hv e => ?_⟩, n3.2.1, fun u hu v hv e => ?_⟩
        · rcases List.mem_append.1 hu with hu | hu
          · exact n1.2.2 u (by simp [hu]) v hv e
          · exact n0.2.2 v (by simp [hv]) u (by simp [hu]) e.symm
        · simp only [List.mem_append] at hu
          rcases hu with (hu | hu) | hu
          · exact n0.2.2 u (by simp [hu]) v (by simp [hv]) e
          · exact n3.2.2 u hu v hv e
          · exact n0.2.2 u (by simp [hu]) v (by simp [hv]) e
      obtain ⟨cur', f4, r1, r2, r3, r4, r5, r6⟩ := ih hsp hgn hctn hf hnn
      refine ⟨cur', f4, ?_, r2, r3, fun b hb => ?_, r5, r6⟩
      · rw [List.map_cons, fill_one (by rw [hap i off cts h1, hvl, hzl]) (by rw [hv]; exact mkv_cells (fun e => by rw [hy.length]; exact hl e) hy.one) (by rw [hc.length, hvl]; exact hfit)]
        exact r1
      · rcases r4 b hb with hb | hb
        · simp only [List.mem_append] at hb ⊢
          rcases hb with (hb | hb) | hb
          · exact .inl (.inl (.inl hb))
          · exact .inr (.inl hb)
          · exact .inl (.inr hb)
        · exact .inr (List.mem_append_right _ hb)
    · cases hf

theorem run_places' (hT : TabOk P T) : ∀ (l : List Field) (m : List (Nat × TypeId)), l.length = m.length → (∀ (j : Nat) (f : Field) (o : Nat) (e : TypeId), l[j]? = some f → m[j]? = some (o, e) → f.offset = o ∧ ∃ i, P.info? f.type = some i ∧ i.size = (T e).cts.length) →
    l.mapM (fun f => (P.info? f.type).map fun i => (f.offset, i.size)) = some (m.map fun p => (p.1, (T p.2).cts.length))
  | [], [], _, _ => rfl
  | f :: l, (o, e) :: m, hl, h => by
    obtain ⟨h1, i, h2, h3⟩ := h 0 f o e rfl rfl
    have ih := run_places' hT l m (by simpa using hl) fun j f o e hf he => h (j + 1) f o e (by simpa using hf) (by simpa using he)
    simp only [List.mapM_cons, h2, Option.map_some, ih, h1, h3]
    rfl
  | [], _ :: _, hl, _ => by cases hl
  | _ :: _, [], hl, _ => by cases hl

theorem op_build {ws : Ws} {t : TypeId} {parts : Array (Nat × Operand)} (hT : TabOk P T) (ho : o.op = .build t parts) (h : Rel T G base nt σ a w) (hd : ∀ d, o.dst = some d → d < nt)
    (he : (opR T o).ev D σ = some ws) (hK : ∀ a' w', Rel T G base nt (σ.setAll ws) a' w' → Bel base w w' → K a' w') : o.wp P a w K Q := by
  unfold opR at he
  simp only [ho, R.ev_bind] at he
  obtain ⟨fp, us, blk, hF⟩ := h
  obtain ⟨⟨cs, ws1⟩, h1, h2⟩ := Option.bind_eq_some_iff.1 he
  clear he
  unfold build at h1
  simp only [R.ev_bind] at h1
  obtain ⟨⟨ps, ws2, rs⟩, h3, h4⟩ := Option.bind_eq_some_iff.1 h1
  clear h1
  obtain ⟨fpx, fp', hR, hP, hn, _⟩ := takeParts_sound hF h3
  rw [List.append_nil] at hR hP
  dsimp only at h4
  split at h4
  · rename_i fs hkd
    obtain ⟨it, hit⟩ := hT t (by rw [hkd]; rfl)
    have hki := hit.kind
    rw [hkd] at hki
    obtain ⟨fields, hun, hsz, hfo⟩ := hki
    simp only [R.ev_bind, R.ev_opt] at h4
    obtain ⟨zs, h5, h6⟩ := Option.bind_eq_some_iff.1 h4
    obtain ⟨cs', h7, h8⟩ := Option.bind_eq_some_iff.1 h6
    simp only [R.ev_pure, Option.some.injEq, Prod.mk.injEq] at h8
    obtain ⟨rfl, rfl⟩ := h8
    obtain ⟨z0, h50, hz, hzc, hzg⟩ := zerosOf_rel (w := w) (S := Sh w fp' fpx) h5
    have hzero := hit.zero z0 h50
    have hfind : ∀ (i o : Nat) (cts : List CT), ((fs[i]?).map fun (p : Nat × TypeId) => (p.1, (T p.2).cts)) = some (o, cts) → ∃ e, fs[i]? = some (o, e) ∧ cts = (T e).cts := by
      intro i o cts hh
      obtain ⟨⟨o', e⟩, hq, hh⟩ := Option.map_eq_some_iff.1 hh
      simp only [Prod.mk.injEq] at hh
      obtain ⟨rfl, rfl⟩ := hh
      exact ⟨e, hq, rfl⟩
    obtain ⟨cur', f1, r1, r2, r3, r4, r5, _⟩ := fillParts_rel (C := (T t).cts) (place := fun i => (fs.map fun p => (p.1, (T p.2).cts.length))[i]?) (fun i o cts hh => by
        obtain ⟨e, hq, rfl⟩ := hfind i o cts hh
        simp [hq]) (fun i o cts hh _ => by
        obtain ⟨e, hq, rfl⟩ := hfind i o cts hh
        obtain ⟨f, _, _, _, q4, _⟩ := hfo i o e hq
        exact q4) hP hz hzg hzc h7 (by simpa using hn)
    have hbuilt : P.built t (parts.map fun (i, x) => (i, a.eval x)).toList = some cur'.toArray := by
      have hpl := run_places' (P := P) hT fields.toList fs (by simp [hsz]) (fun j f o e q1 q2 => by
        obtain ⟨f', q3, q4, q5, _, i, q6, q7⟩ := hfo j o e q2
        have : f' = f := by
          rw [← Array.getElem?_toList] at q3
          exact Option.some.inj (q3.symm.trans q1)
        subst this
        exact ⟨q4, i, by rw [q5]; exact q6, q7⟩)
      have hzc2 : (mkv (T t).kind.agg ((T t).cts.map zeroV)).cells = ((T t).cts.map zeroV).toArray := mkv_cells (by rw [hkd]; intro h; cases h) hz.one
      unfold Program.built
      simp only [hit.info, hun, hzero, hpl, hzc2]
      rw [← r1]
      simp
    refine wp_ok (v := mkv true cur') ?_ (hK _ _ (finish_val hR h2 hd r2 r3 (fun b hb => (r4 b hb).resolve_left (fun h => by cases h)) (fun h => by cases h)) (Bel.refl _ _))
    simp only [execOp, ho, Sem.run_bind, run_build w t _ _ hbuilt, Result.andThen_ok, Sem.run_pure, mkv, if_true]
  · simp at h4
/-! ### Rows built -/
theorem chunk_length {α : Type} (size : Nat) : ∀ (n : Nat) (l : List α), (chunk size n l).length = n
  | 0, _ => rfl
  | n + 1, l => by simp [chunk, chunk_length size n]
theorem chunk_getD {α : Type} (size : Nat) : ∀ (n : Nat) (l : List α) (i : Nat), i < n → (chunk size n l).getD i [] = (l.drop (i * size)).take size
  | 0, _, _, h => by cases h
  | n + 1, l, 0, _ => by simp [chunk]
  | n + 1, l, i + 1, h => by
    have := chunk_getD size n (l.drop size) i (by omega)
    simp only [chunk, List.getD_cons_succ, this, List.drop_drop]
    congr 2
    rw [Nat.add_mul, Nat.one_mul, Nat.add_comm]
theorem chunk_mem {α : Type} (size : Nat) : ∀ (n : Nat) (l : List α), l.length = n * size → ∀ x, x ∈ chunk size n l → x.length = size
  | 0, _, _, x, h => by cases h
  | n + 1, l, hl, x, h => by
    rw [Nat.add_mul, Nat.one_mul] at hl
    rcases List.mem_cons.1 h with rfl | h
    · rw [List.length_take]; omega
    · exact chunk_mem size n (l.drop size) (by rw [List.length_drop]; omega) x h

theorem div_lt_of {k n size : Nat} (h : k < n * size) : k / size < n := by
  rw [Nat.mul_comm] at h; exact Nat.div_lt_of_lt_mul h

theorem chunk_nth {size n : Nat} {l : List TC} {k : Nat} (hk : k < n * size) (hs : 0 < size) : nth ((chunk size n l).getD (k / size) []) (k % size) = nth l k := by
  rw [chunk_getD size n l _ (div_lt_of hk)]
  unfold nth
  rw [getD_take_drop _ _ _ _ _ (Nat.mod_lt _ hs)]
  congr 1
  have := Nat.div_add_mod k size
  rw [Nat.mul_comm] at this
  omega

theorem rep_getD {α : Type} (l : List α) (d : α) : ∀ (n k : Nat), k < n * l.length → ((List.replicate n l).flatten).getD k d = l.getD (k % l.length) d
  | 0, k, h => by rw [Nat.zero_mul] at h; omega
  | n + 1, k, h => by
    rw [List.replicate_succ, List.flatten_cons]
    simp only [List.getD_eq_getElem?_getD]
    by_cases hk : k < l.length
    · rw [List.getElem?_append_left hk, Nat.mod_eq_of_lt hk]
    · rw [List.getElem?_append_right (by omega)]
      have := rep_getD l d n (k - l.length) (by rw [Nat.add_mul, Nat.one_mul] at h; omega)
      simp only [List.getD_eq_getElem?_getD] at this
      rw [this]
      congr 2
      conv => rhs; rw [show k = k - l.length + l.length by omega, Nat.add_mod_right]

theorem rep_length {α : Type} (l : List α) (n : Nat) : ((List.replicate n l).flatten).length = n * l.length := by
  simp

theorem rep_cells {zs : List Cell} {vs : List Value} (h : CellsRel T w S zs vs []) : ∀ n, CellsRel T w S (List.replicate n zs).flatten (List.replicate n vs).flatten []
  | 0 => .nil
  | n + 1 => by
    rw [List.replicate_succ, List.replicate_succ, List.flatten_cons, List.flatten_cons]
    exact h.append (rep_cells h n)

theorem rep_made {zv : List Value} (n : Nat) (hz : 0 < zv.length) : ((Array.range (n * zv.length)).map fun k => zv.toArray[k % zv.length]!) = ((List.replicate n zv).flatten).toArray := by
  apply Array.ext
  · simp
  · intro k h1 h2
    have hk : k < n * zv.length := by simpa using h1
    have hm := Nat.mod_lt k hz
    have := rep_getD zv undef n k hk
    rw [List.getD_eq_getElem?_getD, List.getElem?_eq_getElem (by simpa using h2), List.getD_eq_getElem?_getD, List.getElem?_eq_getElem hm] at this
    simp only [Option.getD_some] at this
    simp only [Array.getElem_map, Array.getElem_range, List.getElem_toArray, this]
    simp [hm]

theorem own_of_cells {e : TypeId} {g n cap : Nat} {cs : List Cell} {vs cur : List Value} {fq : List Nat} (hb : Blk w g cur e) (hc : CellsRel T w S cs vs fq) (hg : cs.any Cell.isGone = false) (hcur : ∀ k, k < n * (T e).cts.length → cur.getD k undef = vs.getD k undef) (hncap : n ≤ cap) (hcl : cur.length = cap * (T e).cts.length) (ho : ∀ u, u ∈ cur → u.oneCell' = true)
    (hn : cap ≤ maxLen) (hs : 0 < (T e).cts.length) (hl : cs.length = n * (T e).cts.length) (hct : ∀ k, k < n * (T e).cts.length → (ctsOf cs).getD k .bool = (T e).cts.getD (k % (T e).cts.length) .bool) :
    (cs.all Cell.deep = true → OwnC T w (.slice e) (.slice (some ⟨g, 0, none⟩) n cap) (.l (chunk (T e).cts.length n (rawRow cs))) (g :: fq)) ∧
    ∀ S' : Nat → Prop, (∀ b, S b → S' b) → (∀ b, b ∈ fq → S' b) → OwnT T w S' (.slice e) (.slice (some ⟨g, 0, none⟩) n cap) (.l (chunk (T e).cts.length n (rawRow cs))) [g] := by
  obtain ⟨fqs, q1, q2⟩ := cellsRel_fps hc
  have hcll := chunk_length (T e).cts.length n (rawRow cs)
  have hrl : (rawRow cs).length = n * (T e).cts.length := by simp [rawRow, hl]
  have hcell : ∀ k (hk : k < cs.length), (ctsOf cs).getD k .bool = (cs[k]).ct ∧ nth ((chunk (T e).cts.length n (rawRow cs)).getD (k / (T e).cts.length) []) (k % (T e).cts.length) = (cs[k]).c := by
    intro k hk
    refine ⟨by simp [ctsOf, List.getD_eq_getElem?_getD, List.getElem?_eq_getElem hk], ?_⟩
    rw [chunk_nth (by rw [← hl]; exact hk) hs, nth_rawRow hk]
  have hgn : ∀ k (hk : k < cs.length), (cs[k]).isGone = false := fun k hk => by
    rw [List.any_eq_false] at hg; simpa using hg _ (List.getElem_mem hk)
  constructor
  · intro hd
    have key := OwnC.slice (T := T) (w := w) e g (chunk (T e).cts.length n (rawRow cs)) cap cur fqs (by rw [hcll]; exact hncap) hn (chunk_mem _ n _ hrl) hb hcl ho (fun k hk => by
      rw [hcll] at hk
      have hk' : k < cs.length := by rw [hl]; exact hk
      obtain ⟨e1, e2⟩ := hcell k hk'
      rw [← hct k hk, e1, e2, hcur k hk]
      rw [List.all_eq_true] at hd
      exact (q1 k hk').ofDeep (hd _ (List.getElem_mem hk')) (hgn k hk'))
    rw [hcll, ← hl, ← q2] at key
    exact key
  · intro S' hS hx
    have key := OwnT.slice (T := T) (w := w) (S := S') e g (chunk (T e).cts.length n (rawRow cs)) cap cur (by rw [hcll]; exact hncap) hn (chunk_mem _ n _ hrl) hb hcl ho (fun k hk => by
      rw [hcll] at hk
      have hk' : k < cs.length := by rw [hl]; exact hk
      obtain ⟨e1, e2⟩ := hcell k hk'
      rw [← hct k hk, e1, e2, hcur k hk]
      exact (q1 k hk').toRep (hgn k hk') (fun b hb => hx b (by rw [q2]; exact List.mem_flatMap.2 ⟨k, List.mem_range.2 hk', hb⟩)) hS)
    rw [hcll] at key
    exact key

theorem finish_newrow {ws ws' : Ws} {dst : Option Tmp} {e : TypeId} {cs : List Cell} {vs : List Value} {fpx : List Nat} {n : Nat} (h : RelF T G base nt (σ.setAll ws) a w fpx fp us blk) (hp : (put dst (.val false [⟨.slice e, .own (cs.all Cell.deep), .l (chunk (T e).cts.length n (rawRow cs))⟩]) ws).ev D σ = some ws') (hd : ∀ d, dst = some d → d < nt)
    {fq : List Nat} (hc : CellsRel T w (Sh w fp fpx) cs vs fq) (hg : cs.any Cell.isGone = false) (hq : ∀ b, b ∈ fq → b ∈ fpx) (hnq : fq.Nodup) (hn : n ≤ maxLen) (hs : 0 < (T e).cts.length) (hl : cs.length = n * (T e).cts.length)
    (hct : ∀ k, k < n * (T e).cts.length → (ctsOf cs).getD k .bool = (T e).cts.getD (k % (T e).cts.length) .bool) :
    Rel T G base nt (σ.setAll ws') (a.put dst (.slice (some ⟨w.heap.size, 0, none⟩) n n)) (w.alloc (.cells vs.toArray e)) := by
  have hch := Chg.alloc w (.cells vs.toArray e) []
  have h2 := h.chg hch (fun _ h => by cases h) [w.heap.size] (fun b hb => by rw [List.mem_singleton.1 hb, size_alloc]; omega) (by simp)
  have hSn : ∀ b, Sh w fp fpx b → Sh (w.alloc (.cells vs.toArray e)) fp (fpx ++ [w.heap.size]) b := fun b hb => by
    refine ⟨by rw [size_alloc]; have := hb.1; omega, hb.2.1, fun hm => ?_⟩
    rcases List.mem_append.1 hm with hm | hm
    · exact hb.2.2 hm
    · have := hb.1; rw [List.mem_singleton.1 hm] at this; omega
  have hc2 := hc.chg (S' := Sh (w.alloc (.cells vs.toArray e)) fp (fpx ++ [w.heap.size])) hch (fun _ _ h => by cases h) (fun _ _ h => by cases h) hSn
  have hvl : vs.length = n * (T e).cts.length := by rw [hc.length, hl]
  have hown := own_of_cells (cap := n) (n := n) (Blk.alloc w vs e) hc2 hg (fun _ _ => rfl) (Nat.le_refl _) hvl hc.one hn hs hl hct
  have hgn : w.heap.size ∉ fpx := fun hm => by have := h.ltF _ hm; omega
  cases hdp : cs.all Cell.deep with
  | true =>
    rw [hdp] at hp
    have hcr := CellsRel.cons (T := T) (S := Sh (w.alloc (.cells vs.toArray e)) fp (fpx ++ [w.heap.size])) (c := ⟨.slice e, .own true, .l (chunk (T e).cts.length n (rawRow cs))⟩) (hown.1 hdp) .nil
    exact finish_val (usn := [_]) h2 hp hd hcr (by rw [List.append_nil]; exact List.nodup_cons.2 ⟨fun hm => hgn (hq _ hm), hnq⟩) (fun b hb => by
      rw [List.append_nil] at hb
      rcases List.mem_cons.1 hb with rfl | hb
      · simp
      · exact List.mem_append_left _ (hq b hb)) (fun _ => rfl)
  | false =>
    rw [hdp] at hp
    have h3 := h2.drop (F' := [w.heap.size]) (fun b hb => List.mem_append_right _ hb) (by simp)
    have hS3 : ∀ b, Sh (w.alloc (.cells vs.toArray e)) fp (fpx ++ [w.heap.size]) b → Sh (w.alloc (.cells vs.toArray e)) fp [w.heap.size] b := fun b hb => ⟨hb.1, hb.2.1, fun hm => hb.2.2 (List.mem_append_right _ hm)⟩
    have hx3 : ∀ b, b ∈ fq → Sh (w.alloc (.cells vs.toArray e)) fp [w.heap.size] b := fun b hb => by
      have := h.ltF _ (hq b hb)
      exact ⟨by rw [size_alloc]; omega, fun m hm => h.dF m b hm (hq b hb), fun hm => by rw [List.mem_singleton.1 hm] at this; omega⟩
    have hcr := CellsRel.cons (T := T) (S := Sh (w.alloc (.cells vs.toArray e)) fp [w.heap.size]) (c := ⟨.slice e, .own false, .l (chunk (T e).cts.length n (rawRow cs))⟩) (hown.2 _ hS3 hx3) .nil
    exact finish_val (usn := [_]) h3 hp hd hcr (by simp) (fun b hb => by simpa using hb) (fun _ => rfl)

theorem range0_map (z : Nat → Value) : (Array.range 0).map z = #[] := by simp [Array.range]

theorem run_buildSlice0 (w : World) (t e : TypeId) (parts : Array (Nat × Value)) (cells : Array Value) (ie : TypeInfo)
    (hu : P.underlying t = some (.slice e)) (hie : P.info? e = some ie)
    (h : Instr.fill (fun i => some (i * ie.size, ie.size)) #[] parts.toList = some cells) :
    (Instr.buildSlice t 0 parts).run P w = .ok (.slice (some ⟨w.heap.size, 0, none⟩) 0 0) (w.alloc (.cells cells e)) := by
  have h1 : Instr.fill (fun i => some (i * ie.size, ie.size)) ((Array.range 0).map fun _ => (default : Value)) parts.toList = some cells := by rw [range0_map]; exact h
  simp [Instr.buildSlice, run_underlying hu, sizeOf, typeInfo, hie, newRow, h1]

theorem op_buildSlice {ws : Ws} {t : TypeId} {len : Nat} {parts : Array (Nat × Operand)} (hT : TabOk P T) (ho : o.op = .buildSlice t len parts) (h : Rel T G base nt σ a w) (hd : ∀ d, o.dst = some d → d < nt)
    (he : (opR T o).ev D σ = some ws) (hK : ∀ a' w', Rel T G base nt (σ.setAll ws) a' w' → Bel base w w' → K a' w') : o.wp P a w K Q := by
  unfold opR at he
  simp only [ho, R.ev_bind] at he
  obtain ⟨fp, us, blk, hF⟩ := h
  obtain ⟨⟨c, ws1⟩, h1, h2⟩ := Option.bind_eq_some_iff.1 he
  clear he
  unfold buildSlice at h1
  simp only [R.ev_bind] at h1
  obtain ⟨⟨ps, ws2, rs⟩, h3, h4⟩ := Option.bind_eq_some_iff.1 h1
  clear h1
  obtain ⟨fpx, fp', hR, hP, hn, _⟩ := takeParts_sound hF h3
  rw [List.append_nil] at hR hP
  dsimp only at h4
  split at h4
  · rename_i e hkd
    obtain ⟨it, hit⟩ := hT t (by rw [hkd]; rfl)
    have hki := hit.kind
    rw [hkd] at hki
    split at h4
    · simp at h4
    · rename_i hoe
      have hoe' : (T e).kind.isOther = false := by simpa using hoe
      obtain ⟨ie, hie⟩ := hT e hoe'
      simp only [R.ev_bind, R.ev_opt] at h4
      obtain ⟨zs, h5, h6⟩ := Option.bind_eq_some_iff.1 h4
      obtain ⟨cs', h7, h8⟩ := Option.bind_eq_some_iff.1 h6
      clear h4 h6
      split at h8
      · rename_i hsm
        simp only [R.ev_pure, Option.some.injEq, Prod.mk.injEq] at h8
        obtain ⟨rfl, rfl⟩ := h8
        obtain ⟨hz, hzc, _, hzg⟩ := zeroCells_rel (T := T) (w := w) (S := Sh w fp' fpx) h5
        have hzero := hie.zero zs h5
        have hpos : 0 < (T e).cts.length := List.length_pos_iff.2 hsm.2
        have hzl : zs.length = (T e).cts.length := by rw [← ctsOf_length, hzc]
        have hC0 : ctsOf (List.replicate len zs).flatten = (List.replicate len (T e).cts).flatten := by
          unfold ctsOf
          rw [List.map_flatten, List.map_replicate]
          have : zs.map (·.ct) = (T e).cts := hzc
          rw [this]
        obtain ⟨cur', f1, r1, r2, r3, r4, r5, r6⟩ := fillParts_rel (C := (List.replicate len (T e).cts).flatten) (place := fun i => some (i * (T e).cts.length, (T e).cts.length)) (fun i o cts hh => by
            simp only [Option.some.injEq, Prod.mk.injEq] at hh
            obtain ⟨rfl, rfl⟩ := hh
            rfl) (fun i o cts hh hb => by
            simp only [Option.some.injEq, Prod.mk.injEq] at hh
            obtain ⟨rfl, rfl⟩ := hh
            rw [rep_length] at hb
            apply List.ext_getElem
            · rw [List.length_take, List.length_drop, rep_length]; omega
            · intro k h1 h2
              have hk : i * (T e).cts.length + k < len * (T e).cts.length := by omega
              have := rep_getD (T e).cts .bool len (i * (T e).cts.length + k) hk
              rw [(idx_arith (i := i) h2).1] at this
              rw [List.getD_eq_getElem?_getD, List.getD_eq_getElem?_getD, List.getElem?_eq_getElem h2, List.getElem?_eq_getElem (by rw [rep_length]; exact hk)] at this
              simpa using this) hP (rep_cells hz len) (by
            rw [List.any_eq_false] at hzg ⊢
            intro c hc
            obtain ⟨l, hl, hc⟩ := List.mem_flatten.1 hc
            rw [List.eq_of_mem_replicate hl] at hc
            exact hzg c hc) hC0 h7 (by simpa using hn)
        have hcl : cs'.length = len * (T e).cts.length := by rw [← ctsOf_length, r6, rep_length]
        have hcv : (mkv (T e).kind.agg ((T e).cts.map zeroV)).cells = ((T e).cts.map zeroV).toArray := mkv_cells (fun h => by rw [List.length_map]; exact agg_cts hT hoe' h) hz.one
        have hmade := rep_made (zv := (T e).cts.map zeroV) len (by rw [List.length_map]; exact hpos)
        rw [List.length_map] at hmade
        have hfill : Instr.fill (fun i => some (i * ie.size, ie.size)) ((Array.range (len * ie.size)).map ((mkv (T e).kind.agg ((T e).cts.map zeroV)).cells[· % (mkv (T e).kind.agg ((T e).cts.map zeroV)).cells.size]!)) (parts.map fun (i, x) => (i, a.eval x)).toList = some cur'.toArray := by
          rw [hie.size, hcv]
          simp only [List.size_toArray, List.length_map]
          rw [hmade, ← r1]
          simp
        have hml : len ≤ maxLen := by
          have := Nat.le_mul_of_pos_right len hpos
          have := hsm.1
          simp only [maxLen]; omega
        have hrun : (Instr.buildSlice t len (parts.map fun (i, x) => (i, a.eval x))).run P w = .ok (.slice (some ⟨w.heap.size, 0, none⟩) len len) (w.alloc (.cells cur'.toArray e)) := by
          generalize (parts.map fun (i, x) => (i, a.eval x)) = pv at hfill ⊢
          have hs1 : ¬ len * ie.size > 2 ^ 24 := by
            rw [hie.size]
            have h24 : (2 : Nat) ^ 24 = 16777216 := by decide
            rw [h24]
            exact Nat.not_lt.2 hsm.1
          by_cases hlen : len * ie.size = 0
          · have hl0 : len = 0 := by
              rw [hie.size] at hlen
              rcases Nat.mul_eq_zero.1 hlen with h | h
              · exact h
              · omega
            subst hl0
            rw [show (0 * ie.size) = 0 from Nat.zero_mul _, range0_map] at hfill
            exact run_buildSlice0 w t e pv cur'.toArray ie hki.1 hie.info hfill
          · exact run_buildSlice (P := P) w t e len pv cur'.toArray ie _ hki.1 hie.info hzero hs1 hlen hfill
        refine wp_ok (v := .slice (some ⟨w.heap.size, 0, none⟩) len len) ?_ (hK _ _ (finish_newrow hR h2 hd r2 r5 (fun b hb => (r4 b hb).resolve_left (fun h => by cases h)) r3 hml hpos hcl fun k hk => by rw [r6]; exact rep_getD _ _ _ _ hk) ((Chg.alloc w _ []).bel fun _ h => by cases h))
        simp only [execOp, ho, Sem.run_bind, hrun, Result.andThen_ok, Sem.run_pure]
      · simp at h8
  · simp at h4
end

end Go.Proofs.Ytabdjbkbfilhkaa.V
