import Derived.Test.YtabdjbkbfilhkaaV8
namespace Go.Proofs.Ytabdjbkbfilhkaa.V
open Go Go.RowKit

section
variable {P : Program} {T : Tab} {G : Nat → Prop} {base : Bs} {nt : Nat} {σ : St} {a : Act} {w w' : World} {F : List Nat} {fp : Nat → List Nat} {us : Nat → List Value} {blk : Nat → Nat} {D : FuncId → List Arg → Option (Bool × Res)}
  {K : Act → World → Prop} {Q : Exit → Act → World → Prop} {o : Oper} {S S' : Nat → Prop}

theorem CellRel.chg {c : Cell} {u : Value} {fq gs : List Nat} (h : CellRel T w S c u fq) (hc : Chg w w' gs) (h1 : ∀ b, b ∈ fq → b ∉ gs) (h2 : ∀ b, S b → b ∉ gs) (h3 : ∀ b, S b → S' b) : CellRel T w' S' c u fq :=
  h.same (fun b hb => hc.block b (h.lt b hb) (h1 b hb)) h3 (fun _ _ ha hv => hc.cell hv (h2 _ ha))
theorem CellsRel.chg {cs : List Cell} {vs : List Value} {fq gs : List Nat} (h : CellsRel T w S cs vs fq) (hc : Chg w w' gs) (h1 : ∀ b, b ∈ fq → b ∉ gs) (h2 : ∀ b, S b → b ∉ gs) (h3 : ∀ b, S b → S' b) : CellsRel T w' S' cs vs fq :=
  h.same (fun b hb => hc.block b (h.lt b hb) (h1 b hb)) h3 (fun _ _ ha hv => hc.cell hv (h2 _ ha))

theorem RelF.reW (h : RelF T G base nt σ a w F fp us blk) {gs : List Nat} (hc : Chg w w' gs) (d : Nat) (hsd : (σ d).sv ≠ .dead) (hgs : ∀ g, g ∈ gs → g ∈ fp d ∨ g ∈ F) (sv : SV) (v : Ver) (fpd : List Nat) (usd : List Value) (F2 : List Nat)
    (hv : ((σ d).v.w < v.w ∨ (v.w = (σ d).v.w ∧ (σ d).v.c < v.c)) ∨ (v = (σ d).v ∧ usd = us d)) (hn : fpd.Nodup) (hn2 : F2.Nodup) (hpart : ∀ b, b ∈ fpd ∨ b ∈ F2 → b ∈ fp d ∨ b ∈ F) (hdis : ∀ b, b ∈ fpd → b ∉ F2) (hgh : d = gh → usd = us d ∧ sv.ghost = true)
    (hs : (∀ b, Sh w fp F b → Sh w' (upd fp d fpd) F2 b) → SlotRel T w' (Sh w' (upd fp d fpd) F2) (upd (fun n => (σ n).v) d v) (upd us d usd) blk d (a.tmps.getD d undef) fpd sv) :
    RelF T G base nt (σ.set d ⟨sv, v⟩) a w' F2 (upd fp d fpd) (upd us d usd) blk := by
  have hSh : ∀ b, Sh w fp F b → Sh w' (upd fp d fpd) F2 b := fun b hb => by
    refine ⟨Nat.lt_of_lt_of_le hb.1 hc.size, fun n hm => ?_, fun hm => (hpart b (.inr hm)).elim (hb.2.1 d) hb.2.2⟩
    by_cases e : n = d
    · subst e; rw [upd_at] at hm; exact (hpart b (.inl hm)).elim (hb.2.1 n) hb.2.2
    · rw [upd_ne _ _ e] at hm; exact hb.2.1 n hm
  have hSg : ∀ b, Sh w fp F b → b ∉ gs := fun b hb hm => (hgs b hm).elim (hb.2.1 d) hb.2.2
  have hvers : (fun n => ((σ.set d ⟨sv, v⟩) n).v) = upd (fun n => (σ n).v) d v := by
    funext n
    by_cases e : n = d
    · subst e; rw [St.set_at, upd_at]
    · rw [St.set_ne _ _ e, upd_ne _ _ e]
  refine ⟨fun n => ?_, fun m n hmn b hb hb' => ?_, fun n b hb hm => ?_, fun n => ?_, fun n b hsv hb => ?_, fun b hb hn => h.low b hb fun n hm => by
      by_cases e : n = d
      · subst e; exact absurd (h.lo n b (.inl hsd) hm) hb
      · exact hn n (by rw [upd_ne _ _ e]; exact hm), fun b hb => (hpart b (.inr hb)).elim (h.lo d b (.inl hsd)) (h.loF b),
    fun b hb => Nat.lt_of_lt_of_le ((hpart b (.inr hb)).elim (h.lt d b) (h.ltF b)) hc.size, hn2, fun b hb => h.top b (Nat.le_trans hc.size hb), (upd_gh fun e => (hgh e).1).trans h.gus, set_gh h.gsv fun e => (hgh e).2, h.gnt, h.size, h.defers, h.off, h.int.chg hc fun g k hx => h.off g k ((hgs g hx).elim (h.lo d g (.inl hsd)) (h.loF g))⟩
  · rw [hvers]
    by_cases e : n = d
    · subst e
      rw [St.set_at, upd_at]
      exact hs hSh
    · rw [St.set_ne _ _ e, upd_ne _ _ e]
      have h1 := (h.slot n).same (w' := w') (fun b hb => hc.block b (h.lt n b hb) fun hm => (hgs b hm).elim (h.disj n d e b hb) (h.dF n b hb)) hSh (fun _ _ ha hv => hc.cell hv (hSg _ ha))
      rcases hv with hv | ⟨hv1, hv2⟩
      · exact h1.other e (fun m hm => upd_ne _ _ hm) (by rw [upd_at]; exact hv.imp id fun hq => ⟨hq.1, hq.2, rfl⟩) (fun m hm => upd_ne _ _ hm) (fun m hm => rfl) (upd_gh fun e => (hgh e).1)
      · have e1 : upd (fun n => (σ n).v) d v = fun n => (σ n).v := by funext m; unfold upd; split <;> simp_all
        have e2 : upd us d usd = us := by funext m; unfold upd; split <;> simp_all
        rw [e1, e2]; exact h1
  · by_cases e : m = d
    · subst e
      rw [upd_at] at hb
      rw [upd_ne _ _ (Ne.symm hmn)] at hb'
      exact (hpart b (.inl hb)).elim (fun hx => h.disj m n hmn b hx hb') (h.dF n b hb')
    · rw [upd_ne _ _ e] at hb
      by_cases e' : n = d
      · subst e'; rw [upd_at] at hb'; exact (hpart b (.inl hb')).elim (h.disj m n hmn b hb) (h.dF m b hb)
      · rw [upd_ne _ _ e'] at hb'; exact h.disj m n hmn b hb hb'
  · by_cases e : n = d
    · subst e; rw [upd_at] at hb; exact hdis b hb hm
    · rw [upd_ne _ _ e] at hb; exact (hpart b (.inr hm)).elim (h.disj n d e b hb) (h.dF n b hb)
  · by_cases e : n = d
    · subst e; rw [upd_at]; exact hn
    · rw [upd_ne _ _ e]; exact h.nodup n
  · by_cases e : n = d
    · subst e; rw [upd_at] at hb; exact (hpart b (.inl hb)).elim (h.lo n b (.inl hsd)) (h.loF b)
    · rw [upd_ne _ _ e] at hb; rw [St.set_ne _ _ e] at hsv; exact h.lo n b hsv hb

theorem fit_rel {ct : CT} {c d : Cell} {u : Value} {fq : List Nat} (h : CellRel T w S c u fq) (hg : c.isGone = false) (hf : fit ct c = some d) : CellRel T w S d u fq ∧ d.ct = ct ∧ d.isGone = false ∧ (c.deep = true → d.deep = true) := by
  unfold fit at hf
  by_cases e : c.ct = ct
  · rw [if_pos e] at hf; cases hf; exact ⟨h, e, hg, id⟩
  · rw [if_neg e] at hf
    cases hct : c.ct <;> cases ct <;> rw [hct] at hf <;> first | (cases hf; done) | skip
    rename_i e'
    cases hf
    refine ⟨?_, rfl, rfl, fun _ => rfl⟩
    have hr := h.toRep (S' := fun _ => True) hg (fun _ _ => trivial) (fun _ _ => trivial)
    rw [hct] at hr
    have hu : u = .slice none 0 0 := by
      generalize c.c = cc at hr
      cases hr; rfl
    have hfq : fq = [] := by
      unfold CellRel at h
      split at h
      · exact h.2
      · rw [hct] at h; generalize c.c = cc at h; cases h <;> rfl
      · rw [hct] at h; generalize c.c = cc at h; cases h <;> rfl
      · exact h.2
    subst hu hfq
    exact OwnC.nil e'

theorem fitAll_rel : ∀ {cts : List CT} {cs ds : List Cell} {vs : List Value} {fq : List Nat}, CellsRel T w S cs vs fq → cs.any Cell.isGone = false → fitAll cts cs = some ds →
    CellsRel T w S ds vs fq ∧ ctsOf ds = cts ∧ ds.any Cell.isGone = false ∧ (cs.all Cell.deep = true → ds.all Cell.deep = true)
  | [], [], ds, vs, fq, h, _, hf => by cases hf; exact ⟨h, rfl, rfl, fun _ => rfl⟩
  | ct :: cts, c :: cs, ds, vs, fq, h, hg, hf => by
    simp only [fitAll] at hf
    obtain ⟨d, hd, hf⟩ := Option.bind_eq_some_iff.1 hf
    obtain ⟨ds', hds, rfl⟩ := Option.map_eq_some_iff.1 hf
    simp only [List.any_cons, Bool.or_eq_false_iff] at hg
    cases h with
    | cons h1 h2 =>
      obtain ⟨a1, a2, a3, a4⟩ := fit_rel h1 hg.1 hd
      obtain ⟨b1, b2, b3, b4⟩ := fitAll_rel h2 hg.2 hds
      refine ⟨.cons a1 b1, by simp only [ctsOf, List.map_cons, a2] at b2 ⊢; rw [b2], by simp [a3, b3], fun hd => ?_⟩
      simp only [List.all_cons, Bool.and_eq_true] at hd ⊢
      exact ⟨a4 hd.1, b4 hd.2⟩
  | [], _ :: _, _, _, _, _, _, hf => by cases hf
  | _ :: _, [], _, _, _, _, _, hf => by cases hf

theorem run_storeVar (hT : TabOk P T) {t : TypeId} (ho : (T t).kind.isOther = false) {g off : Nat} {e : TypeId} {cur vs : List Value} {gg : Bool} (hg : gg = false → vs.length = 1) (h1 : ∀ u, u ∈ vs → u.oneCell' = true) (hl : vs.length = (T t).cts.length)
    (hb : Blk w g cur e) (hf : off + vs.length ≤ cur.length) :
    ∃ w', (Instr.storeAt t (.pointer (some ⟨g, off, none⟩)) (mkv gg vs)).run P w = .ok () w' ∧ Blk w' g (splice cur off vs) e ∧ Chg w w' [g] := by
  obtain ⟨w', hr, hb', hc, _⟩ := run_storeCells_blk P g e vs off 0 cur w hb (by omega) h1
  rw [Nat.add_zero] at hb'
  refine ⟨w', ?_, hb', hc⟩
  have hcl := mkv_cells hg h1
  simp [Instr.storeAt, Instr.sureAddr, storeVar, sizeOf_run hT ho w, hcl, hl, hr]

theorem wp_skip_op {w' : World} (hr : (execOp a.eval o).run P w = .ok .skip w') (hd : o.dst = none) (hk : K a w') : o.wp P a w K Q := by
  unfold Oper.wp; rw [hr]; show K (a.put o.dst undef) w'; rw [hd]; exact hk

theorem CellsRel.splice {cs ys : List Cell} {vs xs : List Value} {f1 f2 f3 : List Nat} {off : Nat} (h1 : CellsRel T w S (cs.take off) (vs.take off) f1) (h2 : CellsRel T w S ys xs f2) (h3 : CellsRel T w S ((cs.drop off).drop ys.length) ((vs.drop off).drop ys.length) f3) :
    CellsRel T w S (V.splice cs off ys) (V.splice vs off xs) (f1 ++ f2 ++ f3) := by
  unfold V.splice
  rw [h2.length, ← List.drop_drop, ← List.drop_drop]
  exact (h1.append h2).append h3

theorem ctsOf_splice {cs ys : List Cell} {off : Nat} (h : ctsOf ((cs.drop off).take ys.length) = ctsOf ys) : ctsOf (V.splice cs off ys) = ctsOf cs := by
  unfold V.splice
  unfold ctsOf at h ⊢
  rw [List.map_append, List.map_append, ← h, ← List.map_append, ← List.map_append, ← List.drop_drop, List.append_assoc, List.take_append_drop, List.take_append_drop]

theorem store_box {ws ws1 : Ws} {t : TypeId} {addr x : Operand} {g : Bool} {ys zs : List Cell} {hh off : Nat} {e : TypeId} {cs : List Cell} {v : Ver} (hT : TabOk P T) (hko : (T t).kind.isOther = false) (hcn : (T t).cts ≠ []) (ho : o.op = .store t addr x) (hdn : o.dst = none)
    (hF : RelF T G base nt σ a w [] fp us blk) (ht : (take x).ev D σ = some (g, ys, ws1)) (hfit : fitAll (T t).cts ys = some zs) (hpl : a.eval addr = .pointer (some ⟨blk hh, off, none⟩)) (hne : ∀ p, p ∈ ws1 → p.1 ≠ hh)
    (hb : (boxAt hh).ev D σ = some (e, cs, v)) (hct : ctsOf ((cs.drop off).take zs.length) = (T t).cts) (hws : ws = ws1 ++ [(hh, ⟨.bx e (V.splice cs off zs), ⟨v.w, v.c + 1⟩⟩)])
    (hK : ∀ a' w', Rel T G base nt (σ.setAll ws) a' w' → Bel base w w' → K a' w') : o.wp P a w K Q := by
  obtain ⟨vs, fpx, fp', hR, hv, hc, hg, hl, hn, hSS, hfp⟩ := take_sound hF ht
  rw [List.append_nil] at hR hc
  obtain ⟨hz, hzc, hzg, _⟩ := fitAll_rel hc hg hfit
  obtain ⟨hsv, rfl⟩ := boxAt_ev hb
  have hσ := setAll_other σ ws1 hh hne
  have hs := hR.slot hh
  rw [hσ, hsv] at hs
  obtain ⟨hp, hbk, ⟨fq, hfq, hcr⟩, hty⟩ := hs
  have hzl : zs.length = (T t).cts.length := by rw [← ctsOf_length, hzc]
  have hvl : vs.length = zs.length := hz.length
  have hfits : off + vs.length ≤ (us hh).length := by
    have := congrArg List.length hct
    rw [ctsOf_length, List.length_take, List.length_drop] at this
    rw [hcr.length]
    have : zs.length ≠ 0 := by rw [hzl]; exact fun e => hcn (List.eq_nil_of_length_eq_zero e)
    omega
  obtain ⟨w', hr, hb', hch⟩ := run_storeVar (P := P) hT hko (gg := g) (by intro e; rw [hc.length]; exact hl e) hc.one (by rw [hvl, hzl]) hbk hfits
  obtain ⟨f1, f2, f3, hf, c1, c2, c3⟩ := hcr.sub off zs.length
  have hnd := hR.nodup hh
  rw [hfq, hf] at hnd
  have hndb := List.nodup_cons.1 hnd
  have hnd' := List.nodup_append.1 hndb.2
  have hnd'' := List.nodup_append.1 hnd'.1
  have hbh : blk hh ∈ fp' hh := by rw [hfq]; exact List.mem_cons_self
  have hdj : ∀ b, b ∈ fpx → b ∉ fp' hh := fun b hb hm => hR.dF hh b hm hb
  have hnew := hR.reW hch hh (by rw [hσ, hsv]; exact SV.noConfusion) (fun g hg => by rw [List.mem_singleton.1 hg]; exact .inl hbh) (.bx e (V.splice cs off zs)) ⟨(σ hh).v.w, (σ hh).v.c + 1⟩ (blk hh :: (f1 ++ fpx ++ f3)) (V.splice (us hh) off vs) []
    (.inl (.inr (by rw [hσ]; exact ⟨rfl, by simp⟩)))
    (List.nodup_cons.2 ⟨fun hm => by
      simp only [List.mem_append] at hm
      rcases hm with (hm | hm) | hm
      · exact hndb.1 (by simp [hm])
      · exact hdj _ hm hbh
      · exact hndb.1 (by simp [hm]),
     List.nodup_append.2 ⟨List.nodup_append.2 ⟨hnd''.1, hn, fun x hx y hy e => hdj y hy (by rw [← e, hfq, hf]; simp [hx])⟩, hnd'.2.1, fun x hx y hy e => by
      rcases List.mem_append.1 hx with hx | hx
      · exact hnd'.2.2 x (by simp [hx]) y hy e
      · exact hdj x hx (by rw [e, hfq, hf]; simp [hy])⟩⟩) .nil
    (fun b hb => by
      rcases hb with hb | hb
      · simp only [List.mem_cons, List.mem_append] at hb
        rcases hb with hb | (hb | hb) | hb
        · exact .inl (hb ▸ hbh)
        · exact .inl (by rw [hfq, hf]; simp [hb])
        · exact .inr hb
        · exact .inl (by rw [hfq, hf]; simp [hb])
      · cases hb) (fun _ _ h => by cases h) (fun e => absurd e (hR.ngh (by rw [hσ, hsv]; rfl)))
    (fun hSh => by
      have hSb : ∀ b, Sh w fp' fpx b → b ∉ [blk hh] := fun b hb hm => by rw [List.mem_singleton.1 hm] at hb; exact hb.2.1 hh hbh
      have hcc := CellsRel.splice c1 hz c3
      have hcc' := hcc.chg hch (fun b hb hm => by
        rw [List.mem_singleton.1 hm] at hb
        simp only [List.mem_append] at hb
        rcases hb with (hb | hb) | hb
        · exact hndb.1 (by simp [hb])
        · exact hdj _ hb hbh
        · exact hndb.1 (by simp [hb])) hSb hSh
      refine ⟨hp, by rw [upd_at]; exact hb', ⟨_, rfl, by rw [upd_at]; exact hcc'⟩, ?_⟩
      rw [ctsOf_splice (by rw [hct, hzc]), hty])
  refine wp_skip_op (w' := w') ?_ hdn (hK _ _ ?_ (hch.bel fun g hg => by rw [List.mem_singleton.1 hg]; exact hR.lo hh _ (.inl (by rw [hσ, hsv]; exact SV.noConfusion)) hbh))
  · simp only [execOp, ho, Sem.run_bind, hpl, hv, hr, Result.andThen_ok, Sem.run_pure]
  · rw [hws, setAll_append]
    exact hnew.toRel
theorem nodup_flat {f : Nat → List Nat} : ∀ {n : Nat}, ((List.range n).flatMap f).Nodup ↔ (∀ k, k < n → (f k).Nodup) ∧ ∀ i j, i < n → j < n → i ≠ j → ∀ b, b ∈ f i → b ∉ f j
  | 0 => by simp
  | n + 1 => by
    rw [List.range_succ, List.flatMap_append, List.nodup_append, nodup_flat (n := n)]
    simp only [List.flatMap_cons, List.flatMap_nil, List.append_nil, List.mem_flatMap, List.mem_range]
    constructor
    · rintro ⟨⟨h1, h2⟩, h3, h4⟩
      refine ⟨fun k hk => ?_, fun i j hi hj hij b hb hb' => ?_⟩
      · by_cases e : k = n
        · subst e; exact h3
        · exact h1 k (by omega)
      · by_cases e : i = n
        · subst e; exact h4 b ⟨j, by omega, hb'⟩ b hb rfl
        · by_cases e' : j = n
          · subst e'; exact h4 b ⟨i, by omega, hb⟩ b hb' rfl
          · exact h2 i j (by omega) (by omega) hij b hb hb'
    · rintro ⟨h1, h2⟩
      refine ⟨⟨fun k hk => h1 k (by omega), fun i j hi hj => h2 i j (by omega) (by omega)⟩, h1 n (by omega), ?_⟩
      rintro x ⟨k, hk, hx⟩ y hy rfl
      exact h2 k n (by omega) (by omega) (by omega) x hx hy

theorem cellsRel_fps {cs : List Cell} {vs : List Value} {fq : List Nat} (h : CellsRel T w S cs vs fq) :
    ∃ fqs : Nat → List Nat, (∀ k (hk : k < cs.length), CellRel T w S (cs[k]) (vs.getD k undef) (fqs k)) ∧ fq = (List.range cs.length).flatMap fqs := by
  induction h with
  | nil => exact ⟨fun _ => [], (fun k hk => absurd hk (by simp)), rfl⟩
  | @cons c cs u us f1 f2 h1 _ ih =>
    obtain ⟨fqs, q1, q2⟩ := ih
    refine ⟨fun k => match k with | 0 => f1 | k + 1 => fqs k, fun k hk => ?_, ?_⟩
    · cases k with
      | zero => exact h1
      | succ k => simpa using q1 k (by simpa using hk)
    · rw [List.length_cons, List.range_succ_eq_map, List.flatMap_cons, List.flatMap_map, q2]

theorem getD_splice {α : Type} {l ys : List α} {o k : Nat} {d : α} (h : o + ys.length ≤ l.length) :
    (V.splice l o ys).getD k d = if o ≤ k ∧ k < o + ys.length then ys.getD (k - o) d else l.getD k d := by
  unfold V.splice
  simp only [List.getD_eq_getElem?_getD]
  have hto : (l.take o).length = o := by simp; omega
  by_cases h1 : k < o
  · rw [if_neg (by omega), List.append_assoc, List.getElem?_append_left (by omega), List.getElem?_take, if_pos h1]
  · by_cases h2 : k < o + ys.length
    · rw [if_pos ⟨by omega, h2⟩, List.append_assoc, List.getElem?_append_right (by omega), hto, List.getElem?_append_left (by omega)]
    · rw [if_neg (by omega), List.append_assoc, List.getElem?_append_right (by omega), hto, List.getElem?_append_right (by omega), List.getElem?_drop]
      congr 2
      omega

theorem range_split {sz i j m k : Nat} (hjm : j + m ≤ sz) (hm : 0 < m) : (i * sz + j ≤ k ∧ k < i * sz + j + m) ↔ (k / sz = i ∧ j ≤ k % sz ∧ k % sz < j + m) := by
  have hsz : 0 < sz := by omega
  have e := Nat.div_add_mod k sz
  have hlt := Nat.mod_lt k hsz
  constructor
  · rintro ⟨h1, h2⟩
    have hd : k / sz = i := by
      apply Nat.div_eq_of_lt_le
      · omega
      · rw [Nat.succ_mul]; omega
    refine ⟨hd, ?_, ?_⟩
    · rw [hd, Nat.mul_comm] at e; omega
    · rw [hd, Nat.mul_comm] at e; omega
  · rintro ⟨rfl, h2, h3⟩
    rw [Nat.mul_comm] at e
    omega

theorem getD_set' {xs : List (List TC)} {i : Nat} {z : List TC} {q : Nat} (hi : i < xs.length) : (xs.set i z).getD q [] = if q = i then z else xs.getD q [] := by
  simp only [List.getD_eq_getElem?_getD, List.getElem?_set]
  by_cases h : i = q
  · subst h; simp [hi]
  · simp [h, Ne.symm h]

theorem elem_cell {xs : List (List TC)} {ys : List Cell} {i j k sz : Nat} (hi : i < xs.length) (hx : ∀ x, x ∈ xs → x.length = sz) (hjm : j + ys.length ≤ sz) (hm : 0 < ys.length) :
    nth ((xs.set i (V.splice (xs.getD i []) j (rawRow ys))).getD (k / sz) []) (k % sz) = if i * sz + j ≤ k ∧ k < i * sz + j + ys.length then nth (rawRow ys) (k - (i * sz + j)) else nth (xs.getD (k / sz) []) (k % sz) := by
  have hr : (xs.getD i []).length = sz := by
    rw [List.getD_eq_getElem?_getD, List.getElem?_eq_getElem hi]; exact hx _ (List.getElem_mem hi)
  have hrl : (rawRow ys).length = ys.length := by simp [rawRow]
  rw [getD_set' hi]
  have hsp := range_split (k := k) (i := i) hjm hm
  by_cases hc : i * sz + j ≤ k ∧ k < i * sz + j + ys.length
  · obtain ⟨h1, h2, h3⟩ := hsp.1 hc
    rw [if_pos hc, if_pos h1]
    unfold nth
    rw [getD_splice (by rw [hrl, hr]; exact hjm), if_pos ⟨h2, by rw [hrl]; exact h3⟩]
    congr 1
    have e := Nat.div_add_mod k sz
    rw [h1, Nat.mul_comm] at e
    omega
  · rw [if_neg hc]
    by_cases h1 : k / sz = i
    · rw [if_pos h1]
      unfold nth
      rw [getD_splice (by rw [hrl, hr]; exact hjm), if_neg (by rw [hrl]; exact fun h => hc (hsp.2 ⟨h1, h⟩)), h1]
    · rw [if_neg h1]

theorem nth_rawRow {ys : List Cell} {q : Nat} (h : q < ys.length) : nth (rawRow ys) q = ys[q].c := by
  simp [nth, rawRow, List.getD_eq_getElem?_getD, List.getElem?_eq_getElem h]

theorem own_store {e : TypeId} {xs : List (List TC)} {u : Value} {fc fpx : List Nat} {g cap : Nat} {cur vs : List Value} {ys : List Cell} {i j : Nat} (h : OwnC T w (.slice e) u (.l xs) fc) (hnd : fc.Nodup) (hu : u = .slice (some ⟨g, 0, none⟩) xs.length cap)
    (hb : Blk w g cur e) (hb' : Blk w' g (V.splice cur (i * (T e).cts.length + j) vs) e) (hch : Chg w w' [g]) (hy : CellsRel T w S ys vs fpx) (hyg : ys.any Cell.isGone = false) (hyd : ys.all Cell.deep = true) (hn : fpx.Nodup) (hdj : ∀ b, b ∈ fpx → b ∉ fc)
    (hct : ((T e).cts.drop j).take ys.length = ctsOf ys) (hi : i < xs.length) (hm : 0 < ys.length) :
    ∃ fc', OwnC T w' (.slice e) u (.l (xs.set i (V.splice (xs.getD i []) j (rawRow ys)))) fc' ∧ fc'.Nodup ∧ ∀ b, b ∈ fc' → b ∈ fc ∨ b ∈ fpx := by
  have hjm : j + ys.length ≤ (T e).cts.length := by
    have := congrArg List.length hct
    rw [ctsOf_length, List.length_take, List.length_drop] at this
    omega
  obtain ⟨fqs, q1, rfl⟩ := cellsRel_fps hy
  generalize hz : TC.l xs = zz at h
  cases h with
  | flat _ _ _ hm => simp [CT.mem] at hm
  | nil => cases hu
  | slice _ g xs' cap cur' fps h1 h1m h2 hb0 hl ho hr =>
    cases hz
    simp only [Value.slice.injEq, Option.some.injEq, Addr.mk.injEq, and_true, true_and] at hu
    obtain ⟨rfl, rfl⟩ := hu
    obtain rfl := hb0.inj hb
    have hvl := hy.length
    have hbound : ∀ k, k < xs.length * (T e).cts.length → k < cur'.length := fun k hk => by rw [hl]; exact Nat.lt_of_lt_of_le hk (Nat.mul_le_mul_right _ h1)
    have hfit : i * (T e).cts.length + j + vs.length ≤ cur'.length := by
      rw [hl, hvl]
      have := Nat.mul_le_mul_right (T e).cts.length (show i + 1 ≤ cap by omega)
      rw [Nat.add_mul, Nat.one_mul] at this
      omega
    obtain ⟨hg0, hnf⟩ := List.nodup_cons.1 hnd
    rw [nodup_flat] at hnf hn
    have hset : (xs.set i (V.splice (xs.getD i []) j (rawRow ys))).length = xs.length := by simp
    have hrow : (xs.getD i []).length = (T e).cts.length := by
      rw [List.getD_eq_getElem?_getD, List.getElem?_eq_getElem hi]; exact h2 _ (List.getElem_mem hi)
    have hqin : ∀ q, q < ys.length → ∀ b, b ∈ fqs q → b ∈ (List.range ys.length).flatMap fqs := fun q hq b hb => List.mem_flatMap.2 ⟨q, List.mem_range.2 hq, hb⟩
    have hfin : ∀ k, k < xs.length * (T e).cts.length → ∀ b, b ∈ fps k → b ∈ (List.range (xs.length * (T e).cts.length)).flatMap fps := fun k hk b hb => List.mem_flatMap.2 ⟨k, List.mem_range.2 hk, hb⟩
    have key := OwnC.slice (T := T) (w := w') e g (xs.set i (V.splice (xs.getD i []) j (rawRow ys))) cap (V.splice cur' (i * (T e).cts.length + j) vs)
      (fun k => if i * (T e).cts.length + j ≤ k ∧ k < i * (T e).cts.length + j + ys.length then fqs (k - (i * (T e).cts.length + j)) else fps k)
      (by rw [hset]; exact h1) h1m (fun x hx => by
        rcases List.mem_or_eq_of_mem_set hx with hx | rfl
        · exact h2 x hx
        · rw [splice_length _ _ _ (by rw [hrow]; simpa [rawRow] using hjm), hrow]) hb' (by rw [splice_length _ _ _ hfit, hl])
      (fun u hu => by
        unfold V.splice at hu
        simp only [List.mem_append] at hu
        rcases hu with (hu | hu) | hu
        · exact ho u (List.mem_of_mem_take hu)
        · exact hy.one u hu
        · exact ho u (List.mem_of_mem_drop hu))
      (fun k hk => by
        rw [hset] at hk
        rw [elem_cell hi h2 hjm hm, getD_splice hfit, hvl]
        by_cases hc : i * (T e).cts.length + j ≤ k ∧ k < i * (T e).cts.length + j + ys.length
        · rw [if_pos hc, if_pos hc]
          simp only [hc, and_self, if_true]
          obtain ⟨a1, a2, a3⟩ := (range_split (k := k) (i := i) hjm hm).1 hc
          have hq : k - (i * (T e).cts.length + j) < ys.length := by omega
          have hqe : k % (T e).cts.length = j + (k - (i * (T e).cts.length + j)) := by
            have e0 := Nat.div_add_mod k (T e).cts.length
            rw [a1, Nat.mul_comm] at e0
            omega
          have hcell := q1 _ hq
          have hgone : (ys[k - (i * (T e).cts.length + j)]).isGone = false := by
            rw [List.any_eq_false] at hyg
            simpa using hyg _ (List.getElem_mem hq)
          have hdeep : (ys[k - (i * (T e).cts.length + j)]).deep = true := by
            rw [List.all_eq_true] at hyd
            exact hyd _ (List.getElem_mem hq)
          have ho1 := hcell.ofDeep hdeep hgone
          rw [nth_rawRow hq]
          have hcte : (T e).cts.getD (k % (T e).cts.length) .bool = (ys[k - (i * (T e).cts.length + j)]).ct := by
            rw [hqe, ← getD_take_drop (T e).cts j ys.length _ _ hq, hct]
            simp [ctsOf, List.getD_eq_getElem?_getD, List.getElem?_eq_getElem hq]
          rw [hcte]
          exact ho1.same fun b hb => hch.block b (ho1.lt b hb) fun hm => by
            rw [List.mem_singleton.1 hm] at hb
            exact hdj g (hqin _ hq g hb) List.mem_cons_self
        · rw [if_neg hc, if_neg hc]
          simp only [hc, if_false]
          exact (hr k hk).same fun b hb => hch.block b ((hr k hk).lt b hb) fun hm => by
            rw [List.mem_singleton.1 hm] at hb
            exact hg0 (hfin k hk g hb))
    rw [hset] at key
    refine ⟨_, key, List.nodup_cons.2 ⟨fun hm' => ?_, nodup_flat.2 ⟨fun k hk => ?_, fun k l hk hl' hkl b hb hb2 => ?_⟩⟩, fun b hb => ?_⟩
    · obtain ⟨k, hk, hb⟩ := List.mem_flatMap.1 hm'
      have hk := List.mem_range.1 hk
      split at hb
      · exact hdj g (hqin _ (by omega) g hb) List.mem_cons_self
      · exact hg0 (hfin k hk g hb)
    · split
      · exact hn.1 _ (by omega)
      · exact hnf.1 k hk
    · split at hb <;> split at hb2
      · exact hn.2 _ _ (by omega) (by omega) (by omega) b hb hb2
      · exact hdj b (hqin _ (by omega) b hb) (List.mem_cons_of_mem _ (hfin l hl' b hb2))
      · exact hdj b (hqin _ (by omega) b hb2) (List.mem_cons_of_mem _ (hfin k hk b hb))
      · exact hnf.2 k l hk hl' hkl b hb hb2
    · rcases List.mem_cons.1 hb with rfl | hb
      · exact .inl List.mem_cons_self
      · obtain ⟨k, hk, hb⟩ := List.mem_flatMap.1 hb
        have hk := List.mem_range.1 hk
        split at hb
        · exact .inr (hqin _ (by omega) b hb)
        · exact .inl (List.mem_cons_of_mem _ (hfin k hk b hb))

theorem ownT_store {e : TypeId} {xs : List (List TC)} {u : Value} {fc fpx : List Nat} {g cap : Nat} {cur vs : List Value} {ys : List Cell} {i j : Nat} (h : OwnT T w S (.slice e) u (.l xs) fc) (hu : u = .slice (some ⟨g, 0, none⟩) xs.length cap)
    (hb : Blk w g cur e) (hb' : Blk w' g (V.splice cur (i * (T e).cts.length + j) vs) e) (hch : Chg w w' [g]) (hy : CellsRel T w S ys vs fpx) (hyg : ys.any Cell.isGone = false) (hS : ∀ b, S b → S' b) (hSg : ∀ b, S b → b ≠ g) (hSx : ∀ b, b ∈ fpx → S' b) (hxg : ∀ b, b ∈ fpx → b ≠ g)
    (hct : ((T e).cts.drop j).take ys.length = ctsOf ys) (hi : i < xs.length) (hm : 0 < ys.length) :
    fc = [g] ∧ OwnT T w' S' (.slice e) u (.l (xs.set i (V.splice (xs.getD i []) j (rawRow ys)))) [g] := by
  have hjm : j + ys.length ≤ (T e).cts.length := by
    have := congrArg List.length hct
    rw [ctsOf_length, List.length_take, List.length_drop] at this
    omega
  obtain ⟨fqs, q1, rfl⟩ := cellsRel_fps hy
  generalize hz : TC.l xs = zz at h
  cases h with
  | flat _ _ _ hm => simp [CT.mem] at hm
  | nil => cases hu
  | slice _ g xs' cap cur' h1 h1m h2 hb0 hl ho hr =>
    cases hz
    simp only [Value.slice.injEq, Option.some.injEq, Addr.mk.injEq, and_true, true_and] at hu
    obtain ⟨rfl, rfl⟩ := hu
    refine ⟨rfl, ?_⟩
    obtain rfl := hb0.inj hb
    have hvl := hy.length
    have hfit : i * (T e).cts.length + j + vs.length ≤ cur'.length := by
      rw [hl, hvl]
      have := Nat.mul_le_mul_right (T e).cts.length (show i + 1 ≤ cap by omega)
      rw [Nat.add_mul, Nat.one_mul] at this
      omega
    have hset : (xs.set i (V.splice (xs.getD i []) j (rawRow ys))).length = xs.length := by simp
    have hrow : (xs.getD i []).length = (T e).cts.length := by
      rw [List.getD_eq_getElem?_getD, List.getElem?_eq_getElem hi]; exact h2 _ (List.getElem_mem hi)
    have hqin : ∀ q, q < ys.length → ∀ b, b ∈ fqs q → b ∈ (List.range ys.length).flatMap fqs := fun q hq b hb => List.mem_flatMap.2 ⟨q, List.mem_range.2 hq, hb⟩
    have key := OwnT.slice (T := T) (w := w') (S := S') e g (xs.set i (V.splice (xs.getD i []) j (rawRow ys))) cap (V.splice cur' (i * (T e).cts.length + j) vs)
      (by rw [hset]; exact h1) h1m (fun x hx => by
        rcases List.mem_or_eq_of_mem_set hx with hx | rfl
        · exact h2 x hx
        · rw [splice_length _ _ _ (by rw [hrow]; simpa [rawRow] using hjm), hrow]) hb' (by rw [splice_length _ _ _ hfit, hl])
      (fun u hu => by
        unfold V.splice at hu
        simp only [List.mem_append] at hu
        rcases hu with (hu | hu) | hu
        · exact ho u (List.mem_of_mem_take hu)
        · exact hy.one u hu
        · exact ho u (List.mem_of_mem_drop hu))
      (fun k hk => by
        rw [hset] at hk
        rw [elem_cell hi h2 hjm hm, getD_splice hfit, hvl]
        by_cases hc : i * (T e).cts.length + j ≤ k ∧ k < i * (T e).cts.length + j + ys.length
        · rw [if_pos hc, if_pos hc]
          obtain ⟨a1, a2, a3⟩ := (range_split (k := k) (i := i) hjm hm).1 hc
          have hq : k - (i * (T e).cts.length + j) < ys.length := by omega
          have hqe : k % (T e).cts.length = j + (k - (i * (T e).cts.length + j)) := by
            have e0 := Nat.div_add_mod k (T e).cts.length
            rw [a1, Nat.mul_comm] at e0
            omega
          have hcell := q1 _ hq
          have hgone : (ys[k - (i * (T e).cts.length + j)]).isGone = false := by
            rw [List.any_eq_false] at hyg
            simpa using hyg _ (List.getElem_mem hq)
          have ho1 := hcell.toRep (S' := fun b => S b ∨ b ∈ (List.range ys.length).flatMap fqs) hgone (fun b hb => .inr (hqin _ hq b hb)) (fun b hb => .inl hb)
          rw [nth_rawRow hq]
          have hcte : (T e).cts.getD (k % (T e).cts.length) .bool = (ys[k - (i * (T e).cts.length + j)]).ct := by
            rw [hqe, ← getD_take_drop (T e).cts j ys.length _ _ hq, hct]
            simp [ctsOf, List.getD_eq_getElem?_getD, List.getElem?_eq_getElem hq]
          rw [hcte]
          refine ho1.mono (fun b hb => hb.elim (hS b) (hSx b)) fun ad v had hv => hch.cell hv fun hm => ?_
          rw [List.mem_singleton] at hm
          exact had.elim (fun h => hSg _ h hm) (fun h => hxg _ h hm)
        · rw [if_neg hc, if_neg hc]
          exact (hr k hk).mono hS fun ad v had hv => hch.cell hv fun hm => hSg _ had (List.mem_singleton.1 hm))
    rw [hset] at key
    exact key
theorem splice_self {α : Type} {l : List α} {off : Nat} {u : α} (h : l[off]? = some u) : V.splice l off [u] = l := by
  obtain ⟨hlt, hu⟩ := List.getElem?_eq_some_iff.1 h
  unfold V.splice
  have := List.drop_eq_getElem_cons hlt
  rw [hu] at this
  rw [List.append_assoc, List.singleton_append, List.length_singleton, ← this, List.take_append_drop]

theorem own_pos {c : Cell} {u : Value} {fc : List Nat} {d : Bool} {e : TypeId} {ad : Addr} {len cap : Nat} (h : CellRel T w S c u fc) (hfl : c.fl = .own d) (hct : c.ct = .slice e) (hu : u = .slice (some ad) len cap) : c.c.list.length = len ∧ c.c = .l c.c.list := by
  unfold CellRel at h
  rw [hfl] at h
  cases d with
  | true =>
    have h : OwnC T w c.ct u c.c fc := h
    rw [hct] at h
    generalize c.c = cc at h ⊢
    cases h with
    | flat _ _ _ hm => simp [CT.mem] at hm
    | nil => cases hu
    | slice => simp only [Value.slice.injEq] at hu; exact ⟨hu.2.1, rfl⟩
  | false =>
    have h : OwnT T w S c.ct u c.c fc := h
    rw [hct] at h
    generalize c.c = cc at h ⊢
    cases h with
    | flat _ _ _ hm => simp [CT.mem] at hm
    | nil => cases hu
    | slice => simp only [Value.slice.injEq] at hu; exact ⟨hu.2.1, rfl⟩

theorem elem_new {c : Cell} {u : Value} {fc fpx : List Nat} {d : Bool} {e : TypeId} {g len cap : Nat} {i : Int} {j : Nat} {ys : List Cell} {vs : List Value} {cur : List Value} (h : CellRel T w S c u fc) (hfl : c.fl = .own d) (hct : c.ct = .slice e) (hu : u = .slice (some ⟨g, 0, none⟩) len cap)
    (h0 : 0 ≤ i) (h1 : i < (len : Int)) (hnd : fc.Nodup) (hb : Blk w g cur e) (hb' : Blk w' g (V.splice cur (i.toNat * (T e).cts.length + j) vs) e) (hch : Chg w w' [g]) (hy : CellsRel T w S ys vs fpx) (hyg : ys.any Cell.isGone = false)
    (hyd : d = true → ys.all Cell.deep = true) (hn : fpx.Nodup) (hdj : ∀ b, b ∈ fpx → b ∉ fc) (hcty : ((T e).cts.drop j).take ys.length = ctsOf ys) (hm : 0 < ys.length) (hSg : ∀ b, S b → b ≠ g) (hgf : g ∈ fc) :
    ∃ fc', fc'.Nodup ∧ (∀ b, b ∈ fc' → b ∈ fc ∨ b ∈ fpx) ∧ ∀ S1 : Nat → Prop, (∀ b, S b → S1 b) → (∀ b, b ∈ fpx → b ∈ fc' ∨ S1 b) →
      CellRel T w' S1 ⟨c.ct, c.fl, .l (c.c.list.set i.toNat (V.splice (row c.c.list i) j (rawRow ys)))⟩ u fc' := by
  obtain ⟨hl, hcl⟩ := own_pos h hfl hct hu
  subst hl
  have hi : i.toNat < c.c.list.length := by omega
  unfold CellRel at h
  rw [hfl] at h
  cases d with
  | true =>
    have h : OwnC T w c.ct u c.c fc := h
    rw [hct, hcl] at h
    obtain ⟨fc', q1, q2, q3⟩ := own_store h hnd hu hb hb' hch hy hyg (hyd rfl) hn hdj hcty hi hm
    refine ⟨fc', q2, q3, fun S1 _ _ => ?_⟩
    unfold CellRel
    dsimp only
    rw [hfl, hct]
    exact q1
  | false =>
    have h : OwnT T w S c.ct u c.c fc := h
    rw [hct, hcl] at h
    have hxg : ∀ b, b ∈ fpx → b ≠ g := fun b hb e => hdj b hb (e ▸ hgf)
    have hfc : fc = [g] := (ownT_store (S' := fun b => S b ∨ b ∈ fpx) h hu hb hb' hch hy hyg (fun b => .inl) hSg (fun b => .inr) hxg hcty hi hm).1
    refine ⟨[g], by simp, fun b hb => .inl (hfc ▸ hb), fun S1 hS hx => ?_⟩
    unfold CellRel
    dsimp only
    rw [hfl, hct]
    exact (ownT_store h hu hb hb' hch hy hyg hS hSg (fun b hb => (hx b hb).resolve_left (fun hm => hxg b hb (List.mem_singleton.1 hm))) hxg hcty hi hm).2

theorem home_open (h : RelF T G base nt σ a w F fp us blk) {hh : Nat} {cs : List Cell} {mk : List Cell → Slot} (hb : (homeAt hh).ev D σ = some (cs, mk)) :
    ∃ (extra fq : List Nat) (svf : List Cell → SV), fp hh = extra ++ fq ∧ CellsRel T w (Sh w fp F) cs (us hh) fq ∧ mk = (fun ds => ⟨svf ds, (σ hh).v⟩) ∧ (hh = gh → ∀ ds, (svf ds).ghost = true) ∧
      ∀ (w' : World) (S1 : Nat → Prop) (vers : Nat → Ver) (ds : List Cell) (fq' : List Nat), (∀ b, b ∈ extra → w'.heap[b]? = w.heap[b]?) → CellsRel T w' S1 ds (us hh) fq' → ctsOf ds = ctsOf cs →
        SlotRel T w' S1 vers us blk hh (a.tmps.getD hh undef) (extra ++ fq') (svf ds) := by
  have hs := h.slot hh
  rcases homeAt_ev hb with ⟨e0, hsv, hmk⟩ | ⟨g0, hsv, hmk⟩ | ⟨hsv, hmk⟩
  · rw [hsv] at hs
    obtain ⟨hp, hbk, ⟨fq, hfq, hcr⟩, hty⟩ := hs
    refine ⟨[blk hh], fq, fun ds => .bx e0 ds, hfq, hcr, hmk, fun e => absurd e (h.ngh (by rw [hsv]; rfl)), fun w' S1 vers ds fq' hx hc hd => ?_⟩
    exact ⟨hp, hbk.of_same (hx _ (by simp)), ⟨fq', rfl, hc⟩, hd.trans hty⟩
  · rw [hsv] at hs
    obtain ⟨hp, hcr, hl⟩ := hs
    refine ⟨[], fp hh, fun ds => .val g0 ds, rfl, hcr, hmk, fun e => absurd e (h.ngh (by rw [hsv]; rfl)), fun w' S1 vers ds fq' hx hc hd => ?_⟩
    exact ⟨hp, hc, fun e => by have := congrArg List.length hd; rw [ctsOf_length, ctsOf_length] at this; rw [this]; exact hl e⟩
  · rw [hsv] at hs
    exact ⟨[], fp hh, fun ds => .gv ds, rfl, hs, hmk, fun _ _ => rfl, fun w' S1 vers ds fq' hx hc hd => hc⟩

theorem homeAt_same {σ' : St} {hh : Nat} {cs : List Cell} {mk : List Cell → Slot} (h : σ' hh = σ hh) (hb : (homeAt hh).ev D σ = some (cs, mk)) : (homeAt hh).ev D σ' = some (cs, mk) := by
  unfold homeAt at hb ⊢
  simp only [R.ev_bind, R.ev_slot, Option.bind_some] at hb ⊢
  rw [h]
  cases hsv : (σ hh).sv <;> rw [hsv] at hb <;> exact hb

theorem upd_self {α : Type} (f : Nat → α) (n : Nat) : upd f n (f n) = f := by funext m; unfold upd; split <;> simp_all

theorem store_el {ws ws1 : Ws} {t : TypeId} {addr x : Operand} {g0 : Bool} {ys zs : List Cell} {hh off : Nat} {e : TypeId} {i : Int} {j : Nat} {cs : List Cell} {mk : List Cell → Slot} {c : Cell} {deep : Bool} (hT : TabOk P T) (hko : (T t).kind.isOther = false) (hcn : (T t).cts ≠ []) (ho : o.op = .store t addr x) (hdn : o.dst = none)
    (hF : RelF T G base nt σ a w [] fp us blk) (ht : (take x).ev D σ = some (g0, ys, ws1)) (hfit : fitAll (T t).cts ys = some zs) (hpl : PlRel T w (Sh w fp []) us blk (a.eval addr) (.el hh off e i j)) (hne : ∀ p, p ∈ ws1 → p.1 ≠ hh)
    (hb : (homeAt hh).ev D σ = some (cs, mk)) (hcc : cs[off]? = some c) (hfl : c.fl = .own deep) (hct : c.ct = .slice e) (hcty : ((T e).cts.drop j).take zs.length = (T t).cts) (hyd : deep = true → zs.all Cell.deep = true)
    (hws : ws = ws1 ++ [(hh, mk (V.splice cs off [⟨c.ct, c.fl, .l (c.c.list.set i.toNat (V.splice (row c.c.list i) j (rawRow zs)))⟩]))])
    (hK : ∀ a' w', Rel T G base nt (σ.setAll ws) a' w' → Bel base w w' → K a' w') : o.wp P a w K Q := by
  obtain ⟨vs, fpx, fp', hR, hv, hc, hg, hl, hn, hSS, hfp⟩ := take_sound hF ht
  rw [List.append_nil] at hR hc
  obtain ⟨hz, hzc, hzg, _⟩ := fitAll_rel hc hg hfit
  obtain ⟨g, len, cap, p1, p2, p3, p4⟩ := hpl
  have hσ := setAll_other σ ws1 hh hne
  have hzl : zs.length = (T t).cts.length := by rw [← ctsOf_length, hzc]
  have hvl : vs.length = zs.length := hz.length
  have hzpos : 0 < zs.length := by
    have : zs.length ≠ 0 := by rw [hzl]; exact fun e => hcn (List.eq_nil_of_length_eq_zero e)
    omega
  obtain ⟨extra, fq, svf, hfx, hcr, hmk, hghost, hslot⟩ := home_open hR (homeAt_same hσ hb)
  obtain ⟨f1, f2, f3, hf, c1, c2, c3⟩ := hcr.sub off 1
  have hoff : off < cs.length := (List.getElem?_eq_some_iff.1 hcc).1
  have hdt : (cs.drop off).take 1 = [c] := by
    obtain ⟨hlt, hce⟩ := List.getElem?_eq_some_iff.1 hcc
    rw [List.drop_eq_getElem_cons hlt, hce]; rfl
  have hdu : ((us hh).drop off).take 1 = [.slice (some ⟨g, 0, none⟩) len cap] := by
    obtain ⟨hlt, hce⟩ := List.getElem?_eq_some_iff.1 p1
    rw [List.drop_eq_getElem_cons hlt, hce]; rfl
  rw [hdt, hdu] at c2
  have hcell : CellRel T w (Sh w fp' fpx) c (.slice (some ⟨g, 0, none⟩) len cap) f2 := by
    generalize hq : ([] : List Cell) = nl at c2
    cases c2 with
    | cons h1 h2 =>
      subst hq
      cases h2
      rwa [List.append_nil]
  obtain ⟨hll, hcl⟩ := own_pos hcell hfl hct rfl
  obtain ⟨g', cap', cur, hh1, hle, hlem, hblk, hcul, h1c, hgm, hxl, _⟩ := own_header hcell hfl hct (by omega)
  simp only [Value.slice.injEq, Option.some.injEq, Addr.mk.injEq, and_true] at hh1
  obtain ⟨rfl, _, rfl⟩ := hh1
  have hjm : j + zs.length ≤ (T e).cts.length := by
    have := congrArg List.length hcty
    rw [List.length_take, List.length_drop, ← hzl] at this
    omega
  have hfits : i.toNat * (T e).cts.length + j + vs.length ≤ cur.length := by
    rw [hcul, hvl]
    have := Nat.mul_le_mul_right (T e).cts.length (show i.toNat + 1 ≤ cap by omega)
    rw [Nat.add_mul, Nat.one_mul] at this
    omega
  obtain ⟨w', hr, hb', hch⟩ := run_storeVar (P := P) hT hko (gg := g0) (by intro e; rw [hc.length]; exact hl e) hc.one (by rw [hvl, hzl]) hblk hfits
  have hnd := hR.nodup hh
  rw [hfx, hf] at hnd
  have hndx := List.nodup_append.1 hnd
  have hnd' := List.nodup_append.1 hndx.2.1
  have hnd'' := List.nodup_append.1 hnd'.1
  have hin : ∀ b, b ∈ f1 ∨ b ∈ f2 ∨ b ∈ f3 ∨ b ∈ extra → b ∈ fp' hh := fun b hb => by
    rw [hfx, hf]; simp only [List.mem_append]
    rcases hb with hb | hb | hb | hb <;> simp [hb]
  have hdj : ∀ b, b ∈ fpx → b ∉ fp' hh := fun b hb hm => hR.dF hh b hm hb
  have hgh : g ∈ fp' hh := hin g (.inr (.inl hgm))
  have hSg : ∀ b, Sh w fp' fpx b → b ≠ g := fun b hb e => by subst e; exact hb.2.1 hh hgh
  obtain ⟨fc', n1, n2, n3⟩ := elem_new (i := i) hcell hfl hct rfl p2 p3 hnd''.2.1 hblk hb' hch hz hzg hyd hn (fun b hb hm => hdj b hb (hin b (.inr (.inl hm)))) (by rw [hcty, hzc]) hzpos hSg hgm
  have hfc : ∀ b, b ∈ fc' → b ∉ f1 ∧ b ∉ f3 ∧ b ∉ extra := fun b hb => by
    rcases n2 b hb with hb | hb
    · exact ⟨fun hm => hnd''.2.2 b hm b hb rfl, fun hm => hnd'.2.2 b (by simp [hb]) b hm rfl, fun hm => hndx.2.2 b hm b (by simp [hb]) rfl⟩
    · exact ⟨fun hm => hdj b hb (hin b (.inl hm)), fun hm => hdj b hb (hin b (.inr (.inr (.inl hm)))), fun hm => hdj b hb (hin b (.inr (.inr (.inr hm))))⟩
  have hup := upd_self us hh
  have hsdH : ((σ.setAll ws1) hh).sv ≠ .dead := by
    rw [hσ]
    rcases homeAt_ev hb with ⟨_, h, _⟩ | ⟨_, h, _⟩ | ⟨h, _⟩ <;> rw [h] <;> exact SV.noConfusion
  have hnew := hR.reW hch hh hsdH (fun b hb => by rw [List.mem_singleton.1 hb]; exact .inl hgh) (svf (V.splice cs off [⟨c.ct, c.fl, .l (c.c.list.set i.toNat (V.splice (row c.c.list i) j (rawRow zs)))⟩])) (σ hh).v (extra ++ (f1 ++ fc' ++ f3)) (us hh) []
    (.inr ⟨by rw [hσ], rfl⟩)
    (List.nodup_append.2 ⟨hndx.1, List.nodup_append.2 ⟨List.nodup_append.2 ⟨hnd''.1, n1, fun x hx y hy e => (hfc y hy).1 (e ▸ hx)⟩, hnd'.2.1, fun x hx y hy e => by
      rcases List.mem_append.1 hx with hx | hx
      · exact hnd'.2.2 x (by simp [hx]) y hy e
      · exact (hfc x hx).2.1 (e ▸ hy)⟩, fun x hx y hy e => by
      subst e
      simp only [List.mem_append] at hy
      rcases hy with (hy | hy) | hy
      · exact hndx.2.2 x hx x (by simp [hy]) rfl
      · exact (hfc x hy).2.2 hx
      · exact hndx.2.2 x hx x (by simp [hy]) rfl⟩) .nil
    (fun b hb => by
      rcases hb with hb | hb
      · simp only [List.mem_append] at hb
        rcases hb with hb | (hb | hb) | hb
        · exact .inl (hin b (.inr (.inr (.inr hb))))
        · exact .inl (hin b (.inl hb))
        · exact (n2 b hb).imp (fun hb => hin b (.inr (.inl hb))) id
        · exact .inl (hin b (.inr (.inr (.inl hb))))
      · cases hb) (fun _ _ h => by cases h) (fun e => ⟨rfl, hghost e _⟩)
    (fun hSh => by
      rw [hup]
      have hSb : ∀ b, Sh w fp' fpx b → b ∉ [g] := fun b hb hm => hSg b hb (List.mem_singleton.1 hm)
      have hg1 : ∀ b, b ∈ f1 → b ∉ [g] := fun b hb hm => hnd''.2.2 b hb g hgm (List.mem_singleton.1 hm)
      have hg3 : ∀ b, b ∈ f3 → b ∉ [g] := fun b hb hm => hnd'.2.2 g (by simp [hgm]) b hb (List.mem_singleton.1 hm).symm
      have hnc := n3 (Sh w' (upd fp' hh (extra ++ (f1 ++ fc' ++ f3))) []) hSh (fun b hb => by
        by_cases hm : b ∈ fc'
        · exact .inl hm
        · right
          refine ⟨Nat.lt_of_lt_of_le (hR.ltF b hb) hch.size, fun n hn' => ?_, fun h => by cases h⟩
          by_cases e : n = hh
          · rw [e, upd_at] at hn'
            simp only [List.mem_append] at hn'
            rcases hn' with hn' | (hn' | hn') | hn'
            · exact hdj b hb (hin b (.inr (.inr (.inr hn'))))
            · exact hdj b hb (hin b (.inl hn'))
            · exact hm hn'
            · exact hdj b hb (hin b (.inr (.inr (.inl hn'))))
          · rw [upd_ne _ _ e] at hn'; exact hR.dF n b hn' hb)
      have hcells := CellsRel.splice (ys := [⟨c.ct, c.fl, .l (c.c.list.set i.toNat (V.splice (row c.c.list i) j (rawRow zs)))⟩]) (c1.chg hch hg1 hSb hSh) (CellsRel.cons hnc .nil) (c3.chg hch hg3 hSb hSh)
      rw [splice_self p1, List.append_nil] at hcells
      refine hslot w' _ _ _ _ (fun b hb => hch.block b (hR.lt hh b (hin b (.inr (.inr (.inr hb))))) fun hm => by
        rw [List.mem_singleton.1 hm] at hb
        exact hndx.2.2 g hb g (by simp [hgm]) rfl) hcells ?_
      refine ctsOf_splice ?_
      rw [List.length_singleton, hdt]; rfl)
  refine wp_skip_op (w' := w') ?_ hdn (hK _ _ ?_ (hch.bel fun b hb => by rw [List.mem_singleton.1 hb]; exact hR.lo hh _ (.inl hsdH) hgh))
  · simp only [execOp, ho, Sem.run_bind, p4, hv, hr, Result.andThen_ok, Sem.run_pure]
  · rw [hws, setAll_append, hmk]
    show Rel T G base nt ((σ.setAll ws1).set hh ⟨_, ((σ.setAll ws1) hh).v⟩) _ _
    rw [hσ]
    exact hnew.toRel

theorem op_store {ws : Ws} {t : TypeId} {addr x : Operand} (hT : TabOk P T) (ho : o.op = .store t addr x) (h : Rel T G base nt σ a w)
    (he : (opR T o).ev D σ = some ws) (hK : ∀ a' w', Rel T G base nt (σ.setAll ws) a' w' → Bel base w w' → K a' w') : o.wp P a w K Q := by
  unfold opR at he
  simp only [ho] at he
  obtain ⟨fp, us, blk, hF⟩ := h
  split at he
  · rename_i hdn
    unfold store at he
    dsimp only at he
    split at he
    · simp at he
    · rename_i hko
      split at he
      · simp at he
      · rename_i hcn
        have hko' : (T t).kind.isOther = false := by simpa using hko
        simp only [R.ev_bind] at he
        obtain ⟨⟨g, ys, ws1⟩, h1, he2⟩ := Option.bind_eq_some_iff.1 he
        clear he
        obtain ⟨zs, h2, he3⟩ := Option.bind_eq_some_iff.1 he2
        clear he2
        obtain ⟨pl, h3, he4⟩ := Option.bind_eq_some_iff.1 he3
        clear he3
        have hfit : fitAll (T t).cts ys = some zs := by simpa using h2
        have hpl := place_sound hF h3
        have hnn : ∀ hh, ¬ (ws1.any (fun p => p.1 == hh)) = true → ∀ p, p ∈ ws1 → p.1 ≠ hh := fun hh hn p hp e => hn (List.any_eq_true.2 ⟨p, hp, by simp [e]⟩)
        cases pl with
        | box hh off =>
          dsimp only at he4
          split at he4
          · simp at he4
          · rename_i hn
            simp only [R.ev_bind] at he4
            obtain ⟨⟨e, cs, v⟩, h5, he5⟩ := Option.bind_eq_some_iff.1 he4
            clear he4
            dsimp only at he5
            split at he5
            · simp at he5
            · rename_i hct
              simp only [R.ev_pure, Option.some.injEq] at he5
              exact store_box hT hko' hcn ho hdn hF h1 hfit hpl (hnn hh hn) h5 (by simpa using hct) he5.symm hK
        | el hh off e i j =>
          dsimp only at he4
          split at he4
          · simp at he4
          · rename_i hn
            simp only [R.ev_bind] at he4
            obtain ⟨⟨cs, mk⟩, h5, he5⟩ := Option.bind_eq_some_iff.1 he4
            clear he4
            obtain ⟨c, h6, he6⟩ := Option.bind_eq_some_iff.1 he5
            clear he5
            have hcc : cs[off]? = some c := by simpa [cellOf] using h6
            split at he6
            · rename_i deep hfl
              split at he6
              · simp at he6
              · rename_i hct
                split at he6
                · simp at he6
                · rename_i hcty
                  split at he6
                  · simp at he6
                  · rename_i hdp
                    simp only [R.ev_pure, Option.some.injEq] at he6
                    have hzl : zs.length = (T t).cts.length := by
                      have hq : ∀ {cts : List CT} {a b : List Cell}, fitAll cts a = some b → b.length = cts.length := by
                        intro cts
                        induction cts with
                        | nil => intro a b h; cases a with
                          | nil => cases h; rfl
                          | cons => cases h
                        | cons ct cts ih => intro a b h; cases a with
                          | nil => cases h
                          | cons c a =>
                            simp only [fitAll] at h
                            obtain ⟨d, _, h⟩ := Option.bind_eq_some_iff.1 h
                            obtain ⟨b', hb', rfl⟩ := Option.map_eq_some_iff.1 h
                            simp [ih hb']
                      exact hq hfit
                    exact store_el hT hko' hcn ho hdn hF h1 hfit hpl (hnn hh hn) h5 hcc hfl (by simpa using hct) (by simpa using hcty) (fun hd => by simpa [hd] using hdp) he6.symm hK
            · simp at he6
        | shd => simp at he4
  · simp at he
end

end Go.Proofs.Ytabdjbkbfilhkaa.V
