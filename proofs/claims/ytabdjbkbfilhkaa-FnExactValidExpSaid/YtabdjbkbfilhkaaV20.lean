import Derived.Test.YtabdjbkbfilhkaaV19
namespace Go.Proofs.Ytabdjbkbfilhkaa.V
open Go Go.RowKit

def NamesOk (P : Program) : Prop := ∀ (f : FuncId) (fn : Func), P.funcs[f]? = some fn → (fn.name == "runtime.NumGoroutine") = false

section
variable {P : Program} {T : Tab} {G : Nat → Prop} {base : Bs} {nt : Nat} {σ : St} {a : Act} {w w' : World} {D : FuncId → List Arg → Option (Bool × Res)} {Q : Exit → Act → World → Prop} {o : Oper} {S : Nat → Prop}

theorem ArgsRel.length {as : List Arg} {vals : List Value} (h : ArgsRel T w S as vals) : vals.length = as.length := by
  induction h with
  | nil => rfl
  | cons _ _ ih => simp [ih]

theorem ArgsRel.at {as : List Arg} {vals : List Value} (h : ArgsRel T w S as vals) : ∀ {n : Nat} {x : Arg}, as[n]? = some x → ∃ u, vals[n]? = some u ∧ ArgRel T w S x u := by
  induction h with
  | nil => intro n x h; simp at h
  | cons h _ ih =>
    intro n x hn
    cases n with
    | zero => simp only [List.getElem?_cons_zero, Option.some.injEq] at hn; subst hn; exact ⟨_, rfl, h⟩
    | succ n => simp only [List.getElem?_cons_succ] at hn; simpa using ih hn

theorem enter_rel {as : List Arg} {vals : List Value} (hS0 : Fit T w S) (h : ArgsRel T w S as vals) (hn : as.length ≤ nt) (hng : nt ≤ gh) :
    ∃ pv, Rel T S (Bs.above w.heap.size pv) nt (argsSt as) { tmps := vals.toArray ++ Array.replicate (nt - vals.toArray.size) undef, defers := [] } w := by
  classical
  have hS := hS0.1
  have hex : ∀ n : Nat, ∃ us : List Value, ∀ x : Arg, as[n]? = some x → ∃ u, vals[n]? = some u ∧ u = mkv x.1 us ∧ CellsRel T w S (shCells x.2) us [] ∧ (x.1 = false → x.2.length = 1) := by
    intro n
    cases hx : as[n]? with
    | none => exact ⟨[], fun _ h => by cases h⟩
    | some x =>
      obtain ⟨u, hu, us, h1, h2, h3⟩ := h.at hx
      exact ⟨us, fun y hy => by cases hy; exact ⟨u, hu, h1, h2, h3⟩⟩
  obtain ⟨us, hus⟩ := Classical.axiomOfChoice hex
  let forb := (List.range w.heap.size).filter fun b => !decide (S b)
  let v := as.length + nt + gh + 1
  have hforb : ∀ b, b ∈ forb ↔ b < w.heap.size ∧ ¬ S b := fun b => by simp [forb]
  have hlen := h.length
  let fp : Nat → List Nat := fun n => if n = v then forb else []
  have hfpv : fp v = forb := by simp [fp]
  have hfpn : ∀ n, n ≠ v → fp n = [] := fun n hn => by simp [fp, hn]
  have hmem : ∀ n b, b ∈ fp n → n = v ∧ b ∈ forb := fun n b hb => by
    by_cases e : n = v
    · exact ⟨e, by rw [e, hfpv] at hb; exact hb⟩
    · rw [hfpn n e] at hb; cases hb
  have hav : as[v]? = none := List.getElem?_eq_none (by simp only [v]; omega)
  have hgv : as[gh]? = none := List.getElem?_eq_none (by omega)
  have hSh : ∀ b, S b → Sh w fp [] b := fun b hb => ⟨hS b hb, fun n hm => ((hforb b).1 (hmem n b hm).2).2 hb, fun h => by cases h⟩
  refine ⟨us gh, fp, us, fun _ => 0, fun n => ?_, fun m n hmn b hb hb' => hmn ((hmem m b hb).1.trans (hmem n b hb').1.symm), (fun _ _ _ h => by cases h), fun n => ?_, fun n b hsv hb => ?_, fun b hb hnb => ?_, (fun _ h => by cases h), (fun _ h => by cases h), .nil, fun _ h => h, rfl, by unfold argsSt; rw [hgv]; rfl, hng, ?_, rfl, fun g k ho => absurd (World.block_lt_of_cell? _ _ (hS0.2 g k).choose_spec) (Nat.not_lt.2 ho), hS0.2⟩
  · unfold argsSt
    cases hx : as[n]? with
    | none =>
      intro b hb
      exact ((hforb b).1 (hmem n b hb).2).1
    | some x =>
      obtain ⟨u, hu, h1, h2, h3⟩ := hus n x hx
      have hnl : n < as.length := (List.getElem?_eq_some_iff.1 hx).1
      have hnv : n ≠ v := by simp only [v]; omega
      have hev : (vals.toArray ++ Array.replicate (nt - vals.toArray.size) undef).getD n undef = u := by
        rw [Array.getD_eq_getD_getElem?, Array.getElem?_append_left (by simp; omega)]
        simp [hu]
      rw [hfpn n hnv]
      refine ⟨hev.trans h1, ?_, ?_⟩
      · exact h2.same (fun _ _ => rfl) hSh (fun _ _ _ h => h)
      · intro hg
        have := h3 hg
        simpa using this
  · by_cases e : n = v
    · rw [e, hfpv]; exact List.nodup_range.filter _
    · rw [hfpn n e]; exact .nil
  · obtain ⟨rfl, _⟩ := hmem n b hb
    rcases hsv with hsv | hsv
    · exact absurd (by unfold argsSt; rw [hav]; rfl) hsv
    · simp only [v] at hsv; omega
  · exact Classical.byContradiction fun hns => hnb v (by rw [hfpv]; exact (hforb b).2 ⟨Nat.not_le.1 hb, hns⟩)
  · simp; omega

theorem res_of_tup {r : Res} {uw : List Value} {fq : List Nat} (h : TupRel T w S r uw fq) (hg : ∀ x, x ∈ r → x.2.any Cell.isGone = false) : ResRel T w S r (if h : uw.length = 1 then uw[0] else .tuple uw.toArray) fq := by
  refine ⟨?_, hg⟩
  split
  · rename_i g cs
    generalize hq : ([] : List (Bool × List Cell)) = nl at h
    cases h with
    | cons h1 h2 h3 =>
      subst hq
      cases h3
      rw [List.append_nil]
      exact ⟨_, by simp, h1, h2⟩
  · rename_i hne
    refine ⟨uw, ?_, h⟩
    have : uw.length = r.length := by
      clear hne hg
      induction h with
      | nil => rfl
      | cons _ _ _ ih => simp [ih]
    rw [dif_neg]
    intro h1
    rw [this] at h1
    match r, h1 with
    | [(g, cs)], _ => exact hne g cs rfl

theorem fitRes_len : ∀ {ts : List TypeId} {r r' : Res}, fitRes T ts r = some r' → r'.length = r.length
  | [], [], r', h => by simp only [fitRes, Option.some.injEq] at h; subst h; rfl
  | t :: ts, (g, cs) :: r, r', h => by
    simp only [fitRes] at h
    split at h
    · obtain ⟨r1, h1, rfl⟩ := Option.map_eq_some_iff.1 h
      simp [fitRes_len h1]
    · obtain ⟨ds, h0, h⟩ := Option.bind_eq_some_iff.1 h
      obtain ⟨r1, h1, rfl⟩ := Option.map_eq_some_iff.1 h
      simp [fitRes_len h1]
  | [], _ :: _, _, h => by simp [fitRes] at h
  | _ :: _, [], _, h => by simp [fitRes] at h
theorem CellsRel.plain {cs : List Cell} {us : List Value} {fq : List Nat} (h : CellsRel T w S cs us fq) (hg : cs.any Cell.isGone = false) : CellsRel T w S (cs.map Cell.plain) us fq ∧ (cs.map Cell.plain).any Cell.isGone = false := by
  induction h with
  | nil => exact ⟨.nil, rfl⟩
  | @cons c cs u us fp fp' h _ ih =>
    simp only [List.any_cons, Bool.or_eq_false_iff] at hg
    obtain ⟨i1, i2⟩ := ih hg.2
    have key : CellRel T w S c.plain u fp ∧ c.plain.isGone = false := by
      unfold Cell.plain
      cases hm : c.ct.mem with
      | true => exact ⟨h, hg.1⟩
      | false =>
        have hn := h.mem_nil hm
        subst hn
        exact ⟨⟨(h.toRep (S' := S) hg.1 (fun _ hb => by cases hb) (fun _ hb => hb)).flat hm, rfl⟩, rfl⟩
    refine ⟨.cons key.1 i1, ?_⟩
    rw [List.map_cons, List.any_cons, key.2, i2]; rfl
theorem TupRel.fit : ∀ {ts : List TypeId} {r r' : Res} {uw : List Value} {fq : List Nat}, TupRel T w S r uw fq → (∀ x, x ∈ r → x.2.any Cell.isGone = false) → fitRes T ts r = some r' → TupRel T w S r' uw fq ∧ ∀ x, x ∈ r' → x.2.any Cell.isGone = false
  | [], [], r', uw, fq, h, _, hf => by
    simp only [fitRes, Option.some.injEq] at hf
    subst hf
    exact ⟨h, fun _ h => by cases h⟩
  | t :: ts, (g, cs) :: r, r', uw, fq, h, hg, hf => by
    simp only [fitRes] at hf
    cases h with
    | cons h1 h2 h3 =>
      have hgr : ∀ x, x ∈ r → x.2.any Cell.isGone = false := fun x hx => hg x (List.mem_cons_of_mem _ hx)
      have hg0 := hg (g, cs) List.mem_cons_self
      split at hf
      · obtain ⟨r1, h4, rfl⟩ := Option.map_eq_some_iff.1 hf
        obtain ⟨q1, q2⟩ := TupRel.fit h3 hgr h4
        exact ⟨.cons h1 h2 q1, fun x hx => (List.mem_cons.1 hx).elim (fun e => e ▸ hg0) (q2 x)⟩
      · obtain ⟨ds, h0, hf⟩ := Option.bind_eq_some_iff.1 hf
        obtain ⟨r1, h4, rfl⟩ := Option.map_eq_some_iff.1 hf
        obtain ⟨q1, q2⟩ := TupRel.fit h3 hgr h4
        obtain ⟨k1, k2, k3, _⟩ := fitAll_rel h1 hg0 h0
        obtain ⟨k1, k3⟩ := k1.plain k3
        refine ⟨.cons k1 (fun e => ?_) q1, fun x hx => (List.mem_cons.1 hx).elim (fun e => e ▸ k3) (q2 x)⟩
        have e1 := h1.length
        have e2 := k1.length
        have := h2 e
        rw [List.length_map] at e2 ⊢
        omega
  | [], _ :: _, _, _, _, _, _, hf => by simp [fitRes] at hf
  | _ :: _, [], _, _, _, _, _, hf => by simp [fitRes] at hf
theorem ResRel.fit {ts : List TypeId} {r r' : Res} {v : Value} {fq : List Nat} (h : ResRel T w S r v fq) (hf : fitRes T ts r = some r') : ResRel T w S r' v fq := by
  obtain ⟨h, hg⟩ := h
  split at h
  · rename_i g cs
    obtain ⟨us, rfl, h2, h3⟩ := h
    match ts, hf with
    | [], hf => simp [fitRes] at hf
    | t :: ts, hf =>
      simp only [fitRes] at hf
      have hg0 := hg (g, cs) List.mem_cons_self
      split at hf
      · obtain ⟨r1, h4, rfl⟩ := Option.map_eq_some_iff.1 hf
        have : r1 = [] := by
          have := fitRes_len h4
          exact List.eq_nil_of_length_eq_zero this
        subst this
        exact ⟨⟨us, rfl, h2, h3⟩, hg⟩
      · obtain ⟨ds, h0, hf⟩ := Option.bind_eq_some_iff.1 hf
        obtain ⟨r1, h4, rfl⟩ := Option.map_eq_some_iff.1 hf
        have : r1 = [] := by
          have := fitRes_len h4
          exact List.eq_nil_of_length_eq_zero this
        subst this
        obtain ⟨k1, k2, k3, _⟩ := fitAll_rel h2 hg0 h0
        obtain ⟨k1, k3⟩ := k1.plain k3
        refine ⟨⟨us, rfl, k1, fun e => ?_⟩, fun x hx => ?_⟩
        · have e1 := h2.length
          have e2 := k1.length
          have := h3 e
          rw [List.length_map] at e2 ⊢
          omega
        · rw [List.mem_singleton.1 hx]; exact k3
  · rename_i hne
    obtain ⟨uw, rfl, h2⟩ := h
    obtain ⟨q1, q2⟩ := TupRel.fit h2 hg hf
    refine ⟨?_, q2⟩
    split
    · rename_i g cs
      have hl := fitRes_len hf
      match r, hl with
      | [(g', cs')], _ => exact absurd rfl (hne g' cs')
    · exact ⟨uw, rfl, q1⟩

theorem results_sound {fn : Func} {r : Res} (hT : TabOk P T) (h : Rel T S base nt σ a w) (he : resultsOf T σ fn.results.toList = some r) :
    ∃ v fq, (results fn a.tmps).run P w = .ok v w ∧ ResRel T w (fun b => b < w.heap.size ∧ (S b ∨ base.own b) ∧ b ∉ fq) r v fq ∧ fq.Nodup ∧ ∀ b, b ∈ fq → base.own b ∧ b < w.heap.size := by
  obtain ⟨fp, us, blk, hF⟩ := h
  unfold resultsOf at he
  split at he
  · rename_i hd
    obtain ⟨uw, fq, q1, q2, q3, q4, q5⟩ := results_list (P := P) hT hF hd he
    refine ⟨_, fq, results_run q1, res_of_tup (q2.same (fun _ _ => rfl) (fun b hb => ⟨hb.1, ?_, fun hm => ?_⟩) (fun _ _ _ h => h)) q3, q5, fun b hb => ?_⟩
    · by_cases hge : base.own b
      · exact .inr hge
      · exact .inl (hF.low b hge hb.2.1)
    · obtain ⟨n, _, h2, _⟩ := q4 b hm
      exact hb.2.1 n h2
    · obtain ⟨n, _, h2, h3⟩ := q4 b hb
      exact ⟨hF.lo n b (.inl h3) h2, hF.lt n b h2⟩
  · cases he

end

end Go.Proofs.Ytabdjbkbfilhkaa.V
