import Derived.Test.YtabdjbkbfilhkaaV19
namespace Go.Proofs.Ytabdjbkbfilhkaa.V
open Go Go.RowKit

def NamesOk (P : Program) : Prop := ∀ (f : FuncId) (fn : Func), P.funcs[f]? = some fn → (fn.name == "runtime.NumGoroutine") = false

section
variable {P : Program} {T : Tab} {G : Nat → Prop} {base : Bs} {nt : Nat} {σ : St} {a : Act} {w w' : World} {D : FuncId → List Arg → Option (Bool × Res)} {Q : Exit → Act → World → Prop} {o : Oper} {S : Nat → Prop}

theorem ArgsRel.length {as : List Arg} {vals : List Value} (h : ArgsRel T w S as vals) : vals.length = as.length := by
  induction h with
  | nil => rfl
  | cons _ _ ih => simp [ih]

theorem ArgsRel.at {as : List Arg} {vals : List Value} (h : ArgsRel T w S as vals) : ∀ {n : Nat} {x : Arg}, as[n]? = some x → ∃ u, vals[n]? = some u ∧ ArgRel T w S x u := by
  induction h with
  | nil => intro n x h; simp at h
  | cons h _ ih =>
    intro n x hn
    cases n with
    | zero => simp only [List.getElem?_cons_zero, Option.some.injEq] at hn; subst hn; exact ⟨_, rfl, h⟩
    | succ n => simp only [List.getElem?_cons_succ] at hn; simpa using ih hn

theorem enter_rel {as : List Arg} {vals : List Value} (hS0 : Fit T w S) (h : ArgsRel T w S as vals) (hn : as.length ≤ nt) (hng : nt ≤ gh) :
    ∃ pv, Rel T S (Bs.above w.heap.size pv) nt (argsSt as) { tmps := vals.toArray ++ Array.replicate (nt - vals.toArray.size) undef, defers := [] } w := by
  classical
  have hS := hS0.1
  have hex : ∀ n : Nat, ∃ us : List Value, ∀ x : Arg, as[n]? = some x → ∃ u, vals[n]? = some u ∧ u = mkv x.1 us ∧ CellsRel T w S (shCells x.2) us [] ∧ (x.1 = false → x.2.length = 1) := by
    intro n
    cases hx : as[n]? with
    | none => exact ⟨[], fun _ h => by cases h⟩
    | some x =>
      obtain ⟨u, hu, us, h1, h2, h3⟩ := h.at hx
      exact ⟨us, fun y hy => by cases hy; exact ⟨u, hu, h1, h2, h3⟩⟩
  obtain ⟨us, hus⟩ := Classical.axiomOfChoice hex
  let forb := (List.range w.heap.size).filter fun b => !decide (S b)
  let v := as.length + nt + gh + 1
  have hforb : ∀ b, b ∈ forb ↔ b < w.heap.size ∧ ¬ S b := fun b => by simp [forb]
  have hlen := h.length
  let fp : Nat → List Nat := fun n => if n = v then forb else []
  have hfpv : fp v = forb := by simp [fp]
  have hfpn : ∀ n, n ≠ v → fp n = [] := fun n hn => by simp [fp, hn]
  have hmem : ∀ n b, b ∈ fp n → n = v ∧ b ∈ forb := fun n b hb => by
    by_cases e : n = v
    · exact ⟨e, by rw [e, hfpv] at hb; exact hb⟩
    · rw [hfpn n e] at hb; cases hb
  have hav : as[v]? = none := List.getElem?_eq_none (by simp only [v]; omega)
  have hgv : as[gh]? = none := List.getElem?_eq_none (by omega)
  have hSh : ∀ b, S b → Sh w fp [] b := fun b hb => ⟨hS b hb, fun n hm => ((hforb b).1 (hmem n b hm).2).2 hb, fun h => by cases h⟩
  refine ⟨us gh, fp, us, fun _ => 0, fun n => ?_, fun m n hmn b hb hb' => hmn ((hmem m b hb).1.trans (hmem n b hb').1.symm), (fun _ _ _ h => by cases h), fun n => ?_, fun n b hsv hb => ?_, fun b hb hnb => ?_, (fun _ h => by cases h), (fun _ h => by cases h), .nil, fun _ h => h, rfl, by unfold argsSt; rw [hgv]; rfl, hng, ?_, rfl, fun g k ho => absurd (World.block_lt_of_cell? _ _ (hS0.2 g k).choose_spec) (Nat.not_lt.2 ho), hS0.2⟩
  · unfold argsSt
    cases hx : as[n]? with
    | none =>
      intro b hb
      exact ((hforb b).1 (hmem n b hb).2).1
    | some x =>
      obtain ⟨u, hu, h1, h2, h3⟩ := hus n x hx
      have hnl : n < as.length := (List.getElem?_eq_some_iff.1 hx).1
      have hnv : n ≠ v := by simp only [v]; omega
      have hev : (vals.toArray ++ Array.replicate (nt - vals.toArray.size) undef).getD n undef = u := by
        rw [Array.getD_eq_getD_getElem?, Array.getElem?_append_left (by simp; omega)]
        simp [hu]
      rw [hfpn n hnv]
      refine ⟨hev.trans h1, ?_, ?_⟩
      · exact h2.same (fun _ _ => rfl) hSh (fun _ _ _ h => h)
      · intro hg
        have := h3 hg
        simpa using this
  · by_cases e : n = v
    · rw [e, hfpv]; exact List.nodup_range.filter _
    · rw [hfpn n e]; exact .nil
  · obtain ⟨rfl, _⟩ := hmem n b hb
    rcases hsv with hsv | hsv
    · exact absurd (by unfold argsSt; rw [hav]; rfl) hsv
    · simp only [v] at hsv; omega
  · exact Classical.byContradiction fun hns => hnb v (by rw [hfpv]; exact (hforb b).2 ⟨Nat.not_le.1 hb, hns⟩)
  · simp; omega

theorem ArgsRel.notMark {as : List Arg} {vals : List Value} (h : ArgsRel T w S as vals) (hm : isMark as = true) : False := by
  unfold isMark at hm
  split at hm
  · cases h with
    | cons h1 _ =>
      obtain ⟨us, _, _, h3⟩ := h1
      have := h3 rfl
      simp at this
  · cases hm

theorem enter_relW {a0 : Arg} {us0 : List Value} {fp0 : List Nat} {as : List Arg} {vals : List Value} (hS0 : FitW T w S fp0) (h0 : CellsRel T w S (ownCells a0.2) us0 fp0) (hl0 : a0.1 = false → a0.2.length = 1) (hnd0 : fp0.Nodup) (hdj : ∀ b, b ∈ fp0 → ¬ S b)
    (h : ArgsRel T w S as vals) (hn : as.length + 1 ≤ nt) (hng : nt ≤ gh) :
    Rel T S (Bs.these fp0 w.heap.size us0) nt (argsW a0 as) { tmps := (mkv a0.1 us0 :: vals).toArray ++ Array.replicate (nt - (mkv a0.1 us0 :: vals).toArray.size) undef, defers := [] } w := by
  classical
  have hS := hS0.1
  have hex : ∀ n : Nat, ∃ us : List Value, ∀ x : Arg, as[n]? = some x → ∃ u, vals[n]? = some u ∧ u = mkv x.1 us ∧ CellsRel T w S (shCells x.2) us [] ∧ (x.1 = false → x.2.length = 1) := by
    intro n
    cases hx : as[n]? with
    | none => exact ⟨[], fun _ h => by cases h⟩
    | some x =>
      obtain ⟨u, hu, us, h1, h2, h3⟩ := h.at hx
      exact ⟨us, fun y hy => by cases hy; exact ⟨u, hu, h1, h2, h3⟩⟩
  obtain ⟨us', hus⟩ := Classical.axiomOfChoice hex
  let us : Nat → List Value := fun n => if n = gh then us0 else us' (n - 1)
  let forb := (List.range w.heap.size).filter fun b => !decide (S b ∨ b ∈ fp0)
  let v := as.length + nt + gh + 2
  have hforb : ∀ b, b ∈ forb ↔ b < w.heap.size ∧ ¬ (S b ∨ b ∈ fp0) := fun b => by simp [forb]
  have hlen := h.length
  let fp : Nat → List Nat := fun n => if n = gh then fp0 else if n = v then forb else []
  have hvg : v ≠ gh := by simp only [v]; omega
  have hfpv : fp v = forb := by show (if v = gh then fp0 else if v = v then forb else []) = forb; rw [if_neg hvg, if_pos rfl]
  have hfpg : fp gh = fp0 := by show (if gh = gh then fp0 else if gh = v then forb else []) = fp0; rw [if_pos rfl]
  have hfpn : ∀ n, n ≠ v → n ≠ gh → fp n = [] := fun n hn hg => by simp only [fp]; rw [if_neg hg, if_neg hn]
  have husg : us gh = us0 := by show (if gh = gh then us0 else us' (gh - 1)) = us0; rw [if_pos rfl]
  have hmem : ∀ n b, b ∈ fp n → (n = gh ∧ b ∈ fp0) ∨ (n = v ∧ b ∈ forb) := fun n b hb => by
    by_cases e : n = gh
    · rw [e, hfpg] at hb; exact .inl ⟨e, hb⟩
    · by_cases e' : n = v
      · exact .inr ⟨e', by rw [e', hfpv] at hb; exact hb⟩
      · rw [hfpn n e' e] at hb; cases hb
  have hav : as[v - 1]? = none := List.getElem?_eq_none (by simp only [v]; omega)
  have hSh : ∀ b, S b → Sh w fp [] b := fun b hb => ⟨hS b hb, fun n hm => by
    rcases hmem n b hm with ⟨_, h1⟩ | ⟨_, h1⟩
    · exact hdj b h1 hb
    · exact ((hforb b).1 h1).2 (.inl hb), fun h => by cases h⟩
  have hu0 : us0.length = a0.2.length := by rw [h0.length]; simp [ownCells]
  have hg0 : gh ≠ 0 := by decide
  have hdead : ∀ n, n ≠ gh → (argsW a0 as n).sv ≠ .dead → n < as.length + 1 := fun n hg hsv => by
    unfold argsW at hsv
    have hbq : Nat.beq n gh = false := by
      cases hb : Nat.beq n gh with
      | false => rfl
      | true => exact absurd (Nat.eq_of_beq_eq_true hb) hg
    rw [hbq] at hsv
    cases n with
    | zero => omega
    | succ n =>
      dsimp only [cond_false] at hsv
      cases hx : as[n]? with
      | none => rw [hx] at hsv; exact absurd rfl hsv
      | some x =>
        have := (List.getElem?_eq_some_iff.1 hx).1
        omega
  refine ⟨fp, us, fun _ => 0, fun n => ?_, fun m n hmn b hb hb' => ?_, (fun _ _ _ h => by cases h), fun n => ?_, fun n b hsv hb => ?_, fun b hb hnb => ?_, (fun _ h => by cases h), (fun _ h => by cases h), .nil, fun _ h => .inr h, husg, by unfold argsW; rfl, hng, ?_, rfl, fun g k ho => ho.elim (hS0.2.2 g k) fun ho => absurd (World.block_lt_of_cell? _ _ (hS0.2.1 g k).choose_spec) (Nat.not_lt.2 ho), hS0.2.1⟩
  · by_cases hg : n = gh
    · subst hg
      have e1 : (argsW a0 as gh).sv = .gv (ownCells a0.2) := by unfold argsW; rfl
      rw [e1, hfpg]
      show CellsRel T w _ (ownCells a0.2) (us gh) fp0
      rw [husg]
      exact h0.same (fun _ _ => rfl) hSh (fun _ _ _ h => h)
    · have hbq : Nat.beq n gh = false := by
        cases hb : Nat.beq n gh with
        | false => rfl
        | true => exact absurd (Nat.eq_of_beq_eq_true hb) hg
      cases n with
      | zero =>
        have e1 : (argsW a0 as 0).sv = .gal a0.1 0 a0.2.length := by unfold argsW; rw [hbq]; rfl
        rw [e1, hfpn 0 (by simp only [v]; omega) hg]
        refine ⟨rfl, hl0, ?_⟩
        rw [husg, List.drop_zero, ← hu0, List.take_length]
        rw [Array.getD_eq_getD_getElem?, Array.getElem?_append_left (by simp)]
        rfl
      | succ n =>
        have e1 : (argsW a0 as (n + 1)) = (match as[n]? with | some a => argSlot a | .none => Slot.none) := by unfold argsW; rw [hbq]; rfl
        rw [e1]
        cases hx : as[n]? with
        | none =>
          intro b hb
          rcases hmem _ b hb with ⟨e, _⟩ | ⟨_, h1⟩
          · exact absurd e hg
          · exact ((hforb b).1 h1).1
        | some x =>
          obtain ⟨u, hu, h1, h2, h3⟩ := hus n x hx
          have hnl : n < as.length := (List.getElem?_eq_some_iff.1 hx).1
          have hnv : n + 1 ≠ v := by simp only [v]; omega
          have hev : ((mkv a0.1 us0 :: vals).toArray ++ Array.replicate (nt - (mkv a0.1 us0 :: vals).toArray.size) undef).getD (n + 1) undef = u := by
            rw [Array.getD_eq_getD_getElem?, Array.getElem?_append_left (by simp; omega)]
            simp [hu]
          have husn : us (n + 1) = us' n := by simp only [us]; rw [if_neg hg]; rfl
          rw [hfpn (n + 1) hnv hg]
          refine ⟨hev.trans (by rw [husn]; exact h1), ?_, ?_⟩
          · rw [husn]; exact h2.same (fun _ _ => rfl) hSh (fun _ _ _ h => h)
          · intro hg
            have := h3 hg
            simpa using this
  · rcases hmem m b hb with ⟨e1, h1⟩ | ⟨e1, h1⟩ <;> rcases hmem n b hb' with ⟨e2, h2⟩ | ⟨e2, h2⟩
    · exact hmn (e1.trans e2.symm)
    · exact ((hforb b).1 h2).2 (.inr h1)
    · exact ((hforb b).1 h1).2 (.inr h2)
    · exact hmn (e1.trans e2.symm)
  · by_cases e : n = gh
    · rw [e, hfpg]; exact hnd0
    · by_cases e' : n = v
      · rw [e', hfpv]; exact List.nodup_range.filter _
      · rw [hfpn n e' e]; exact .nil
  · rcases hmem n b hb with ⟨_, h1⟩ | ⟨e, _⟩
    · exact .inl h1
    · subst e
      rcases hsv with hsv | hsv
      · have := hdead v hvg hsv; simp only [v] at this; omega
      · simp only [v] at hsv; omega
  · exact Classical.byContradiction fun hns => hnb v (by
      rw [hfpv]
      exact (hforb b).2 ⟨Classical.byContradiction fun hlt => hb (.inr (Nat.not_lt.1 hlt)), fun hx => hx.elim hns fun h1 => hb (.inl h1)⟩)
  · simp; omega

theorem enter_relO {a0 : Arg} {us0 : List Value} {fp0 : List Nat} {as : List Arg} {vals : List Value} (hS0 : FitW T w S fp0) (h0 : CellsRel T w S (ownCells a0.2) us0 fp0) (hl0 : a0.1 = false → a0.2.length = 1) (hnd0 : fp0.Nodup) (hdj : ∀ b, b ∈ fp0 → ¬ S b)
    (h : ArgsRel T w S as vals) (hn : as.length + 1 ≤ nt) (hng : nt ≤ gh) :
    Rel T S (Bs.these fp0 w.heap.size us0) nt (argsO a0 as) { tmps := (mkv a0.1 us0 :: vals).toArray ++ Array.replicate (nt - (mkv a0.1 us0 :: vals).toArray.size) undef, defers := [] } w := by
  obtain ⟨fp, us, blk, hF⟩ := enter_relW hS0 h0 hl0 hnd0 hdj h hn hng
  have hus : us gh = us0 := hF.gus
  have e1 : (argsW a0 as gh).sv = .gv (ownCells a0.2) := by unfold argsW; rfl
  have e2 : argsW a0 as 0 = ⟨.gal a0.1 0 a0.2.length, ⟨0, 0⟩⟩ := rfl
  have hg0 : (0 : Nat) ≠ gh := by decide
  have hsg := hF.slot gh
  rw [e1] at hsg
  have hsg : CellsRel T w (Sh w fp []) (ownCells a0.2) (us gh) (fp gh) := hsg
  have hs0 := hF.slot 0
  rw [e2] at hs0
  obtain ⟨hf0, hk0, hv0⟩ := hs0
  have hu0 : us0.length = a0.2.length := by rw [h0.length]; simp [ownCells]
  have hv0' : ({ tmps := (mkv a0.1 us0 :: vals).toArray ++ Array.replicate (nt - (mkv a0.1 us0 :: vals).toArray.size) undef, defers := [] } : Act).tmps.getD 0 undef = mkv a0.1 us0 := by
    rw [hv0, hus, List.drop_zero, ← hu0, List.take_length]
  have r1 := hF.re gh (by rw [e1]; exact SV.noConfusion) (.gv ((ownCells a0.2).map Cell.leave)) ⟨0, 1⟩ (.inr ⟨rfl, Nat.lt_succ_self 0⟩) [] (us gh) (fp gh) .nil (hF.nodup gh)
    (fun b hb => by
      rcases hb with hb | hb
      · cases hb
      · exact .inl hb) (fun b hb => by cases hb) (fun _ => ⟨rfl, rfl⟩) (show CellsRel T w (Sh w fp []) _ (upd us gh (us gh) gh) _ from by rw [upd_at]; exact hsg.leave)
  have hup : upd us gh (us gh) = us := by funext n; unfold upd; split <;> simp_all
  rw [hup] at r1
  have hSh1 : ∀ b, Sh w fp [] b → Sh w (upd fp gh []) (fp gh) b := fun b hb =>
    ⟨hb.1, fun n hm => by
      by_cases e : n = gh
      · subst e; rw [upd_at] at hm; cases hm
      · rw [upd_ne _ _ e] at hm; exact hb.2.1 n hm, hb.2.1 gh⟩
  have e3 : ((argsW a0 as).set gh ⟨.gv ((ownCells a0.2).map Cell.leave), ⟨0, 1⟩⟩) 0 = ⟨.gal a0.1 0 a0.2.length, ⟨0, 0⟩⟩ := (St.set_ne _ _ hg0).trans e2
  have r2 := r1.re 0 (by rw [e3]; exact SV.noConfusion) (.val a0.1 (ownCells a0.2)) ⟨0, 1⟩ (.inr ⟨by rw [e3], by rw [e3]; exact Nat.lt_succ_self 0⟩) (fp gh) us0 [] (hF.nodup gh) .nil
    (fun b hb => by
      rcases hb with hb | hb
      · exact .inr hb
      · cases hb) (fun b _ hm => by cases hm) (fun e => absurd e hg0)
    ⟨by rw [upd_at]; exact hv0', by rw [upd_at, ← hus]; exact hsg.same (fun _ _ => rfl) hSh1 (fun _ _ _ h => h), fun e => by simpa [ownCells] using hl0 e⟩
  exact ⟨_, _, _, r2⟩
theorem enter_relX {ow : Bool} {a0 : Arg} {us0 : List Value} {fp0 : List Nat} {as : List Arg} {vals : List Value} (hS0 : FitW T w S fp0) (h0 : CellsRel T w S (ownCells a0.2) us0 fp0) (hl0 : a0.1 = false → a0.2.length = 1) (hnd0 : fp0.Nodup) (hdj : ∀ b, b ∈ fp0 → ¬ S b)
    (h : ArgsRel T w S as vals) (hn : as.length + 1 ≤ nt) (hng : nt ≤ gh) :
    Rel T S (Bs.these fp0 w.heap.size us0) nt (argsX ow a0 as) { tmps := (mkv a0.1 us0 :: vals).toArray ++ Array.replicate (nt - (mkv a0.1 us0 :: vals).toArray.size) undef, defers := [] } w := by
  cases ow with
  | false => exact enter_relW hS0 h0 hl0 hnd0 hdj h hn hng
  | true => exact enter_relO hS0 h0 hl0 hnd0 hdj h hn hng

theorem res_of_tup {r : Res} {uw : List Value} {fq : List Nat} (h : TupRel T w S r uw fq) (hg : ∀ x, x ∈ r → x.2.any Cell.isGone = false) : ResRel T w S r (if h : uw.length = 1 then uw[0] else .tuple uw.toArray) fq := by
  refine ⟨?_, hg⟩
  split
  · rename_i g cs
    generalize hq : ([] : List (Bool × List Cell)) = nl at h
    cases h with
    | cons h1 h2 h3 =>
      subst hq
      cases h3
      rw [List.append_nil]
      exact ⟨_, by simp, h1, h2⟩
  · rename_i hne
    refine ⟨uw, ?_, h⟩
    have : uw.length = r.length := by
      clear hne hg
      induction h with
      | nil => rfl
      | cons _ _ _ ih => simp [ih]
    rw [dif_neg]
    intro h1
    rw [this] at h1
    match r, h1 with
    | [(g, cs)], _ => exact hne g cs rfl

theorem fitRes_len : ∀ {ts : List TypeId} {r r' : Res}, fitRes T ts r = some r' → r'.length = r.length
  | [], [], r', h => by simp only [fitRes, Option.some.injEq] at h; subst h; rfl
  | t :: ts, (g, cs) :: r, r', h => by
    simp only [fitRes] at h
    split at h
    · obtain ⟨r1, h1, rfl⟩ := Option.map_eq_some_iff.1 h
      simp [fitRes_len h1]
    · obtain ⟨ds, h0, h⟩ := Option.bind_eq_some_iff.1 h
      obtain ⟨r1, h1, rfl⟩ := Option.map_eq_some_iff.1 h
      simp [fitRes_len h1]
  | [], _ :: _, _, h => by simp [fitRes] at h
  | _ :: _, [], _, h => by simp [fitRes] at h
theorem CellsRel.plain {cs : List Cell} {us : List Value} {fq : List Nat} (h : CellsRel T w S cs us fq) (hg : cs.any Cell.isGone = false) : CellsRel T w S (cs.map Cell.plain) us fq ∧ (cs.map Cell.plain).any Cell.isGone = false := by
  induction h with
  | nil => exact ⟨.nil, rfl⟩
  | @cons c cs u us fp fp' h _ ih =>
    simp only [List.any_cons, Bool.or_eq_false_iff] at hg
    obtain ⟨i1, i2⟩ := ih hg.2
    have key : CellRel T w S c.plain u fp ∧ c.plain.isGone = false := by
      unfold Cell.plain
      cases hm : c.ct.mem with
      | true => exact ⟨h, hg.1⟩
      | false =>
        have hn := h.mem_nil hm
        subst hn
        exact ⟨⟨(h.toRep (S' := S) hg.1 (fun _ hb => by cases hb) (fun _ hb => hb)).flat hm, rfl⟩, rfl⟩
    refine ⟨.cons key.1 i1, ?_⟩
    rw [List.map_cons, List.any_cons, key.2, i2]; rfl
theorem TupRel.fit : ∀ {ts : List TypeId} {r r' : Res} {uw : List Value} {fq : List Nat}, TupRel T w S r uw fq → (∀ x, x ∈ r → x.2.any Cell.isGone = false) → fitRes T ts r = some r' → TupRel T w S r' uw fq ∧ ∀ x, x ∈ r' → x.2.any Cell.isGone = false
  | [], [], r', uw, fq, h, _, hf => by
    simp only [fitRes, Option.some.injEq] at hf
    subst hf
    exact ⟨h, fun _ h => by cases h⟩
  | t :: ts, (g, cs) :: r, r', uw, fq, h, hg, hf => by
    simp only [fitRes] at hf
    cases h with
    | cons h1 h2 h3 =>
      have hgr : ∀ x, x ∈ r → x.2.any Cell.isGone = false := fun x hx => hg x (List.mem_cons_of_mem _ hx)
      have hg0 := hg (g, cs) List.mem_cons_self
      split at hf
      · obtain ⟨r1, h4, rfl⟩ := Option.map_eq_some_iff.1 hf
        obtain ⟨q1, q2⟩ := TupRel.fit h3 hgr h4
        exact ⟨.cons h1 h2 q1, fun x hx => (List.mem_cons.1 hx).elim (fun e => e ▸ hg0) (q2 x)⟩
      · obtain ⟨ds, h0, hf⟩ := Option.bind_eq_some_iff.1 hf
        obtain ⟨r1, h4, rfl⟩ := Option.map_eq_some_iff.1 hf
        obtain ⟨q1, q2⟩ := TupRel.fit h3 hgr h4
        obtain ⟨k1, k2, k3, _⟩ := fitAll_rel h1 hg0 h0
        obtain ⟨k1, k3⟩ := k1.plain k3
        refine ⟨.cons k1 (fun e => ?_) q1, fun x hx => (List.mem_cons.1 hx).elim (fun e => e ▸ k3) (q2 x)⟩
        have e1 := h1.length
        have e2 := k1.length
        have := h2 e
        rw [List.length_map] at e2 ⊢
        omega
  | [], _ :: _, _, _, _, _, _, hf => by simp [fitRes] at hf
  | _ :: _, [], _, _, _, _, _, hf => by simp [fitRes] at hf
theorem ResRel.fit {ts : List TypeId} {r r' : Res} {v : Value} {fq : List Nat} (h : ResRel T w S r v fq) (hf : fitRes T ts r = some r') : ResRel T w S r' v fq := by
  obtain ⟨h, hg⟩ := h
  split at h
  · rename_i g cs
    obtain ⟨us, rfl, h2, h3⟩ := h
    match ts, hf with
    | [], hf => simp [fitRes] at hf
    | t :: ts, hf =>
      simp only [fitRes] at hf
      have hg0 := hg (g, cs) List.mem_cons_self
      split at hf
      · obtain ⟨r1, h4, rfl⟩ := Option.map_eq_some_iff.1 hf
        have : r1 = [] := by
          have := fitRes_len h4
          exact List.eq_nil_of_length_eq_zero this
        subst this
        exact ⟨⟨us, rfl, h2, h3⟩, hg⟩
      · obtain ⟨ds, h0, hf⟩ := Option.bind_eq_some_iff.1 hf
        obtain ⟨r1, h4, rfl⟩ := Option.map_eq_some_iff.1 hf
        have : r1 = [] := by
          have := fitRes_len h4
          exact List.eq_nil_of_length_eq_zero this
        subst this
        obtain ⟨k1, k2, k3, _⟩ := fitAll_rel h2 hg0 h0
        obtain ⟨k1, k3⟩ := k1.plain k3
        refine ⟨⟨us, rfl, k1, fun e => ?_⟩, fun x hx => ?_⟩
        · have e1 := h2.length
          have e2 := k1.length
          have := h3 e
          rw [List.length_map] at e2 ⊢
          omega
        · rw [List.mem_singleton.1 hx]; exact k3
  · rename_i hne
    obtain ⟨uw, rfl, h2⟩ := h
    obtain ⟨q1, q2⟩ := TupRel.fit h2 hg hf
    refine ⟨?_, q2⟩
    split
    · rename_i g cs
      have hl := fitRes_len hf
      match r, hl with
      | [(g', cs')], _ => exact absurd rfl (hne g' cs')
    · exact ⟨uw, rfl, q1⟩

theorem results_sound {fn : Func} {r : Res} (hT : TabOk P T) (h : Rel T S base nt σ a w) (he : resultsOf T σ fn.results.toList = some r) :
    ∃ v fq, (results fn a.tmps).run P w = .ok v w ∧ ResRel T w (fun b => b < w.heap.size ∧ (S b ∨ base.own b) ∧ b ∉ fq) r v fq ∧ fq.Nodup ∧ ∀ b, b ∈ fq → base.own b ∧ b < w.heap.size := by
  obtain ⟨fp, us, blk, hF⟩ := h
  unfold resultsOf at he
  split at he
  · rename_i hd
    obtain ⟨uw, fq, q1, q2, q3, q4, q5⟩ := results_list (P := P) hT hF hd he
    refine ⟨_, fq, results_run q1, res_of_tup (q2.same (fun _ _ => rfl) (fun b hb => ⟨hb.1, ?_, fun hm => ?_⟩) (fun _ _ _ h => h)) q3, q5, fun b hb => ?_⟩
    · by_cases hge : base.own b
      · exact .inr hge
      · exact .inl (hF.low b hge hb.2.1)
    · obtain ⟨n, _, h2, _⟩ := q4 b hm
      exact hb.2.1 n h2
    · obtain ⟨n, _, h2, h3⟩ := q4 b hb
      exact ⟨hF.lo n b (.inl h3) h2, hF.lt n b h2⟩
  · cases he

end

end Go.Proofs.Ytabdjbkbfilhkaa.V
