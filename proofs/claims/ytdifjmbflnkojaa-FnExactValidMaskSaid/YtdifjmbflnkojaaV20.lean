/- What the evaluator says of a function is what the machine's call of it answers. No condition beyond what is said of the types, the names and the functions told by hand. -/
import Derived.Test.YtdifjmbflnkojaaV19
namespace Go.Proofs.Ytdifjmbflnkojaa.V
open Go Go.RowKit

/-- No function bears the one name that the machine answers by itself. -/
def NamesOk (P : Program) : Prop := ∀ (f : FuncId) (fn : Func), P.funcs[f]? = some fn → (fn.name == "runtime.NumGoroutine") = false

section
variable {P : Program} {T : Tab} {G : Nat → Prop} {base nt : Nat} {σ : St} {a : Act} {w w' : World} {D : FuncId → List Arg → Option (Bool × Res)} {Q : Exit → Act → World → Prop} {o : Oper} {S : Nat → Prop}

theorem ArgsRel.length {as : List Arg} {vals : List Value} (h : ArgsRel T w S as vals) : vals.length = as.length := by
  induction h with
  | nil => rfl
  | cons _ _ ih => simp [ih]

theorem ArgsRel.at {as : List Arg} {vals : List Value} (h : ArgsRel T w S as vals) : ∀ {n : Nat} {x : Arg}, as[n]? = some x → ∃ u, vals[n]? = some u ∧ ArgRel T w S x u := by
  induction h with
  | nil => intro n x h; simp at h
  | cons h _ ih =>
    intro n x hn
    cases n with
    | zero => simp only [List.getElem?_cons_zero, Option.some.injEq] at hn; subst hn; exact ⟨_, rfl, h⟩
    | succ n => simp only [List.getElem?_cons_succ] at hn; simpa using ih hn

/-- A function's slots at its call. -/
theorem enter_rel {as : List Arg} {vals : List Value} (hS : ∀ b, S b → b < w.heap.size) (h : ArgsRel T w S as vals) (hn : as.length ≤ nt) :
    Rel T S w.heap.size nt (argsSt as) { tmps := vals.toArray ++ Array.replicate (nt - vals.toArray.size) undef, defers := [] } w := by
  classical
  have hex : ∀ n : Nat, ∃ us : List Value, ∀ x : Arg, as[n]? = some x → ∃ u, vals[n]? = some u ∧ u = mkv x.1 us ∧ CellsRel T w S (shCells x.2) us [] ∧ (x.1 = false → x.2.length = 1) := by
    intro n
    cases hx : as[n]? with
    | none => exact ⟨[], fun _ h => by cases h⟩
    | some x =>
      obtain ⟨u, hu, us, h1, h2, h3⟩ := h.at hx
      exact ⟨us, fun y hy => by cases hy; exact ⟨u, hu, h1, h2, h3⟩⟩
  obtain ⟨us, hus⟩ := Classical.axiomOfChoice hex
  let forb := (List.range w.heap.size).filter fun b => !decide (S b)
  let v := as.length + nt
  have hforb : ∀ b, b ∈ forb ↔ b < w.heap.size ∧ ¬ S b := fun b => by simp [forb]
  have hlen := h.length
  let fp : Nat → List Nat := fun n => if n = v then forb else []
  have hfpv : fp v = forb := by simp [fp]
  have hfpn : ∀ n, n ≠ v → fp n = [] := fun n hn => by simp [fp, hn]
  have hmem : ∀ n b, b ∈ fp n → n = v ∧ b ∈ forb := fun n b hb => by
    by_cases e : n = v
    · exact ⟨e, by rw [e, hfpv] at hb; exact hb⟩
    · rw [hfpn n e] at hb; cases hb
  have hav : as[v]? = none := List.getElem?_eq_none (by simp [v])
  have hSh : ∀ b, S b → Sh w fp [] b := fun b hb => ⟨hS b hb, fun n hm => ((hforb b).1 (hmem n b hm).2).2 hb, fun h => by cases h⟩
  refine ⟨fp, us, fun _ => 0, fun n => ?_, fun m n hmn b hb hb' => hmn ((hmem m b hb).1.trans (hmem n b hb').1.symm), (fun _ _ _ h => by cases h), fun n => ?_, fun n b hsv hb => ?_, fun b hb hnb => ?_, (fun _ h => by cases h), (fun _ h => by cases h), .nil, Nat.le_refl _, ?_, rfl⟩
  · unfold argsSt
    cases hx : as[n]? with
    | none =>
      intro b hb
      exact ((hforb b).1 (hmem n b hb).2).1
    | some x =>
      obtain ⟨u, hu, h1, h2, h3⟩ := hus n x hx
      have hnl : n < as.length := (List.getElem?_eq_some_iff.1 hx).1
      have hnv : n ≠ v := by simp only [v]; omega
      have hev : (vals.toArray ++ Array.replicate (nt - vals.toArray.size) undef).getD n undef = u := by
        rw [Array.getD_eq_getD_getElem?, Array.getElem?_append_left (by simp; omega)]
        simp [hu]
      rw [hfpn n hnv]
      refine ⟨hev.trans h1, ?_, ?_⟩
      · exact h2.same (fun _ _ => rfl) hSh (fun _ _ _ h => h)
      · intro hg
        have := h3 hg
        simpa using this
  · by_cases e : n = v
    · rw [e, hfpv]; exact List.nodup_range.filter _
    · rw [hfpn n e]; exact .nil
  · obtain ⟨rfl, _⟩ := hmem n b hb
    rcases hsv with hsv | hsv
    · exact absurd (by unfold argsSt; rw [hav]; rfl) hsv
    · simp only [v] at hsv; omega
  · exact Classical.byContradiction fun hns => hnb v (by rw [hfpv]; exact (hforb b).2 ⟨hb, hns⟩)
  · simp; omega

theorem res_of_tup {r : Res} {uw : List Value} {fq : List Nat} (h : TupRel T w S r uw fq) (hg : ∀ x, x ∈ r → x.2.any Cell.isGone = false) : ResRel T w S r (if h : uw.length = 1 then uw[0] else .tuple uw.toArray) fq := by
  refine ⟨?_, hg⟩
  split
  · rename_i g cs
    generalize hq : ([] : List (Bool × List Cell)) = nl at h
    cases h with
    | cons h1 h2 h3 =>
      subst hq
      cases h3
      rw [List.append_nil]
      exact ⟨_, by simp, h1, h2⟩
  · rename_i hne
    refine ⟨uw, ?_, h⟩
    have : uw.length = r.length := by
      clear hne hg
      induction h with
      | nil => rfl
      | cons _ _ _ ih => simp [ih]
    rw [dif_neg]
    intro h1
    rw [this] at h1
    match r, h1 with
    | [(g, cs)], _ => exact hne g cs rfl

theorem results_sound {fn : Func} {r : Res} (hT : TabOk P T) (h : Rel T S base nt σ a w) (he : resultsOf T σ fn.results.toList = some r) :
    ∃ v fq, (results fn a.tmps).run P w = .ok v w ∧ ResRel T w (fun b => b < w.heap.size ∧ (S b ∨ base ≤ b) ∧ b ∉ fq) r v fq ∧ fq.Nodup ∧ ∀ b, b ∈ fq → base ≤ b ∧ b < w.heap.size := by
  obtain ⟨fp, us, blk, hF⟩ := h
  unfold resultsOf at he
  split at he
  · rename_i hd
    obtain ⟨uw, fq, q1, q2, q3, q4, q5⟩ := results_list (P := P) hT hF hd he
    refine ⟨_, fq, results_run q1, res_of_tup (q2.same (fun _ _ => rfl) (fun b hb => ⟨hb.1, ?_, fun hm => ?_⟩) (fun _ _ _ h => h)) q3, q5, fun b hb => ?_⟩
    · rcases Nat.lt_or_ge b base with hlt | hge
      · exact .inl (hF.low b hlt hb.2.1)
      · exact .inr hge
    · obtain ⟨n, _, h2, _⟩ := q4 b hm
      exact hb.2.1 n h2
    · obtain ⟨n, _, h2, h3⟩ := q4 b hb
      exact ⟨hF.lo n b (.inl h3) h2, hF.lt n b h2⟩
  · cases he

end

end Go.Proofs.Ytdifjmbflnkojaa.V
