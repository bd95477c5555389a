import Derived.Test.YtabdjbkbfilhkaaV18
namespace Go.Proofs.Ytabdjbkbfilhkaa.V
open Go Go.RowKit

section
variable {P : Program} {T : Tab} {G : Nat → Prop} {base : Bs} {nt : Nat} {σ : St} {a : Act} {w w' : World} {F : List Nat} {fp : Nat → List Nat} {us : Nat → List Value} {blk : Nat → Nat} {D : FuncId → List Arg → Option (Bool × Res)} {Q : Exit → Act → World → Prop} {o : Oper}

def oneResult (tmps : Array Value) : ResultVar → Sem Value
  | .tmp t => pure (tmps.getD t undef)
  | .cell a t => do loadVar t (← asAddr (tmps.getD a undef))

theorem result_sound (hT : TabOk P T) (hF : RelF T G base nt σ a w F fp us blk) {rv : ResultVar} {g : Bool} {cs : List Cell} (he : resultOf T σ rv = some (g, cs)) :
    ∃ vs fq, (oneResult a.tmps rv).run P w = .ok (mkv g vs) w ∧ CellsRel T w (Sh w fp F) cs vs fq ∧ (g = false → cs.length = 1) ∧ cs.any Cell.isGone = false ∧ (∀ b, b ∈ fq → b ∈ fp (slotOf rv)) ∧ fq.Nodup ∧ (σ (slotOf rv)).sv ≠ .dead := by
  cases rv with
  | tmp t =>
    simp only [resultOf] at he
    split at he
    · rename_i g' cs' hsv
      split at he
      · cases he
      · rename_i hg
        simp only [Option.some.injEq, Prod.mk.injEq] at he
        obtain ⟨rfl, rfl⟩ := he
        have hs := hF.slot t
        rw [hsv] at hs
        refine ⟨us t, fp t, ?_, hs.2.1, hs.2.2, by simpa using hg, fun _ h => h, hF.nodup t, by show (σ t).sv ≠ _; rw [hsv]; exact SV.noConfusion⟩
        simp only [oneResult, Sem.run_pure]
        rw [hs.1]
    · cases he
  | cell p t =>
    simp only [resultOf] at he
    split at he
    · rename_i e cs' hsv
      split at he
      · cases he
      · rename_i hg
        split at he
        · rename_i hc
          obtain ⟨hct, hko⟩ := hc
          simp only [Option.some.injEq, Prod.mk.injEq] at he
          obtain ⟨rfl, rfl⟩ := he
          have hs := hF.slot p
          rw [hsv] at hs
          obtain ⟨hp, hb, ⟨fq, hfq, hcr⟩, hty⟩ := hs
          have hlen : (us p).length = (T t).cts.length := by rw [hcr.length, ← ctsOf_length, hct]
          have hnd := hF.nodup p
          rw [hfq] at hnd
          refine ⟨us p, fq, ?_, hcr, fun h => by rw [← ctsOf_length, hct]; exact agg_cts hT hko h, by simpa using hg, fun b hb => by show b ∈ fp p; rw [hfq]; exact List.mem_cons_of_mem _ hb, (List.nodup_cons.1 hnd).2, by show (σ p).sv ≠ _; rw [hsv]; exact SV.noConfusion⟩
          have hld := run_loadAt (P := P) (w := w) hT hko (ad := ⟨blk p, 0, none⟩) hlen (fun j v hj => by rw [add_zero_block, hb.cell]; exact hj)
          simp only [oneResult, Sem.run_bind, hp]
          simpa [Instr.loadAt, Instr.sureAddr, asAddr] using hld
        · cases he
    · cases he

theorem results_list (hT : TabOk P T) (hF : RelF T G base nt σ a w F fp us blk) : ∀ {rs : List ResultVar} {r : Res}, distinct (rs.map slotOf) = true → rs.mapM (resultOf T σ) = some r →
    ∃ uw fq, (rs.mapM (oneResult a.tmps)).run P w = .ok uw w ∧ TupRel T w (Sh w fp F) r uw fq ∧ (∀ x, x ∈ r → x.2.any Cell.isGone = false) ∧ (∀ b, b ∈ fq → ∃ n, n ∈ rs.map slotOf ∧ b ∈ fp n ∧ (σ n).sv ≠ .dead) ∧ fq.Nodup
  | [], r, _, he => by
    simp only [List.mapM_nil] at he
    cases he
    exact ⟨[], [], by simp, .nil, (fun _ h => by cases h), (fun _ h => by cases h), .nil⟩
  | rv :: rs, r, hd, he => by
    simp only [List.map_cons, distinct, Bool.and_eq_true, Bool.not_eq_true'] at hd
    obtain ⟨hd1, hd2⟩ := hd
    have hd1' : slotOf rv ∉ rs.map slotOf := by simpa using hd1
    simp only [List.mapM_cons] at he
    obtain ⟨⟨g, cs⟩, h1, h2⟩ := Option.bind_eq_some_iff.1 he
    obtain ⟨r', h3, h4⟩ := Option.bind_eq_some_iff.1 h2
    cases h4
    obtain ⟨vs, fq, q1, q2, q3, q4, q5, q6, q7⟩ := result_sound hT hF h1
    obtain ⟨uw, fq', k1, k2, k3, k4, k5⟩ := results_list hT hF hd2 h3
    refine ⟨mkv g vs :: uw, fq ++ fq', ?_, .cons q2 q3 k2, fun x hx => ?_, fun b hb => ?_, List.nodup_append.2 ⟨q6, k5, fun x hx y hy e => ?_⟩⟩
    · simp only [List.mapM_cons, Sem.run_bind, q1, Result.andThen_ok, k1, Sem.run_pure]
    · rcases List.mem_cons.1 hx with rfl | hx
      · exact q4
      · exact k3 x hx
    · rcases List.mem_append.1 hb with hb | hb
      · exact ⟨slotOf rv, by simp, q5 b hb, q7⟩
      · obtain ⟨n, h1, h2, h3⟩ := k4 b hb
        exact ⟨n, by simp at h1 ⊢; exact .inr h1, h2, h3⟩
    · subst e
      obtain ⟨n, h1, h2, _⟩ := k4 x hy
      refine hF.disj (slotOf rv) n (fun e => hd1' (e ▸ h1)) x (q5 x hx) h2

theorem results_run {fn : Func} {uw : List Value} (h : (fn.results.toList.mapM (oneResult a.tmps)).run P w = .ok uw w) :
    (results fn a.tmps).run P w = .ok (if h : uw.length = 1 then uw[0] else .tuple uw.toArray) w := by
  have e : fn.results.mapM (oneResult a.tmps) = (List.toArray <$> fn.results.toList.mapM (oneResult a.tmps)) := by
    rw [Array.mapM_eq_mapM_toList]
  have e2 : results fn a.tmps = (do let vs ← fn.results.mapM (oneResult a.tmps); pure (if h : vs.size = 1 then vs[0] else .tuple vs)) := rfl
  rw [e2, e]
  simp only [Sem.run_bind, Sem.run_map, h]
  by_cases hl : uw.length = 1
  · simp [hl]
  · simp [hl]
end

end Go.Proofs.Ytabdjbkbfilhkaa.V
