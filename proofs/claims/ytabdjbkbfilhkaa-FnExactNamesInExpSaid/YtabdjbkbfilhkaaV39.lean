import Derived.Test.YtabdjbkbfilhkaaV38
import Derived.Shelf.Strings.BuilderK
namespace Go.Proofs.Ytabdjbkbfilhkaa.V
open Go Go.RowKit Go.Shelf

theorem answers_of_calls {P : Program} (hN : NamesOk P) {f : FuncId} {fn : Func} {c : Code} (hf : P.funcs[f]? = some fn) (hb : fn.body = some c) {vals : Array Value} {w : World} {R : Value → World → Prop}
    (h : Calls P f vals w fun e w' => ∃ v, e = .returned v ∧ R v w') : Answers P f vals w R := by
  intro o a next Q hnext
  have hrun : (callFunc f vals).run P w = .ok (.enter f vals) w := by
    have hn : ¬ fn.name = "runtime.NumGoroutine" := by simpa using hN f fn hf
    simp [callFunc, hf, hn, hb]
  rw [hrun, Oper.upon_enter]
  refine h.mono fun e w' he => ?_
  obtain ⟨v, rfl, h⟩ := he
  exact hnext v w' h

def PlainRes (T : Tab) (w : World) (S : Nat → Prop) (r : Res) (v : Value) (w' : World) : Prop :=
  ∃ fq, ResRel T w' (fun b => b < w'.heap.size ∧ (S b ∨ w.heap.size ≤ b) ∧ b ∉ fq) r v fq ∧ fq.Nodup ∧ (∀ b, b ∈ fq → w.heap.size ≤ b ∧ b < w'.heap.size) ∧ Below w.heap.size w w'

theorem DOk.alsoC {P : Program} {T : Tab} {D : Dt} (hN : NamesOk P) (hD : DOk P T D) {f : FuncId} {fn : Func} {c : Code} (hf : P.funcs[f]? = some fn) (hb : fn.body = some c) {S : List Arg → Option (Bool × Res)}
    (he : ∀ xs r, S xs = some (true, r) → ∀ (w : World) (S' : Nat → Prop) (vals : List Value), (∀ b, S' b → b < w.heap.size) → intGl T w → ArgsRel T w S' xs vals →
      Calls P f vals.toArray w fun e w' => ∃ v, e = .returned v ∧ PlainRes T w S' r v w') : DOk P T (V.also D f S) := by
  refine ⟨fun g xs r hr => ?_, fun g a0 ys gg ds r hr => hD.wri g a0 ys gg ds r ?_, hD.meth⟩
  · unfold V.also at hr
    cases hg : (Nat.beq g f && !isMark xs) with
    | false => rw [hg] at hr; exact hD.plain g xs r hr
    | true =>
      rw [hg] at hr
      simp only [cond_true] at hr
      cases hS : S xs with
      | none => rw [hS] at hr; exact hD.plain g xs r hr
      | some p =>
        rw [hS] at hr
        have hgf := Nat.eq_of_beq_eq_true (Bool.and_eq_true_iff.1 hg).1
        subst hgf
        intro w S' vals hS' hargs
        refine answers_of_calls hN hf hb ?_
        exact he xs r (hS.trans hr) w S' vals hS'.1 hS'.2 hargs
  · unfold V.also at hr
    have : (Nat.beq g f && !isMark (mark :: a0 :: ys)) = false := by rw [show isMark (mark :: a0 :: ys) = true from rfl]; simp
    rw [this] at hr
    exact hr

/-! ### Arguments and results, one by one -/
section
variable {T : Tab} {w w' : World} {S : Nat → Prop}
theorem args_nil {us : List Value} (h : ArgsRel T w S [] us) : us = [] := by cases h; rfl
theorem args_cons {x : Arg} {xs : List Arg} {us : List Value} (h : ArgsRel T w S (x :: xs) us) : ∃ u us', us = u :: us' ∧ ArgRel T w S x u ∧ ArgsRel T w S xs us' := by
  cases h with
  | cons h1 h2 => exact ⟨_, _, rfl, h1, h2⟩
theorem cells_nil_fp {c : Cell} {cs : List Cell} {us : List Value} {fp : List Nat} (h : CellsRel T w S (c :: cs) us fp) (hf : fp = []) : ∃ u us', us = u :: us' ∧ CellRel T w S c u [] ∧ CellsRel T w S cs us' [] := by
  cases h with
  | cons h1 h2 =>
    obtain ⟨e1, e2⟩ := List.append_eq_nil_iff.1 hf
    subst e1 e2
    exact ⟨_, _, rfl, h1, h2⟩
theorem arg_rep {ct : CT} {c : TC} {u : Value} (h : ArgRel T w S (false, [(ct, c)]) u) : RepC T w S ct u c := by
  obtain ⟨us, h1, h2, _⟩ := h
  obtain ⟨u0, us', rfl, h3, h4⟩ := cells_nil_fp h2 rfl
  cases h4
  rw [h1]
  exact h3.1
theorem rep_str' {u : Value} {l : List UInt8} (h : RepC T w S .str u (.s l)) : u = .string ⟨l.toArray⟩ := by cases h; rfl
theorem plain_flat {ct : CT} {c : TC} {v : Value} (hm : ct.mem = false) (h : RepC T w' (fun _ => False) ct v c) (hb : Below w.heap.size w w') : PlainRes T w S [(false, [⟨ct, .sh, c⟩])] v w' := by
  refine ⟨[], ⟨⟨[v], rfl, .cons (fp := []) (fp' := []) ⟨h.flat hm, rfl⟩ .nil, fun _ => rfl⟩, fun x hx => ?_⟩, List.nodup_nil, (fun _ h => by cases h), hb⟩
  rw [List.mem_singleton.1 hx]; rfl
end

/-! ### strings.Builder -/
theorem Blk.set {w : World} {g : Nat} {cur : List Value} {e : TypeId} (h : Blk w g cur e) (j : Nat) (v : Value) : Blk (w.setCell ⟨g, j, none⟩ v) g (cur.set j v) e := by
  obtain ⟨fr, hh, hf⟩ := h
  refine ⟨fr, ?_, by simpa using hf⟩
  simp [World.setCell, Array.getElem?_modify, hh]
theorem Chg.set (w : World) (g j : Nat) (v : Value) : Chg w (w.setCell ⟨g, j, none⟩ v) [g] :=
  ⟨rfl, rfl, rfl, by simp [World.setCell], fun k hk hn => Below.heap_setCell _ _ _ _ (by simpa using hn)⟩
section
variable {P : Program} {ρ : Ren} {T : Tab}

set_option maxHeartbeats 4000000 in
set_option maxRecDepth 100000 in
set_option maxHeartbeats 1000000 in
set_option maxRecDepth 100000 in
set_option maxHeartbeats 2000000 in
set_option maxRecDepth 100000 in
set_option maxHeartbeats 2000000 in
set_option maxRecDepth 100000 in
set_option maxHeartbeats 2000000 in
set_option maxRecDepth 100000 in
set_option maxHeartbeats 2000000 in
set_option maxRecDepth 100000 in
end

end Go.Proofs.Ytabdjbkbfilhkaa.V
