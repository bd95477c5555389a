import Derived.Test.YtabdjbkbfilhkaaV35
namespace Go.Proofs.Ytabdjbkbfilhkaa.V
open Go Go.RowKit Go.ChangeShapes Go.WideShapes

theorem DOk.also0 {P : Program} {T : Tab} {D : Dt} (hD : DOk P T D) {f : FuncId} {S : List Arg → Option (Bool × Res)} (hS : ∀ xs r, S xs ≠ some (true, r)) : DOk P T (V.also D f S) := by
  refine ⟨fun g xs r hr => ?_, fun g a0 as gg ds r hr => hD.wri g a0 as gg ds r ?_, hD.meth⟩
  · unfold V.also at hr
    cases hg : (Nat.beq g f && !isMark xs) with
    | false => rw [hg] at hr; exact hD.plain g xs r hr
    | true =>
      rw [hg] at hr
      simp only [cond_true] at hr
      cases hs : S xs with
      | none => rw [hs] at hr; exact hD.plain g xs r hr
      | some p => rw [hs] at hr; exact absurd (hs.trans hr) (hS xs r)
  · unfold V.also at hr
    have : (Nat.beq g f && !isMark (mark :: a0 :: as)) = false := by rw [show isMark (mark :: a0 :: as) = true from rfl]; simp
    rw [this] at hr
    exact hr
end Go.Proofs.Ytabdjbkbfilhkaa.V
