/- What the functions of FnExactElementsLost answer. No condition. -/
import Derived.Test.YtkgjindjaaggkaaVFnExactElementsLostP2
namespace Go.Proofs.Ytkgjindjaaggkaa.V
open Go
set_option maxRecDepth 100000
set_option linter.unusedVariables false
set_option linter.unusedSectionVars false
set_option linter.unusedSimpArgs false
set_option maxHeartbeats 2000000
noncomputable section
theorem laws_FnExactElementsLost_pure : ∀ xs, ArgsTyped tab [22, 22, 22, 2] xs → runF tab FT D37 live 4 noLoops xs = yes := by
  intro xs h
  cases h with | cons l0 g0 h =>
  obtain ⟨z0_0, rfl⟩ := len_1 l0
  have q0 := g0 0 (by decide)
  have q0 : Typed tab (.slice 2) z0_0 := q0
  obtain ⟨y0, rfl⟩ := typed_slice q0
  cases h with | cons l1 g1 h =>
  obtain ⟨z1_0, rfl⟩ := len_1 l1
  have q1 := g1 0 (by decide)
  have q1 : Typed tab (.slice 2) z1_0 := q1
  obtain ⟨y1, rfl⟩ := typed_slice q1
  cases h with | cons l2 g2 h =>
  obtain ⟨z2_0, rfl⟩ := len_1 l2
  have q2 := g2 0 (by decide)
  have q2 : Typed tab (.slice 2) z2_0 := q2
  obtain ⟨y2, rfl⟩ := typed_slice q2
  cases h with | cons l3 g3 h =>
  obtain ⟨z3_0, rfl⟩ := len_1 l3
  have q3 := g3 0 (by decide)
  have q3 : Typed tab (.int .i64) z3_0 := q3
  obtain ⟨y3, rfl⟩ := typed_int q3
  cases h
  refine (laws_FnExactElementsLost_e y0 y1 y2 y3).trans ?_
  rw [Tr.run_eq, laws_FnExactElementsLost_p y0 y1 y2 y3 q0 q1 q2 q3]
  rfl
end
end Go.Proofs.Ytkgjindjaaggkaa.V
