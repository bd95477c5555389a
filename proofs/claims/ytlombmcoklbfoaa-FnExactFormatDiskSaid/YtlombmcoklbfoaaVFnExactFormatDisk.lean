/- What the functions of FnExactFormatDisk answer. No condition. -/
import Derived.Test.YtlombmcoklbfoaaVFnExactFormatDiskP1
namespace Go.Proofs.Ytlombmcoklbfoaa.V
open Go
set_option maxRecDepth 100000
set_option linter.unusedVariables false
set_option linter.unusedSectionVars false
set_option linter.unusedSimpArgs false
set_option maxHeartbeats 2000000
noncomputable section
theorem laws_FnExactFormatDisk_pure : ∀ xs, ArgsTyped tab [2, 2] xs → runF tab FT D32 live 3 noLoops xs = yes := by
  intro xs h
  cases h with | cons l0 g0 h =>
  obtain ⟨z0_0, rfl⟩ := len_1 l0
  have q0 := g0 0 (by decide)
  have q0 : Typed tab (.int .i64) z0_0 := q0
  obtain ⟨y0, rfl⟩ := typed_int q0
  cases h with | cons l1 g1 h =>
  obtain ⟨z1_0, rfl⟩ := len_1 l1
  have q1 := g1 0 (by decide)
  have q1 : Typed tab (.int .i64) z1_0 := q1
  obtain ⟨y1, rfl⟩ := typed_int q1
  cases h
  refine (laws_FnExactFormatDisk_e y0 y1).trans ?_
  rw [Tr.run_eq, laws_FnExactFormatDisk_p y0 y1 q0 q1]
  rfl
end
end Go.Proofs.Ytlombmcoklbfoaa.V
