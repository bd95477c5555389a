/- What the functions of FnExactChunkKeys answer. No condition. -/
import Derived.Test.YtmdbccmbmcgclaaVFnExactChunkKeysP1
namespace Go.Proofs.Ytmdbccmbmcgclaa.V
open Go
set_option maxRecDepth 100000
set_option linter.unusedVariables false
set_option linter.unusedSectionVars false
set_option linter.unusedSimpArgs false
set_option maxHeartbeats 2000000
theorem laws_FnExactChunkKeys_pure : ∀ xs, ArgsTyped tab [22, 22] xs → runF tab FT D26 live 3 noLoops xs = yes := by
  intro xs h
  cases h with | cons l0 g0 h =>
  obtain ⟨z0_0, rfl⟩ := len_1 l0
  have q0 := g0 0 (by decide)
  have q0 : Typed tab (.slice 2) z0_0 := q0
  obtain ⟨y0, rfl⟩ := typed_slice q0
  cases h with | cons l1 g1 h =>
  obtain ⟨z1_0, rfl⟩ := len_1 l1
  have q1 := g1 0 (by decide)
  have q1 : Typed tab (.slice 2) z1_0 := q1
  obtain ⟨y1, rfl⟩ := typed_slice q1
  cases h
  refine (laws_FnExactChunkKeys_e y0 y1).trans ?_
  rw [Tr.run_eq, laws_FnExactChunkKeys_p y0 y1 q0 q1]
  rfl
end Go.Proofs.Ytmdbccmbmcgclaa.V
