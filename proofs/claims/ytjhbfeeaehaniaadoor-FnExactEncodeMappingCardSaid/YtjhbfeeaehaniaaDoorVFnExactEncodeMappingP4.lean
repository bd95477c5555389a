/- What the functions of FnExactEncodeMapping answer. No condition. -/
import Derived.Test.YtjhbfeeaehaniaaDoorVFnExactEncodeMappingP3
namespace Go.Proofs.YtjhbfeeaehaniaaDoor.V
open Go
set_option maxRecDepth 100000
set_option linter.unusedVariables false
set_option linter.unusedSectionVars false
set_option linter.unusedSimpArgs false
set_option maxHeartbeats 2000000
noncomputable section
theorem qb_5_r (k : Int) (A S C B P : LL) (m i : Int) (fuel : Nat) : rounds (rnd tab FT D43 live 38 qb_lo 0 5) leave (fuel + 1) (qb_5_sl (k, A, S, C, B, P, m, i)) = ((qb_5_step k A S C B P m i)).run (goOn (fun s => rounds (rnd tab FT D43 live 38 qb_lo 0 5) leave fuel (qb_5_sl s)) fun w => some (qb_5_out w)) := by kernel_rfl
end
end Go.Proofs.YtjhbfeeaehaniaaDoor.V
