/- What the functions of FnExactEncodeMapping answer. No condition. -/
import Derived.Test.YtjhbfeeaehaniaaDoorVFnExactEncodeMappingP1
namespace Go.Proofs.YtjhbfeeaehaniaaDoor.V
open Go
set_option maxRecDepth 100000
set_option linter.unusedVariables false
set_option linter.unusedSectionVars false
set_option linter.unusedSimpArgs false
set_option maxHeartbeats 2000000
noncomputable section
theorem qn_5_r (k : Int) (A S C B P : LL) (m i : Int) (fuel : Nat) : rounds (rnd tab FT D17 live 33 qn_lo 0 5) leave (fuel + 1) (qn_5_sl (k, A, S, C, B, P, m, i)) = ((qn_5_step k A S C B P m i)).run (goOn (fun s => rounds (rnd tab FT D17 live 33 qn_lo 0 5) leave fuel (qn_5_sl s)) fun w => some (qn_5_out w)) := by kernel_rfl
end
end Go.Proofs.YtjhbfeeaehaniaaDoor.V
