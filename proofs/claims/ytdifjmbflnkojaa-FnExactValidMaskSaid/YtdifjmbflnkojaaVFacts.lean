/- The tables are right for this translation. No condition. -/
import Derived.Test.YtdifjmbflnkojaaVTab
import Derived.Test.YtdifjmbflnkojaaV35
import Derived.KernelRfl
namespace Go.Proofs.Ytdifjmbflnkojaa.V
open Go
theorem tab_ok : TabOk Go.Proofs.Try.prog tab := checkAll_ok (l := tabL) (by kernel_rfl)
theorem names_ok : NamesOk Go.Proofs.Try.prog := checkNames_ok (by kernel_rfl)
theorem mixed_ok : Go.Proofs.Try.prog.follows .mixedOrders = true := by kernel_rfl
theorem laid_ok : laidOutB Go.Proofs.Try.prog = true := by kernel_rfl
end Go.Proofs.Ytdifjmbflnkojaa.V
