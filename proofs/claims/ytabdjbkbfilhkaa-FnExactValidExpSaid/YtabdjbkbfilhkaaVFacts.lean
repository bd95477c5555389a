/- The tables are right for this translation. No condition. -/
import Derived.Test.YtabdjbkbfilhkaaVTab
import Derived.Test.YtabdjbkbfilhkaaV45
import Derived.KernelRfl
import Derived.Maps.Own
import Derived.Maps.OwnSet
import Derived.WalkKit
import Derived.WalkSpells
namespace Go.Proofs.Ytabdjbkbfilhkaa.V
open Go Go.Proofs Go.Shelf
theorem tab_ok : TabOk Go.Proofs.Try.prog tab := checkAll_ok (l := tabL) (m := methL) (by kernel_rfl)
theorem names_ok : NamesOk Go.Proofs.Try.prog := checkNames_ok (by kernel_rfl)
theorem mixed_ok : Go.Proofs.Try.prog.follows .mixedOrders = true := by kernel_rfl
theorem laid_ok : laidOutB Go.Proofs.Try.prog = true := by kernel_rfl
theorem meth_ok : MethOk Go.Proofs.Try.prog tab := methOk_none2 (l := tabL) (m := methL) (by kernel_rfl) (by kernel_rfl)
theorem gl_none (g : Nat) : ¬ isGl tab g := noGl (by kernel_rfl) g
theorem d0 : DOk Go.Proofs.Try.prog tab D0 := d00 meth_ok
end Go.Proofs.Ytabdjbkbfilhkaa.V
