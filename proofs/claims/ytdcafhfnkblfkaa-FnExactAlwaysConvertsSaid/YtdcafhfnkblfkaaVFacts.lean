/- The tables are right for this translation. No condition. -/
import Derived.Test.YtdcafhfnkblfkaaVTab
import Derived.Test.YtdcafhfnkblfkaaV43
import Derived.KernelRfl
import Derived.Shelf.Strings.Repeat
namespace Go.Proofs.Ytdcafhfnkblfkaa.V
open Go Go.Proofs Go.Shelf
theorem tab_ok : TabOk Go.Proofs.Try.prog tab := checkAll_ok (l := tabL) (m := methL) (by kernel_rfl)
theorem names_ok : NamesOk Go.Proofs.Try.prog := checkNames_ok (by kernel_rfl)
theorem mixed_ok : Go.Proofs.Try.prog.follows .mixedOrders = true := by kernel_rfl
theorem laid_ok : laidOutB Go.Proofs.Try.prog = true := by kernel_rfl
theorem meth_ok : MethOk Go.Proofs.Try.prog tab := methOk_none (l := tabL) (m := methL) (by kernel_rfl) (by kernel_rfl)
theorem d0 : DOk Go.Proofs.Try.prog tab D0 := d00 meth_ok
end Go.Proofs.Ytdcafhfnkblfkaa.V
