import Derived.Test.YtabdjbkbfilhkaaV40
import Derived.Shelf.SlicesE.Clone
namespace Go.Proofs.Ytabdjbkbfilhkaa.V
open Go Go.RowKit Go.Shelf

section
variable {P : Program} {ρ : Ren} {T : Tab} {S : Nat → Prop}

set_option maxHeartbeats 4000000 in
set_option maxRecDepth 100000 in
end
end Go.Proofs.Ytabdjbkbfilhkaa.V
