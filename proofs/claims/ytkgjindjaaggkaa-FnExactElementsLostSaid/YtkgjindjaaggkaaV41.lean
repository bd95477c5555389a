import Derived.Test.YtkgjindjaaggkaaV40
import Derived.Shelf.SlicesE.Clone
namespace Go.Proofs.Ytkgjindjaaggkaa.V
open Go Go.RowKit Go.Shelf

theorem neg_bif {n : Int} (h : 0 ≤ n) : (bif decide (n < 0) then -1 else n) = n := by
  rw [decide_eq_false (by omega)]; rfl

section
variable {P : Program} {ρ : Ren} {T : Tab} {S : Nat → Prop}

set_option maxHeartbeats 4000000 in
set_option maxRecDepth 100000 in
end
end Go.Proofs.Ytkgjindjaaggkaa.V
