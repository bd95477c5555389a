-- V44.lean: strings.Split, by what is known of its calls; the facts of a table that names a variable. Own work.
import Derived.Test.YtlombmcoklbfoaaV43
import Derived.Shelf.Strings.Split
import Derived.Shelf.Vars
namespace Go.Proofs.Ytlombmcoklbfoaa.V
open Go Go.RowKit Go.Shelf Go.Proofs

section
variable {P : Program} {T : Tab} {ρ : Ren} {w : World} {S : Nat → Prop}
end

end Go.Proofs.Ytlombmcoklbfoaa.V
