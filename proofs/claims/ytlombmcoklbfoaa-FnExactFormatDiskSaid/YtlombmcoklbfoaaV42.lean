-- V42.lean: an early return told apart from what follows. Own work.
import Derived.Test.YtlombmcoklbfoaaV41
namespace Go.Proofs.Ytlombmcoklbfoaa.V
open Go Go.RowKit

end Go.Proofs.Ytlombmcoklbfoaa.V
