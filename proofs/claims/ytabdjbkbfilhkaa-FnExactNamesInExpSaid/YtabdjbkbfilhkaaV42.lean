-- V42.lean: an early return told apart from what follows. Own work.
import Derived.Test.YtabdjbkbfilhkaaV41
namespace Go.Proofs.Ytabdjbkbfilhkaa.V
open Go Go.RowKit

end Go.Proofs.Ytabdjbkbfilhkaa.V
