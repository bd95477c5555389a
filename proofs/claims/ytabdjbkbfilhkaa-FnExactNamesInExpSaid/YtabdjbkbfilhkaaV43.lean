-- V43.lean: a region and a condition, told with a boolean choice (the kernel does not open a comparison with a great literal then). Own work.
import Derived.Test.YtabdjbkbfilhkaaV42
namespace Go.Proofs.Ytabdjbkbfilhkaa.V
open Go Go.RowKit

end Go.Proofs.Ytabdjbkbfilhkaa.V
