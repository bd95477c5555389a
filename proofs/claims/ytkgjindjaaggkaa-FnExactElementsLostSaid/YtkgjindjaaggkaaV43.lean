-- V43.lean: a region and a condition, told with a boolean choice (the kernel does not open a comparison with a great literal then). Own work.
import Derived.Test.YtkgjindjaaggkaaV42
namespace Go.Proofs.Ytkgjindjaaggkaa.V
open Go Go.RowKit

end Go.Proofs.Ytkgjindjaaggkaa.V
