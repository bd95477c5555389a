-- V42.lean: an early return told apart from what follows. Own work.
import Derived.Test.YtjhbfeeaehaniaaDoorV41
namespace Go.Proofs.YtjhbfeeaehaniaaDoor.V
open Go Go.RowKit

end Go.Proofs.YtjhbfeeaehaniaaDoor.V
