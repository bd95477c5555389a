-- V42.lean: an early return told apart from what follows. Own work.
import Derived.Test.YthhmamgpcojooaaDoorV41
namespace Go.Proofs.YthhmamgpcojooaaDoor.V
open Go Go.RowKit

end Go.Proofs.YthhmamgpcojooaaDoor.V
