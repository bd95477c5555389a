import Derived.Test.YthhmamgpcojooaaDoorV35
namespace Go.Proofs.YthhmamgpcojooaaDoor.V
open Go Go.RowKit Go.ChangeShapes Go.WideShapes

end Go.Proofs.YthhmamgpcojooaaDoor.V
