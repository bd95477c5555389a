import Derived.Test.YtjhbfeeaehaniaaDoorV35
namespace Go.Proofs.YtjhbfeeaehaniaaDoor.V
open Go Go.RowKit Go.ChangeShapes Go.WideShapes

end Go.Proofs.YtjhbfeeaehaniaaDoor.V
