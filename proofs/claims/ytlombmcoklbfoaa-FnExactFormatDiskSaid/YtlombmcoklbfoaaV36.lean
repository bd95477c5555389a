import Derived.Test.YtlombmcoklbfoaaV35
namespace Go.Proofs.Ytlombmcoklbfoaa.V
open Go Go.RowKit Go.ChangeShapes Go.WideShapes

end Go.Proofs.Ytlombmcoklbfoaa.V
