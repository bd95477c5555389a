import Derived.Test.YtkgjindjaaggkaaV35
namespace Go.Proofs.Ytkgjindjaaggkaa.V
open Go Go.RowKit Go.ChangeShapes Go.WideShapes

end Go.Proofs.Ytkgjindjaaggkaa.V
