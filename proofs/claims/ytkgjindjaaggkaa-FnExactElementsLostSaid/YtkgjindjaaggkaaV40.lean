import Derived.Test.YtkgjindjaaggkaaV39
namespace Go.Proofs.Ytkgjindjaaggkaa.V
open Go

end Go.Proofs.Ytkgjindjaaggkaa.V
