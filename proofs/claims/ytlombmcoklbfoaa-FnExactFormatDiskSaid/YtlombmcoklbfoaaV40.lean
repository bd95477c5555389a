import Derived.Test.YtlombmcoklbfoaaV39
namespace Go.Proofs.Ytlombmcoklbfoaa.V
open Go

end Go.Proofs.Ytlombmcoklbfoaa.V
