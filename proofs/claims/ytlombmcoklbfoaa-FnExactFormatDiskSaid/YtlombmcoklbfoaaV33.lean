import Derived.Test.YtlombmcoklbfoaaV32
namespace Go.Proofs.Ytlombmcoklbfoaa.V
open Go

end Go.Proofs.Ytlombmcoklbfoaa.V
