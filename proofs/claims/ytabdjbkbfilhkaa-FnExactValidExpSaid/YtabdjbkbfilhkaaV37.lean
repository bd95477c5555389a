import Derived.Test.YtabdjbkbfilhkaaV36
namespace Go.Proofs.Ytabdjbkbfilhkaa.V
open Go

end Go.Proofs.Ytabdjbkbfilhkaa.V
