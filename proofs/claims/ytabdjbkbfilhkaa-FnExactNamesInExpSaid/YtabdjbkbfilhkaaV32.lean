import Derived.Test.YtabdjbkbfilhkaaV31
namespace Go.Proofs.Ytabdjbkbfilhkaa.V
open Go

end Go.Proofs.Ytabdjbkbfilhkaa.V
