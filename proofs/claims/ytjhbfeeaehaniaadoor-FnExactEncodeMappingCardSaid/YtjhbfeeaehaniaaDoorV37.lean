import Derived.Test.YtjhbfeeaehaniaaDoorV36
namespace Go.Proofs.YtjhbfeeaehaniaaDoor.V
open Go

end Go.Proofs.YtjhbfeeaehaniaaDoor.V
