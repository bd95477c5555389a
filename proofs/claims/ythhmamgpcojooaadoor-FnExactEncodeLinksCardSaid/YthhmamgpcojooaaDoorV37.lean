import Derived.Test.YthhmamgpcojooaaDoorV36
namespace Go.Proofs.YthhmamgpcojooaaDoor.V
open Go

end Go.Proofs.YthhmamgpcojooaaDoor.V
