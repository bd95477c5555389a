import Derived.Test.YthhmamgpcojooaaDoorV31
namespace Go.Proofs.YthhmamgpcojooaaDoor.V
open Go

end Go.Proofs.YthhmamgpcojooaaDoor.V
