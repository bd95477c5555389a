import Derived.Test.YtdcafhfnkblfkaaV36
namespace Go.Proofs.Ytdcafhfnkblfkaa.V
open Go

end Go.Proofs.Ytdcafhfnkblfkaa.V
