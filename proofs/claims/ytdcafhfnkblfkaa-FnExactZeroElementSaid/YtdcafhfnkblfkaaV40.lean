import Derived.Test.YtdcafhfnkblfkaaV39
namespace Go.Proofs.Ytdcafhfnkblfkaa.V
open Go

end Go.Proofs.Ytdcafhfnkblfkaa.V
