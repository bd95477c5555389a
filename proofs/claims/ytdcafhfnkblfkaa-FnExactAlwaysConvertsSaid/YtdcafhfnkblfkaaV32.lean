import Derived.Test.YtdcafhfnkblfkaaV31
namespace Go.Proofs.Ytdcafhfnkblfkaa.V
open Go

end Go.Proofs.Ytdcafhfnkblfkaa.V
