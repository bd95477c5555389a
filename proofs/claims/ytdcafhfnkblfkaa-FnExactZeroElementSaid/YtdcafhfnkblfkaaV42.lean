-- V42.lean: an early return told apart from what follows. Own work.
import Derived.Test.YtdcafhfnkblfkaaV41
namespace Go.Proofs.Ytdcafhfnkblfkaa.V
open Go Go.RowKit

end Go.Proofs.Ytdcafhfnkblfkaa.V
