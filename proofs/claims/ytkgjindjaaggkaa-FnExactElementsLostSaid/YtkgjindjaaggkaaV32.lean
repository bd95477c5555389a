import Derived.Test.YtkgjindjaaggkaaV31
namespace Go.Proofs.Ytkgjindjaaggkaa.V
open Go

def wr (L : Nat) (F O : Nat → List TC) (vis : Nat → Bool) : List (List TC) := (List.range L).map fun p => bif vis p then F p else O p
end Go.Proofs.Ytkgjindjaaggkaa.V
