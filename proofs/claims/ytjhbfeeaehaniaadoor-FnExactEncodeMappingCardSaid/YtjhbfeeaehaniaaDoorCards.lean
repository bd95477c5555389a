/-
  DERIVED. GIVEN WITH THE SEED: THE CARDS: each row of YtjhbfeeaehaniaaDoorRows.lean that lists a variable, with what it lists TIED to the program's text (the seventh form; the later family's looks); each row that meets fmt, with fmt's text TOLD by the authors' own Lean function (tested against real Go, not proved from fmt's source: count such statements apart). THE CARD IS WHAT COUNTS. Prove the row's statement (the work); the ties are given (YtjhbfeeaehaniaaDoorTie.lean); close each card by the builder's one call (the guide's Derived/Test/ToyasCard.lean, 'card_holds'). Laid BY PROGRAM, IN A SANDBOX (cutbox-door.mjs). By AI agents, Wed Nov 11 2026. No macro, syntax, notation, axiom, sorry.
-/
import Derived.Test.YtjhbfeeaehaniaaDoorRows
import GoSem.ClaimSeven
namespace Go.Proofs.YtjhbfeeaehaniaaDoor
namespace Rows

/-- THE TIED CARD OF 'laws.FnExactEncodeMapping'. -/
def fnExactEncodeMappingCard : Claim7 := { stood := { row := fnExactEncodeMappingRow, standIns := [], harness := (true, "3b962c3b61167239b9a5390bed8f9b67f51d91086040eb1a81ab721ab6ae7af2"), looks := false }, kinds := [], alts := [], laidByText := true, laidKinds := [.data, .pinned], laidTests := true, laidLooks := .later }
def FnExactEncodeMappingCardSaid : Prop := Claim7.holds Tryd.pinned (.plain (OpenSpec.ofChange fnExactEncodeMappingSpec)) fnExactEncodeMappingCard

/-- THE SECOND FORM's CARD OF 'laws.FnExactEncodeMapping'. -/
def fnExactEncodeMappingUptoCard : Claim7 := { stood := { row := fnExactEncodeMappingUptoRow, standIns := [], harness := (true, "3b962c3b61167239b9a5390bed8f9b67f51d91086040eb1a81ab721ab6ae7af2"), looks := false }, kinds := [], alts := [], laidByText := true, laidKinds := [.data, .pinned], laidTests := true, laidLooks := .later }
def FnExactEncodeMappingUptoCardSaid : Prop := Claim7.holds Tryd.pinned (.plain (OpenSpec.upto fnExactEncodeMappingSpec)) fnExactEncodeMappingUptoCard
end Rows
end Go.Proofs.YtjhbfeeaehaniaaDoor
