/-
  DERIVED. GIVEN WITH THE SEED: THE CARDS: each row of YthhmamgpcojooaaDoorRows.lean that lists a variable, with what it lists TIED to the program's text (the seventh form; the later family's looks); each row that meets fmt, with fmt's text TOLD by the authors' own Lean function (tested against real Go, not proved from fmt's source: count such statements apart). THE CARD IS WHAT COUNTS. Prove the row's statement (the work); the ties are given (YthhmamgpcojooaaDoorTie.lean); close each card by the builder's one call (the guide's Derived/Test/ToyasCard.lean, 'card_holds'). Laid BY PROGRAM, IN A SANDBOX (cutbox-door.mjs). By AI agents, Wed Nov 11 2026. No macro, syntax, notation, axiom, sorry.
-/
import Derived.Test.YthhmamgpcojooaaDoorRows
import GoSem.ClaimSeven
namespace Go.Proofs.YthhmamgpcojooaaDoor
namespace Rows

/-- THE TIED CARD OF 'laws.FnExactValidPath'. -/
def fnExactValidPathCard : Claim7 := { stood := { row := fnExactValidPathRow, standIns := [], harness := (true, "ea13a0ec23cc4a93f6597adea47a517baf6c81d487af35afa2dae12962cfe029"), looks := false }, kinds := [], alts := [], laidByText := true, laidKinds := [.data, .pinned], laidTests := true, laidLooks := .later }
def FnExactValidPathCardSaid : Prop := Claim7.holds Tryd.pinned (.plain (OpenSpec.ofChange fnExactValidPathSpec)) fnExactValidPathCard

/-- THE TIED CARD OF 'laws.FnExactSplitPath'. -/
def fnExactSplitPathCard : Claim7 := { stood := { row := fnExactSplitPathRow, standIns := [], harness := (true, "ea13a0ec23cc4a93f6597adea47a517baf6c81d487af35afa2dae12962cfe029"), looks := false }, kinds := [], alts := [], laidByText := true, laidKinds := [.data, .pinned], laidTests := true, laidLooks := .later }
def FnExactSplitPathCardSaid : Prop := Claim7.holds Tryd.pinned (.plain (OpenSpec.ofChange fnExactSplitPathSpec)) fnExactSplitPathCard

/-- THE TIED CARD OF 'laws.FnExactValidLinks'. -/
def fnExactValidLinksCard : Claim7 := { stood := { row := fnExactValidLinksRow, standIns := [], harness := (true, "ea13a0ec23cc4a93f6597adea47a517baf6c81d487af35afa2dae12962cfe029"), looks := false }, kinds := [], alts := [], laidByText := true, laidKinds := [.data, .pinned], laidTests := true, laidLooks := .later }
def FnExactValidLinksCardSaid : Prop := Claim7.holds Tryd.pinned (.plain (OpenSpec.ofChange fnExactValidLinksSpec)) fnExactValidLinksCard

/-- THE TIED CARD OF 'laws.FnExactEncodeLinks'. -/
def fnExactEncodeLinksCard : Claim7 := { stood := { row := fnExactEncodeLinksRow, standIns := [], harness := (true, "ea13a0ec23cc4a93f6597adea47a517baf6c81d487af35afa2dae12962cfe029"), looks := false }, kinds := [], alts := [], laidByText := true, laidKinds := [.data, .pinned], laidTests := true, laidLooks := .later }
def FnExactEncodeLinksCardSaid : Prop := Claim7.holds Tryd.pinned (.plain (OpenSpec.ofChange fnExactEncodeLinksSpec)) fnExactEncodeLinksCard

/-- THE SECOND FORM's CARD OF 'laws.FnExactValidPath'. -/
def fnExactValidPathUptoCard : Claim7 := { stood := { row := fnExactValidPathUptoRow, standIns := [], harness := (true, "ea13a0ec23cc4a93f6597adea47a517baf6c81d487af35afa2dae12962cfe029"), looks := false }, kinds := [], alts := [], laidByText := true, laidKinds := [.data, .pinned], laidTests := true, laidLooks := .later }
def FnExactValidPathUptoCardSaid : Prop := Claim7.holds Tryd.pinned (.plain (OpenSpec.upto fnExactValidPathSpec)) fnExactValidPathUptoCard

/-- THE SECOND FORM's CARD OF 'laws.FnExactSplitPath'. -/
def fnExactSplitPathUptoCard : Claim7 := { stood := { row := fnExactSplitPathUptoRow, standIns := [], harness := (true, "ea13a0ec23cc4a93f6597adea47a517baf6c81d487af35afa2dae12962cfe029"), looks := false }, kinds := [], alts := [], laidByText := true, laidKinds := [.data, .pinned], laidTests := true, laidLooks := .later }
def FnExactSplitPathUptoCardSaid : Prop := Claim7.holds Tryd.pinned (.plain (OpenSpec.upto fnExactSplitPathSpec)) fnExactSplitPathUptoCard

/-- THE SECOND FORM's CARD OF 'laws.FnExactValidLinks'. -/
def fnExactValidLinksUptoCard : Claim7 := { stood := { row := fnExactValidLinksUptoRow, standIns := [], harness := (true, "ea13a0ec23cc4a93f6597adea47a517baf6c81d487af35afa2dae12962cfe029"), looks := false }, kinds := [], alts := [], laidByText := true, laidKinds := [.data, .pinned], laidTests := true, laidLooks := .later }
def FnExactValidLinksUptoCardSaid : Prop := Claim7.holds Tryd.pinned (.plain (OpenSpec.upto fnExactValidLinksSpec)) fnExactValidLinksUptoCard

/-- THE SECOND FORM's CARD OF 'laws.FnExactEncodeLinks'. -/
def fnExactEncodeLinksUptoCard : Claim7 := { stood := { row := fnExactEncodeLinksUptoRow, standIns := [], harness := (true, "ea13a0ec23cc4a93f6597adea47a517baf6c81d487af35afa2dae12962cfe029"), looks := false }, kinds := [], alts := [], laidByText := true, laidKinds := [.data, .pinned], laidTests := true, laidLooks := .later }
def FnExactEncodeLinksUptoCardSaid : Prop := Claim7.holds Tryd.pinned (.plain (OpenSpec.upto fnExactEncodeLinksSpec)) fnExactEncodeLinksUptoCard
end Rows
end Go.Proofs.YthhmamgpcojooaaDoor
