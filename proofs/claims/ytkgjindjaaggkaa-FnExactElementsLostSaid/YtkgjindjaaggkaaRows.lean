/-
  No cell of these rows narrows 'for every input' (looked for: loops, veiled, ifaces, maps, wideKeys, modest, calm, conditions, laid).
  DERIVED. THE GIVEN ROWS OF THIS SEAT. 6 by the template 'for every input the law returns true; each argument reads behind the call as it read before'; 0 by the template 'total and deterministic' (their statements: YtkgjindjaaggkaaTotals.lean).
  GIVEN WITH THE SEED: the statements are not yours to turn. If you find one false, say at which input.
  Laid BY PROGRAM, IN A SANDBOX (cutbox-rows.mjs): the forced cells as the released guide's own fill.sh prints them over the translation 2740d89bed69222e… (all of the seat's roots in one cut). By AI agents, Wed Nov 11 2026. No macro, syntax, notation, axiom, sorry.
-/
import Derived.Test.YtkgjindjaaggkaaChecked
import GoSem.Claim
import GoSem.ClaimJoined
import GoSem.ClaimMapViews
import Derived.JoinedTies
import Derived.KernelRfl
namespace Go.Proofs.Ytkgjindjaaggkaa
/- THE CELL 'sum', in the pinned program and in every row, IS THE sha256 OF THE DUMP (.gsa) THAT YtkgjindjaaggkaaProg.lean LOADS. Nothing in Lean hashes anything: it is a label: what it is worth is what the hold of that sum in a sandbox is worth. -/
noncomputable def Try.pinned : Pinned := { name := "ytkgjindjaaggkaa", sum := "2740d89bed69222e9622bb597346519a75b82ca8125f3ce364e88866048043e5", checked := Try.checked }
namespace Rows
def none {H : Type} : Left H := { results := [], args := [] }

/-- 'laws.FnExactSplitSelection': WHATEVER THE INPUT: true; the input reads as it did. -/
def fnExactSplitSelectionSpec : ChangeSpec := { name := "fnExactSplitSelection", fn := fun _ => fun
  | [d1, d2, d3] => { results := [.lit (.bool true)], args := [d1, d2, d3] }
  | _ => none }
def fnExactSplitSelectionRow : OpenClaim := { program := "ytkgjindjaaggkaa", sum := "2740d89bed69222e9622bb597346519a75b82ca8125f3ce364e88866048043e5", func := "loop.example/g00904/laws.FnExactSplitSelection", spec := "fnExactSplitSelection", inPlace := ["slices.overlaps[loop.example/g00904/impl.Piece]"], unfollowed := true, recurses := true, apart := false }
def FnExactSplitSelectionSaid : Prop := fnExactSplitSelectionRow.holds Try.pinned (OpenSpec.ofChange fnExactSplitSelectionSpec)

/-- ITS FALSE NEIGHBOUR: 'it returns false'. Refute it at one input. -/
def fnExactSplitSelectionWrong : ChangeSpec := { name := "fnExactSplitSelection", fn := fun _ => fun
  | [d1, d2, d3] => { results := [.lit (.bool false)], args := [d1, d2, d3] }
  | _ => none }
def FnExactSplitSelectionWrongFalsely : Prop := fnExactSplitSelectionRow.holds Try.pinned (OpenSpec.ofChange fnExactSplitSelectionWrong)

/-- 'laws.FnExactElementsLost': WHATEVER THE INPUT: true; the input reads as it did. -/
def fnExactElementsLostSpec : ChangeSpec := { name := "fnExactElementsLost", fn := fun _ => fun
  | [d1, d2, d3, d4] => { results := [.lit (.bool true)], args := [d1, d2, d3, d4] }
  | _ => none }
def fnExactElementsLostRow : OpenClaim := { program := "ytkgjindjaaggkaa", sum := "2740d89bed69222e9622bb597346519a75b82ca8125f3ce364e88866048043e5", func := "loop.example/g00904/laws.FnExactElementsLost", spec := "fnExactElementsLost", unfollowed := true, recurses := true, apart := false }
def FnExactElementsLostSaid : Prop := fnExactElementsLostRow.holds Try.pinned (OpenSpec.ofChange fnExactElementsLostSpec)

/-- ITS FALSE NEIGHBOUR: 'it returns false'. Refute it at one input. -/
def fnExactElementsLostWrong : ChangeSpec := { name := "fnExactElementsLost", fn := fun _ => fun
  | [d1, d2, d3, d4] => { results := [.lit (.bool false)], args := [d1, d2, d3, d4] }
  | _ => none }
def FnExactElementsLostWrongFalsely : Prop := fnExactElementsLostRow.holds Try.pinned (OpenSpec.ofChange fnExactElementsLostWrong)

/-- 'laws.FnChunkGrid': WHATEVER THE INPUT: true; the input reads as it did. -/
def fnChunkGridSpec : ChangeSpec := { name := "fnChunkGrid", fn := fun _ => fun
  | [d] => { results := [.lit (.bool true)], args := [d] }
  | _ => none }
def fnChunkGridRow : OpenClaim := { program := "ytkgjindjaaggkaa", sum := "2740d89bed69222e9622bb597346519a75b82ca8125f3ce364e88866048043e5", func := "loop.example/g00904/laws.FnChunkGrid", spec := "fnChunkGrid", unfollowed := true, recurses := true, apart := false }
def FnChunkGridSaid : Prop := fnChunkGridRow.holds Try.pinned (OpenSpec.ofChange fnChunkGridSpec)

/-- ITS FALSE NEIGHBOUR: 'it returns false'. Refute it at one input. -/
def fnChunkGridWrong : ChangeSpec := { name := "fnChunkGrid", fn := fun _ => fun
  | [d] => { results := [.lit (.bool false)], args := [d] }
  | _ => none }
def FnChunkGridWrongFalsely : Prop := fnChunkGridRow.holds Try.pinned (OpenSpec.ofChange fnChunkGridWrong)

/-- 'laws.FnChunksResized': WHATEVER THE INPUT: true; the input reads as it did. -/
def fnChunksResizedSpec : ChangeSpec := { name := "fnChunksResized", fn := fun _ => fun
  | [d] => { results := [.lit (.bool true)], args := [d] }
  | _ => none }
def fnChunksResizedRow : OpenClaim := { program := "ytkgjindjaaggkaa", sum := "2740d89bed69222e9622bb597346519a75b82ca8125f3ce364e88866048043e5", func := "loop.example/g00904/laws.FnChunksResized", spec := "fnChunksResized", unfollowed := true, recurses := true, apart := false }
def FnChunksResizedSaid : Prop := fnChunksResizedRow.holds Try.pinned (OpenSpec.ofChange fnChunksResizedSpec)

/-- ITS FALSE NEIGHBOUR: 'it returns false'. Refute it at one input. -/
def fnChunksResizedWrong : ChangeSpec := { name := "fnChunksResized", fn := fun _ => fun
  | [d] => { results := [.lit (.bool false)], args := [d] }
  | _ => none }
def FnChunksResizedWrongFalsely : Prop := fnChunksResizedRow.holds Try.pinned (OpenSpec.ofChange fnChunksResizedWrong)

/-- 'laws.FnChunkSplit': WHATEVER THE INPUT: true; the input reads as it did. -/
def fnChunkSplitSpec : ChangeSpec := { name := "fnChunkSplit", fn := fun _ => fun
  | [d] => { results := [.lit (.bool true)], args := [d] }
  | _ => none }
def fnChunkSplitRow : OpenClaim := { program := "ytkgjindjaaggkaa", sum := "2740d89bed69222e9622bb597346519a75b82ca8125f3ce364e88866048043e5", func := "loop.example/g00904/laws.FnChunkSplit", spec := "fnChunkSplit", inPlace := ["slices.overlaps[loop.example/g00904/impl.Piece]"], unfollowed := true, recurses := true, apart := false }
def FnChunkSplitSaid : Prop := fnChunkSplitRow.holds Try.pinned (OpenSpec.ofChange fnChunkSplitSpec)

/-- ITS FALSE NEIGHBOUR: 'it returns false'. Refute it at one input. -/
def fnChunkSplitWrong : ChangeSpec := { name := "fnChunkSplit", fn := fun _ => fun
  | [d] => { results := [.lit (.bool false)], args := [d] }
  | _ => none }
def FnChunkSplitWrongFalsely : Prop := fnChunkSplitRow.holds Try.pinned (OpenSpec.ofChange fnChunkSplitWrong)

/-- 'laws.FnRuns': WHATEVER THE INPUT: true; the input reads as it did. -/
def fnRunsSpec : ChangeSpec := { name := "fnRuns", fn := fun _ => fun
  | [d] => { results := [.lit (.bool true)], args := [d] }
  | _ => none }
def fnRunsRow : OpenClaim := { program := "ytkgjindjaaggkaa", sum := "2740d89bed69222e9622bb597346519a75b82ca8125f3ce364e88866048043e5", func := "loop.example/g00904/laws.FnRuns", spec := "fnRuns", inPlace := ["internal/abi.NoEscape", "internal/bytealg.MakeNoZero"], apart := false }
def FnRunsSaid : Prop := fnRunsRow.holds Try.pinned (OpenSpec.ofChange fnRunsSpec)

/-- ITS FALSE NEIGHBOUR: 'it returns false'. Refute it at one input. -/
def fnRunsWrong : ChangeSpec := { name := "fnRuns", fn := fun _ => fun
  | [d] => { results := [.lit (.bool false)], args := [d] }
  | _ => none }
def FnRunsWrongFalsely : Prop := fnRunsRow.holds Try.pinned (OpenSpec.ofChange fnRunsWrong)

/- THE SECOND FORM. 'bulk': how many values and letters a reading holds, each counted each time it is reached (what is shared counts as often as it is met; a slice's spare places count too). A statement '..UptoSaid' is the law's where the arguments, and the package variables that the reading takes, are together of bulk at most 1048576: NARROWER than '..Said'. Prove '..Said' where nothing that the law and all that it calls make is longer than what came in: it says more and counts as full. Else prove '..UptoSaid'. A law counts once. -/
mutual
def uptoBulk {H : Type} : DataW H → Nat
  | .lit (.string bytes) => bytes.length + 1
  | .lit _ => 1
  | .nil => 1
  | .ptr d => uptoBulk d + 1
  | .slice elems spare => uptoBulkAll elems + uptoBulkAll spare + 1
  | .agg parts => uptoBulkAll parts + 1
  | .iface _ d => uptoBulk d + 1
  | .map entries => uptoBulkEntries entries + 1
  | .held _ => 1
def uptoBulkAll {H : Type} : List (DataW H) → Nat
  | [] => 0
  | d :: r => uptoBulk d + uptoBulkAll r
def uptoBulkEntries {H : Type} : List (Lit × DataW H) → Nat
  | [] => 0
  | x :: r => uptoBulkEntry x + uptoBulkEntries r
def uptoBulkEntry {H : Type} : Lit × DataW H → Nat
  | (.string bytes, d) => bytes.length + uptoBulk d + 1
  | (_, d) => uptoBulk d + 1
 end
def uptoSmall : (H : Type) → List (DataW H) → Bool := fun _ ds => decide (uptoBulkAll ds ≤ 1048576)
def OpenSpec.upto (s : _root_.Go.ChangeSpec) : _root_.Go.OpenSpec := { _root_.Go.OpenSpec.ofChange s with cond := some uptoSmall }

/-- 'laws.FnExactSplitSelection', WHERE WHAT IT READS IS OF BULK AT MOST 1048576: true; the input reads as it did. -/
def fnExactSplitSelectionUptoRow : OpenClaim := { program := "ytkgjindjaaggkaa", sum := "2740d89bed69222e9622bb597346519a75b82ca8125f3ce364e88866048043e5", func := "loop.example/g00904/laws.FnExactSplitSelection", spec := "fnExactSplitSelection", inPlace := ["slices.overlaps[loop.example/g00904/impl.Piece]"], unfollowed := true, recurses := true, apart := false, narrowed := true }
def FnExactSplitSelectionUptoSaid : Prop := fnExactSplitSelectionUptoRow.holds Try.pinned (OpenSpec.upto fnExactSplitSelectionSpec)

/-- 'laws.FnExactElementsLost', WHERE WHAT IT READS IS OF BULK AT MOST 1048576: true; the input reads as it did. -/
def fnExactElementsLostUptoRow : OpenClaim := { program := "ytkgjindjaaggkaa", sum := "2740d89bed69222e9622bb597346519a75b82ca8125f3ce364e88866048043e5", func := "loop.example/g00904/laws.FnExactElementsLost", spec := "fnExactElementsLost", unfollowed := true, recurses := true, apart := false, narrowed := true }
def FnExactElementsLostUptoSaid : Prop := fnExactElementsLostUptoRow.holds Try.pinned (OpenSpec.upto fnExactElementsLostSpec)

/-- 'laws.FnChunkGrid', WHERE WHAT IT READS IS OF BULK AT MOST 1048576: true; the input reads as it did. -/
def fnChunkGridUptoRow : OpenClaim := { program := "ytkgjindjaaggkaa", sum := "2740d89bed69222e9622bb597346519a75b82ca8125f3ce364e88866048043e5", func := "loop.example/g00904/laws.FnChunkGrid", spec := "fnChunkGrid", unfollowed := true, recurses := true, apart := false, narrowed := true }
def FnChunkGridUptoSaid : Prop := fnChunkGridUptoRow.holds Try.pinned (OpenSpec.upto fnChunkGridSpec)

/-- 'laws.FnChunksResized', WHERE WHAT IT READS IS OF BULK AT MOST 1048576: true; the input reads as it did. -/
def fnChunksResizedUptoRow : OpenClaim := { program := "ytkgjindjaaggkaa", sum := "2740d89bed69222e9622bb597346519a75b82ca8125f3ce364e88866048043e5", func := "loop.example/g00904/laws.FnChunksResized", spec := "fnChunksResized", unfollowed := true, recurses := true, apart := false, narrowed := true }
def FnChunksResizedUptoSaid : Prop := fnChunksResizedUptoRow.holds Try.pinned (OpenSpec.upto fnChunksResizedSpec)

/-- 'laws.FnChunkSplit', WHERE WHAT IT READS IS OF BULK AT MOST 1048576: true; the input reads as it did. -/
def fnChunkSplitUptoRow : OpenClaim := { program := "ytkgjindjaaggkaa", sum := "2740d89bed69222e9622bb597346519a75b82ca8125f3ce364e88866048043e5", func := "loop.example/g00904/laws.FnChunkSplit", spec := "fnChunkSplit", inPlace := ["slices.overlaps[loop.example/g00904/impl.Piece]"], unfollowed := true, recurses := true, apart := false, narrowed := true }
def FnChunkSplitUptoSaid : Prop := fnChunkSplitUptoRow.holds Try.pinned (OpenSpec.upto fnChunkSplitSpec)

/-- 'laws.FnRuns', WHERE WHAT IT READS IS OF BULK AT MOST 1048576: true; the input reads as it did. -/
def fnRunsUptoRow : OpenClaim := { program := "ytkgjindjaaggkaa", sum := "2740d89bed69222e9622bb597346519a75b82ca8125f3ce364e88866048043e5", func := "loop.example/g00904/laws.FnRuns", spec := "fnRuns", inPlace := ["internal/abi.NoEscape", "internal/bytealg.MakeNoZero"], apart := false, narrowed := true }
def FnRunsUptoSaid : Prop := fnRunsUptoRow.holds Try.pinned (OpenSpec.upto fnRunsSpec)

end Rows
end Go.Proofs.Ytkgjindjaaggkaa
