/-
  No cell of these rows narrows 'for every input' (looked for: loops, veiled, ifaces, maps, wideKeys, modest, calm, conditions, laid).
  DERIVED. THE GIVEN ROWS OF THIS SEAT. 10 by the template 'for every input the law returns true; each argument reads behind the call as it read before'; 0 by the template 'total and deterministic' (their statements: YtplgngimjncpnaaTotals.lean).
  GIVEN WITH THE SEED: the statements are not yours to turn. If you find one false, say at which input.
  Laid BY PROGRAM, IN A SANDBOX (cutbox-rows.mjs): the forced cells as the released guide's own fill.sh prints them over the translation e6bb02532a2a555f… (all of the seat's roots in one cut). By AI agents, Wed Nov 11 2026. No macro, syntax, notation, axiom, sorry.
-/
import Derived.Test.YtplgngimjncpnaaChecked
import GoSem.Claim
import GoSem.ClaimJoined
import GoSem.ClaimMapViews
import Derived.JoinedTies
import Derived.KernelRfl
namespace Go.Proofs.Ytplgngimjncpnaa
/- THE CELL 'sum', in the pinned program and in every row, IS THE sha256 OF THE DUMP (.gsa) THAT YtplgngimjncpnaaProg.lean LOADS. Nothing in Lean hashes anything: it is a label: what it is worth is what the hold of that sum in a sandbox is worth. -/
noncomputable def Try.pinned : Pinned := { name := "ytplgngimjncpnaa", sum := "e6bb02532a2a555f4bc68b59c741a82c7ad7d56882aeb34e119dc2a71c116c90", checked := Try.checked }
namespace Rows
def none {H : Type} : Left H := { results := [], args := [] }

/-- 'laws.FnExactSplitSelection': WHATEVER THE INPUT: true; the input reads as it did. -/
def fnExactSplitSelectionSpec : ChangeSpec := { name := "fnExactSplitSelection", fn := fun _ => fun
  | [d1, d2, d3] => { results := [.lit (.bool true)], args := [d1, d2, d3] }
  | _ => none }
def fnExactSplitSelectionRow : OpenClaim := { program := "ytplgngimjncpnaa", sum := "e6bb02532a2a555f4bc68b59c741a82c7ad7d56882aeb34e119dc2a71c116c90", func := "loop.example/g00904/laws.FnExactSplitSelection", spec := "fnExactSplitSelection", inPlace := ["slices.overlaps[loop.example/g00904/impl.Piece]"], unfollowed := true, recurses := true, apart := false }
def FnExactSplitSelectionSaid : Prop := fnExactSplitSelectionRow.holds Try.pinned (OpenSpec.ofChange fnExactSplitSelectionSpec)

/-- ITS FALSE NEIGHBOUR: 'it returns false'. Refute it at one input. -/
def fnExactSplitSelectionWrong : ChangeSpec := { name := "fnExactSplitSelection", fn := fun _ => fun
  | [d1, d2, d3] => { results := [.lit (.bool false)], args := [d1, d2, d3] }
  | _ => none }
def FnExactSplitSelectionWrongFalsely : Prop := fnExactSplitSelectionRow.holds Try.pinned (OpenSpec.ofChange fnExactSplitSelectionWrong)

/-- 'laws.FnExactChunkOf': WHATEVER THE INPUT: true; the input reads as it did. -/
def fnExactChunkOfSpec : ChangeSpec := { name := "fnExactChunkOf", fn := fun _ => fun
  | [d1, d2, d3] => { results := [.lit (.bool true)], args := [d1, d2, d3] }
  | _ => none }
def fnExactChunkOfRow : OpenClaim := { program := "ytplgngimjncpnaa", sum := "e6bb02532a2a555f4bc68b59c741a82c7ad7d56882aeb34e119dc2a71c116c90", func := "loop.example/g00904/laws.FnExactChunkOf", spec := "fnExactChunkOf", unfollowed := true, recurses := true, apart := false }
def FnExactChunkOfSaid : Prop := fnExactChunkOfRow.holds Try.pinned (OpenSpec.ofChange fnExactChunkOfSpec)

/-- ITS FALSE NEIGHBOUR: 'it returns false'. Refute it at one input. -/
def fnExactChunkOfWrong : ChangeSpec := { name := "fnExactChunkOf", fn := fun _ => fun
  | [d1, d2, d3] => { results := [.lit (.bool false)], args := [d1, d2, d3] }
  | _ => none }
def FnExactChunkOfWrongFalsely : Prop := fnExactChunkOfRow.holds Try.pinned (OpenSpec.ofChange fnExactChunkOfWrong)

/-- 'laws.FnExactChunkKeys': WHATEVER THE INPUT: true; the input reads as it did. -/
def fnExactChunkKeysSpec : ChangeSpec := { name := "fnExactChunkKeys", fn := fun _ => fun
  | [d1, d2] => { results := [.lit (.bool true)], args := [d1, d2] }
  | _ => none }
def fnExactChunkKeysRow : OpenClaim := { program := "ytplgngimjncpnaa", sum := "e6bb02532a2a555f4bc68b59c741a82c7ad7d56882aeb34e119dc2a71c116c90", func := "loop.example/g00904/laws.FnExactChunkKeys", spec := "fnExactChunkKeys", unfollowed := true, recurses := true, apart := false }
def FnExactChunkKeysSaid : Prop := fnExactChunkKeysRow.holds Try.pinned (OpenSpec.ofChange fnExactChunkKeysSpec)

/-- ITS FALSE NEIGHBOUR: 'it returns false'. Refute it at one input. -/
def fnExactChunkKeysWrong : ChangeSpec := { name := "fnExactChunkKeys", fn := fun _ => fun
  | [d1, d2] => { results := [.lit (.bool false)], args := [d1, d2] }
  | _ => none }
def FnExactChunkKeysWrongFalsely : Prop := fnExactChunkKeysRow.holds Try.pinned (OpenSpec.ofChange fnExactChunkKeysWrong)

/-- 'laws.FnExactChunksLost': WHATEVER THE INPUT: true; the input reads as it did. -/
def fnExactChunksLostSpec : ChangeSpec := { name := "fnExactChunksLost", fn := fun _ => fun
  | [d1, d2, d3] => { results := [.lit (.bool true)], args := [d1, d2, d3] }
  | _ => none }
def fnExactChunksLostRow : OpenClaim := { program := "ytplgngimjncpnaa", sum := "e6bb02532a2a555f4bc68b59c741a82c7ad7d56882aeb34e119dc2a71c116c90", func := "loop.example/g00904/laws.FnExactChunksLost", spec := "fnExactChunksLost", unfollowed := true, recurses := true, apart := false }
def FnExactChunksLostSaid : Prop := fnExactChunksLostRow.holds Try.pinned (OpenSpec.ofChange fnExactChunksLostSpec)

/-- ITS FALSE NEIGHBOUR: 'it returns false'. Refute it at one input. -/
def fnExactChunksLostWrong : ChangeSpec := { name := "fnExactChunksLost", fn := fun _ => fun
  | [d1, d2, d3] => { results := [.lit (.bool false)], args := [d1, d2, d3] }
  | _ => none }
def FnExactChunksLostWrongFalsely : Prop := fnExactChunksLostRow.holds Try.pinned (OpenSpec.ofChange fnExactChunksLostWrong)

/-- 'laws.FnExactChunkBox': WHATEVER THE INPUT: true; the input reads as it did. -/
def fnExactChunkBoxSpec : ChangeSpec := { name := "fnExactChunkBox", fn := fun _ => fun
  | [d1, d2, d3] => { results := [.lit (.bool true)], args := [d1, d2, d3] }
  | _ => none }
def fnExactChunkBoxRow : OpenClaim := { program := "ytplgngimjncpnaa", sum := "e6bb02532a2a555f4bc68b59c741a82c7ad7d56882aeb34e119dc2a71c116c90", func := "loop.example/g00904/laws.FnExactChunkBox", spec := "fnExactChunkBox", unfollowed := true, recurses := true, apart := false }
def FnExactChunkBoxSaid : Prop := fnExactChunkBoxRow.holds Try.pinned (OpenSpec.ofChange fnExactChunkBoxSpec)

/-- ITS FALSE NEIGHBOUR: 'it returns false'. Refute it at one input. -/
def fnExactChunkBoxWrong : ChangeSpec := { name := "fnExactChunkBox", fn := fun _ => fun
  | [d1, d2, d3] => { results := [.lit (.bool false)], args := [d1, d2, d3] }
  | _ => none }
def FnExactChunkBoxWrongFalsely : Prop := fnExactChunkBoxRow.holds Try.pinned (OpenSpec.ofChange fnExactChunkBoxWrong)

/-- 'laws.FnChunkGrid': WHATEVER THE INPUT: true; the input reads as it did. -/
def fnChunkGridSpec : ChangeSpec := { name := "fnChunkGrid", fn := fun _ => fun
  | [d] => { results := [.lit (.bool true)], args := [d] }
  | _ => none }
def fnChunkGridRow : OpenClaim := { program := "ytplgngimjncpnaa", sum := "e6bb02532a2a555f4bc68b59c741a82c7ad7d56882aeb34e119dc2a71c116c90", func := "loop.example/g00904/laws.FnChunkGrid", spec := "fnChunkGrid", unfollowed := true, recurses := true, apart := false }
def FnChunkGridSaid : Prop := fnChunkGridRow.holds Try.pinned (OpenSpec.ofChange fnChunkGridSpec)

/-- ITS FALSE NEIGHBOUR: 'it returns false'. Refute it at one input. -/
def fnChunkGridWrong : ChangeSpec := { name := "fnChunkGrid", fn := fun _ => fun
  | [d] => { results := [.lit (.bool false)], args := [d] }
  | _ => none }
def FnChunkGridWrongFalsely : Prop := fnChunkGridRow.holds Try.pinned (OpenSpec.ofChange fnChunkGridWrong)

/-- 'laws.FnExactElementsLost': WHATEVER THE INPUT: true; the input reads as it did. -/
def fnExactElementsLostSpec : ChangeSpec := { name := "fnExactElementsLost", fn := fun _ => fun
  | [d1, d2, d3, d4] => { results := [.lit (.bool true)], args := [d1, d2, d3, d4] }
  | _ => none }
def fnExactElementsLostRow : OpenClaim := { program := "ytplgngimjncpnaa", sum := "e6bb02532a2a555f4bc68b59c741a82c7ad7d56882aeb34e119dc2a71c116c90", func := "loop.example/g00904/laws.FnExactElementsLost", spec := "fnExactElementsLost", unfollowed := true, recurses := true, apart := false }
def FnExactElementsLostSaid : Prop := fnExactElementsLostRow.holds Try.pinned (OpenSpec.ofChange fnExactElementsLostSpec)

/-- ITS FALSE NEIGHBOUR: 'it returns false'. Refute it at one input. -/
def fnExactElementsLostWrong : ChangeSpec := { name := "fnExactElementsLost", fn := fun _ => fun
  | [d1, d2, d3, d4] => { results := [.lit (.bool false)], args := [d1, d2, d3, d4] }
  | _ => none }
def FnExactElementsLostWrongFalsely : Prop := fnExactElementsLostRow.holds Try.pinned (OpenSpec.ofChange fnExactElementsLostWrong)

/-- 'laws.FnChunksResized': WHATEVER THE INPUT: true; the input reads as it did. -/
def fnChunksResizedSpec : ChangeSpec := { name := "fnChunksResized", fn := fun _ => fun
  | [d] => { results := [.lit (.bool true)], args := [d] }
  | _ => none }
def fnChunksResizedRow : OpenClaim := { program := "ytplgngimjncpnaa", sum := "e6bb02532a2a555f4bc68b59c741a82c7ad7d56882aeb34e119dc2a71c116c90", func := "loop.example/g00904/laws.FnChunksResized", spec := "fnChunksResized", unfollowed := true, recurses := true, apart := false }
def FnChunksResizedSaid : Prop := fnChunksResizedRow.holds Try.pinned (OpenSpec.ofChange fnChunksResizedSpec)

/-- ITS FALSE NEIGHBOUR: 'it returns false'. Refute it at one input. -/
def fnChunksResizedWrong : ChangeSpec := { name := "fnChunksResized", fn := fun _ => fun
  | [d] => { results := [.lit (.bool false)], args := [d] }
  | _ => none }
def FnChunksResizedWrongFalsely : Prop := fnChunksResizedRow.holds Try.pinned (OpenSpec.ofChange fnChunksResizedWrong)

/-- 'laws.FnChunkSplit': WHATEVER THE INPUT: true; the input reads as it did. -/
def fnChunkSplitSpec : ChangeSpec := { name := "fnChunkSplit", fn := fun _ => fun
  | [d] => { results := [.lit (.bool true)], args := [d] }
  | _ => none }
def fnChunkSplitRow : OpenClaim := { program := "ytplgngimjncpnaa", sum := "e6bb02532a2a555f4bc68b59c741a82c7ad7d56882aeb34e119dc2a71c116c90", func := "loop.example/g00904/laws.FnChunkSplit", spec := "fnChunkSplit", inPlace := ["slices.overlaps[loop.example/g00904/impl.Piece]"], unfollowed := true, recurses := true, apart := false }
def FnChunkSplitSaid : Prop := fnChunkSplitRow.holds Try.pinned (OpenSpec.ofChange fnChunkSplitSpec)

/-- ITS FALSE NEIGHBOUR: 'it returns false'. Refute it at one input. -/
def fnChunkSplitWrong : ChangeSpec := { name := "fnChunkSplit", fn := fun _ => fun
  | [d] => { results := [.lit (.bool false)], args := [d] }
  | _ => none }
def FnChunkSplitWrongFalsely : Prop := fnChunkSplitRow.holds Try.pinned (OpenSpec.ofChange fnChunkSplitWrong)

/-- 'laws.FnExactBroadcastDims': WHATEVER THE INPUT: true; the input reads as it did. -/
def fnExactBroadcastDimsSpec : ChangeSpec := { name := "fnExactBroadcastDims", fn := fun _ => fun
  | [d1, d2] => { results := [.lit (.bool true)], args := [d1, d2] }
  | _ => none }
def fnExactBroadcastDimsRow : OpenClaim := { program := "ytplgngimjncpnaa", sum := "e6bb02532a2a555f4bc68b59c741a82c7ad7d56882aeb34e119dc2a71c116c90", func := "loop.example/g00904/laws.FnExactBroadcastDims", spec := "fnExactBroadcastDims", unfollowed := true, recurses := true, apart := false }
def FnExactBroadcastDimsSaid : Prop := fnExactBroadcastDimsRow.holds Try.pinned (OpenSpec.ofChange fnExactBroadcastDimsSpec)

/-- ITS FALSE NEIGHBOUR: 'it returns false'. Refute it at one input. -/
def fnExactBroadcastDimsWrong : ChangeSpec := { name := "fnExactBroadcastDims", fn := fun _ => fun
  | [d1, d2] => { results := [.lit (.bool false)], args := [d1, d2] }
  | _ => none }
def FnExactBroadcastDimsWrongFalsely : Prop := fnExactBroadcastDimsRow.holds Try.pinned (OpenSpec.ofChange fnExactBroadcastDimsWrong)

/- THE SECOND FORM. 'bulk': how many values and letters a reading holds, each counted each time it is reached (what is shared counts as often as it is met; a slice's spare places count too). A statement '..UptoSaid' is the law's where the arguments, and the package variables that the reading takes, are together of bulk at most 1048576: NARROWER than '..Said'. Prove '..Said' where nothing that the law and all that it calls make is longer than what came in: it says more and counts as full. Else prove '..UptoSaid'. A law counts once. -/
mutual
def uptoBulk {H : Type} : DataW H → Nat
  | .lit (.string bytes) => bytes.length + 1
  | .lit _ => 1
  | .nil => 1
  | .ptr d => uptoBulk d + 1
  | .slice elems spare => uptoBulkAll elems + uptoBulkAll spare + 1
  | .agg parts => uptoBulkAll parts + 1
  | .iface _ d => uptoBulk d + 1
  | .map entries => uptoBulkEntries entries + 1
  | .held _ => 1
def uptoBulkAll {H : Type} : List (DataW H) → Nat
  | [] => 0
  | d :: r => uptoBulk d + uptoBulkAll r
def uptoBulkEntries {H : Type} : List (Lit × DataW H) → Nat
  | [] => 0
  | x :: r => uptoBulkEntry x + uptoBulkEntries r
def uptoBulkEntry {H : Type} : Lit × DataW H → Nat
  | (.string bytes, d) => bytes.length + uptoBulk d + 1
  | (_, d) => uptoBulk d + 1
 end
def uptoSmall : (H : Type) → List (DataW H) → Bool := fun _ ds => decide (uptoBulkAll ds ≤ 1048576)
def OpenSpec.upto (s : _root_.Go.ChangeSpec) : _root_.Go.OpenSpec := { _root_.Go.OpenSpec.ofChange s with cond := some uptoSmall }

/-- 'laws.FnExactSplitSelection', WHERE WHAT IT READS IS OF BULK AT MOST 1048576: true; the input reads as it did. -/
def fnExactSplitSelectionUptoRow : OpenClaim := { program := "ytplgngimjncpnaa", sum := "e6bb02532a2a555f4bc68b59c741a82c7ad7d56882aeb34e119dc2a71c116c90", func := "loop.example/g00904/laws.FnExactSplitSelection", spec := "fnExactSplitSelection", inPlace := ["slices.overlaps[loop.example/g00904/impl.Piece]"], unfollowed := true, recurses := true, apart := false, narrowed := true }
def FnExactSplitSelectionUptoSaid : Prop := fnExactSplitSelectionUptoRow.holds Try.pinned (OpenSpec.upto fnExactSplitSelectionSpec)

/-- 'laws.FnExactChunkOf', WHERE WHAT IT READS IS OF BULK AT MOST 1048576: true; the input reads as it did. -/
def fnExactChunkOfUptoRow : OpenClaim := { program := "ytplgngimjncpnaa", sum := "e6bb02532a2a555f4bc68b59c741a82c7ad7d56882aeb34e119dc2a71c116c90", func := "loop.example/g00904/laws.FnExactChunkOf", spec := "fnExactChunkOf", unfollowed := true, recurses := true, apart := false, narrowed := true }
def FnExactChunkOfUptoSaid : Prop := fnExactChunkOfUptoRow.holds Try.pinned (OpenSpec.upto fnExactChunkOfSpec)

/-- 'laws.FnExactChunkKeys', WHERE WHAT IT READS IS OF BULK AT MOST 1048576: true; the input reads as it did. -/
def fnExactChunkKeysUptoRow : OpenClaim := { program := "ytplgngimjncpnaa", sum := "e6bb02532a2a555f4bc68b59c741a82c7ad7d56882aeb34e119dc2a71c116c90", func := "loop.example/g00904/laws.FnExactChunkKeys", spec := "fnExactChunkKeys", unfollowed := true, recurses := true, apart := false, narrowed := true }
def FnExactChunkKeysUptoSaid : Prop := fnExactChunkKeysUptoRow.holds Try.pinned (OpenSpec.upto fnExactChunkKeysSpec)

/-- 'laws.FnExactChunksLost', WHERE WHAT IT READS IS OF BULK AT MOST 1048576: true; the input reads as it did. -/
def fnExactChunksLostUptoRow : OpenClaim := { program := "ytplgngimjncpnaa", sum := "e6bb02532a2a555f4bc68b59c741a82c7ad7d56882aeb34e119dc2a71c116c90", func := "loop.example/g00904/laws.FnExactChunksLost", spec := "fnExactChunksLost", unfollowed := true, recurses := true, apart := false, narrowed := true }
def FnExactChunksLostUptoSaid : Prop := fnExactChunksLostUptoRow.holds Try.pinned (OpenSpec.upto fnExactChunksLostSpec)

/-- 'laws.FnExactChunkBox', WHERE WHAT IT READS IS OF BULK AT MOST 1048576: true; the input reads as it did. -/
def fnExactChunkBoxUptoRow : OpenClaim := { program := "ytplgngimjncpnaa", sum := "e6bb02532a2a555f4bc68b59c741a82c7ad7d56882aeb34e119dc2a71c116c90", func := "loop.example/g00904/laws.FnExactChunkBox", spec := "fnExactChunkBox", unfollowed := true, recurses := true, apart := false, narrowed := true }
def FnExactChunkBoxUptoSaid : Prop := fnExactChunkBoxUptoRow.holds Try.pinned (OpenSpec.upto fnExactChunkBoxSpec)

/-- 'laws.FnChunkGrid', WHERE WHAT IT READS IS OF BULK AT MOST 1048576: true; the input reads as it did. -/
def fnChunkGridUptoRow : OpenClaim := { program := "ytplgngimjncpnaa", sum := "e6bb02532a2a555f4bc68b59c741a82c7ad7d56882aeb34e119dc2a71c116c90", func := "loop.example/g00904/laws.FnChunkGrid", spec := "fnChunkGrid", unfollowed := true, recurses := true, apart := false, narrowed := true }
def FnChunkGridUptoSaid : Prop := fnChunkGridUptoRow.holds Try.pinned (OpenSpec.upto fnChunkGridSpec)

/-- 'laws.FnExactElementsLost', WHERE WHAT IT READS IS OF BULK AT MOST 1048576: true; the input reads as it did. -/
def fnExactElementsLostUptoRow : OpenClaim := { program := "ytplgngimjncpnaa", sum := "e6bb02532a2a555f4bc68b59c741a82c7ad7d56882aeb34e119dc2a71c116c90", func := "loop.example/g00904/laws.FnExactElementsLost", spec := "fnExactElementsLost", unfollowed := true, recurses := true, apart := false, narrowed := true }
def FnExactElementsLostUptoSaid : Prop := fnExactElementsLostUptoRow.holds Try.pinned (OpenSpec.upto fnExactElementsLostSpec)

/-- 'laws.FnChunksResized', WHERE WHAT IT READS IS OF BULK AT MOST 1048576: true; the input reads as it did. -/
def fnChunksResizedUptoRow : OpenClaim := { program := "ytplgngimjncpnaa", sum := "e6bb02532a2a555f4bc68b59c741a82c7ad7d56882aeb34e119dc2a71c116c90", func := "loop.example/g00904/laws.FnChunksResized", spec := "fnChunksResized", unfollowed := true, recurses := true, apart := false, narrowed := true }
def FnChunksResizedUptoSaid : Prop := fnChunksResizedUptoRow.holds Try.pinned (OpenSpec.upto fnChunksResizedSpec)

/-- 'laws.FnChunkSplit', WHERE WHAT IT READS IS OF BULK AT MOST 1048576: true; the input reads as it did. -/
def fnChunkSplitUptoRow : OpenClaim := { program := "ytplgngimjncpnaa", sum := "e6bb02532a2a555f4bc68b59c741a82c7ad7d56882aeb34e119dc2a71c116c90", func := "loop.example/g00904/laws.FnChunkSplit", spec := "fnChunkSplit", inPlace := ["slices.overlaps[loop.example/g00904/impl.Piece]"], unfollowed := true, recurses := true, apart := false, narrowed := true }
def FnChunkSplitUptoSaid : Prop := fnChunkSplitUptoRow.holds Try.pinned (OpenSpec.upto fnChunkSplitSpec)

/-- 'laws.FnExactBroadcastDims', WHERE WHAT IT READS IS OF BULK AT MOST 1048576: true; the input reads as it did. -/
def fnExactBroadcastDimsUptoRow : OpenClaim := { program := "ytplgngimjncpnaa", sum := "e6bb02532a2a555f4bc68b59c741a82c7ad7d56882aeb34e119dc2a71c116c90", func := "loop.example/g00904/laws.FnExactBroadcastDims", spec := "fnExactBroadcastDims", unfollowed := true, recurses := true, apart := false, narrowed := true }
def FnExactBroadcastDimsUptoSaid : Prop := fnExactBroadcastDimsUptoRow.holds Try.pinned (OpenSpec.upto fnExactBroadcastDimsSpec)

end Rows
end Go.Proofs.Ytplgngimjncpnaa
