/-
  NARROWER THAN 'FOR EVERY INPUT', by the rows' own cells (each row's printed sentence says how): FnExactPackedType: loops.
  DERIVED. THE GIVEN ROWS OF THIS SEAT. 12 by the template 'for every input the law returns true; each argument reads behind the call as it read before'; 0 by the template 'total and deterministic' (their statements: YtnlpkmkkidpfhaaTotals.lean).
  GIVEN WITH THE SEED: the statements are not yours to turn. If you find one false, say at which input.
  Laid BY PROGRAM, IN A SANDBOX (cutbox-rows.mjs): the forced cells as the released guide's own fill.sh prints them over the translation f5c9a5f2185e01db… (all of the seat's roots in one cut). By AI agents, Wed Nov 11 2026. No macro, syntax, notation, axiom, sorry.
-/
import Derived.Test.YtnlpkmkkidpfhaaChecked
import GoSem.Claim
import GoSem.ClaimJoined
import GoSem.ClaimMapViews
import Derived.JoinedTies
import Derived.KernelRfl
namespace Go.Proofs.Ytnlpkmkkidpfhaa
/- THE CELL 'sum', in the pinned program and in every row, IS THE sha256 OF THE DUMP (.gsa) THAT YtnlpkmkkidpfhaaProg.lean LOADS. Nothing in Lean hashes anything: it is a label: what it is worth is what the hold of that sum in a sandbox is worth. -/
noncomputable def Try.pinned : Pinned := { name := "ytnlpkmkkidpfhaa", sum := "f5c9a5f2185e01db0b5af841df3568e2599abb71ee43be3690e612525d394595", checked := Try.checked }
namespace Rows
def none {H : Type} : Left H := { results := [], args := [] }

/-- 'laws.FnExactRunEncode': WHATEVER THE INPUT: true; the input reads as it did. -/
def fnExactRunEncodeSpec : ChangeSpec := { name := "fnExactRunEncode", fn := fun _ => fun
  | [d] => { results := [.lit (.bool true)], args := [d] }
  | _ => none }
def fnExactRunEncodeRow : OpenClaim := { program := "ytnlpkmkkidpfhaa", sum := "f5c9a5f2185e01db0b5af841df3568e2599abb71ee43be3690e612525d394595", func := "loop.example/g00904/laws.FnExactRunEncode", spec := "fnExactRunEncode", apart := false }
def FnExactRunEncodeSaid : Prop := fnExactRunEncodeRow.holds Try.pinned (OpenSpec.ofChange fnExactRunEncodeSpec)

/-- ITS FALSE NEIGHBOUR: 'it returns false'. Refute it at one input. -/
def fnExactRunEncodeWrong : ChangeSpec := { name := "fnExactRunEncode", fn := fun _ => fun
  | [d] => { results := [.lit (.bool false)], args := [d] }
  | _ => none }
def FnExactRunEncodeWrongFalsely : Prop := fnExactRunEncodeRow.holds Try.pinned (OpenSpec.ofChange fnExactRunEncodeWrong)

/-- 'laws.FnExactValidFilter': WHATEVER THE INPUT: true; the input reads as it did. -/
def fnExactValidFilterSpec : ChangeSpec := { name := "fnExactValidFilter", fn := fun _ => fun
  | [d] => { results := [.lit (.bool true)], args := [d] }
  | _ => none }
def fnExactValidFilterRow : OpenClaim := { program := "ytnlpkmkkidpfhaa", sum := "f5c9a5f2185e01db0b5af841df3568e2599abb71ee43be3690e612525d394595", func := "loop.example/g00904/laws.FnExactValidFilter", spec := "fnExactValidFilter", apart := false }
def FnExactValidFilterSaid : Prop := fnExactValidFilterRow.holds Try.pinned (OpenSpec.ofChange fnExactValidFilterSpec)

/-- ITS FALSE NEIGHBOUR: 'it returns false'. Refute it at one input. -/
def fnExactValidFilterWrong : ChangeSpec := { name := "fnExactValidFilter", fn := fun _ => fun
  | [d] => { results := [.lit (.bool false)], args := [d] }
  | _ => none }
def FnExactValidFilterWrongFalsely : Prop := fnExactValidFilterRow.holds Try.pinned (OpenSpec.ofChange fnExactValidFilterWrong)

/-- 'laws.FnExactShuffle': WHATEVER THE INPUT: true; the input reads as it did. -/
def fnExactShuffleSpec : ChangeSpec := { name := "fnExactShuffle", fn := fun _ => fun
  | [d1, d2] => { results := [.lit (.bool true)], args := [d1, d2] }
  | _ => none }
def fnExactShuffleRow : OpenClaim := { program := "ytnlpkmkkidpfhaa", sum := "f5c9a5f2185e01db0b5af841df3568e2599abb71ee43be3690e612525d394595", func := "loop.example/g00904/laws.FnExactShuffle", spec := "fnExactShuffle", apart := false }
def FnExactShuffleSaid : Prop := fnExactShuffleRow.holds Try.pinned (OpenSpec.ofChange fnExactShuffleSpec)

/-- ITS FALSE NEIGHBOUR: 'it returns false'. Refute it at one input. -/
def fnExactShuffleWrong : ChangeSpec := { name := "fnExactShuffle", fn := fun _ => fun
  | [d1, d2] => { results := [.lit (.bool false)], args := [d1, d2] }
  | _ => none }
def FnExactShuffleWrongFalsely : Prop := fnExactShuffleRow.holds Try.pinned (OpenSpec.ofChange fnExactShuffleWrong)

/-- 'laws.FnExactUnshuffle': WHATEVER THE INPUT: true; the input reads as it did. -/
def fnExactUnshuffleSpec : ChangeSpec := { name := "fnExactUnshuffle", fn := fun _ => fun
  | [d1, d2] => { results := [.lit (.bool true)], args := [d1, d2] }
  | _ => none }
def fnExactUnshuffleRow : OpenClaim := { program := "ytnlpkmkkidpfhaa", sum := "f5c9a5f2185e01db0b5af841df3568e2599abb71ee43be3690e612525d394595", func := "loop.example/g00904/laws.FnExactUnshuffle", spec := "fnExactUnshuffle", apart := false }
def FnExactUnshuffleSaid : Prop := fnExactUnshuffleRow.holds Try.pinned (OpenSpec.ofChange fnExactUnshuffleSpec)

/-- ITS FALSE NEIGHBOUR: 'it returns false'. Refute it at one input. -/
def fnExactUnshuffleWrong : ChangeSpec := { name := "fnExactUnshuffle", fn := fun _ => fun
  | [d1, d2] => { results := [.lit (.bool false)], args := [d1, d2] }
  | _ => none }
def FnExactUnshuffleWrongFalsely : Prop := fnExactUnshuffleRow.holds Try.pinned (OpenSpec.ofChange fnExactUnshuffleWrong)

/-- 'laws.FnExactSamePipeline': WHATEVER THE INPUT: true; the input reads as it did. -/
def fnExactSamePipelineSpec : ChangeSpec := { name := "fnExactSamePipeline", fn := fun _ => fun
  | [d1, d2] => { results := [.lit (.bool true)], args := [d1, d2] }
  | _ => none }
def fnExactSamePipelineRow : OpenClaim := { program := "ytnlpkmkkidpfhaa", sum := "f5c9a5f2185e01db0b5af841df3568e2599abb71ee43be3690e612525d394595", func := "loop.example/g00904/laws.FnExactSamePipeline", spec := "fnExactSamePipeline", apart := false }
def FnExactSamePipelineSaid : Prop := fnExactSamePipelineRow.holds Try.pinned (OpenSpec.ofChange fnExactSamePipelineSpec)

/-- ITS FALSE NEIGHBOUR: 'it returns false'. Refute it at one input. -/
def fnExactSamePipelineWrong : ChangeSpec := { name := "fnExactSamePipeline", fn := fun _ => fun
  | [d1, d2] => { results := [.lit (.bool false)], args := [d1, d2] }
  | _ => none }
def FnExactSamePipelineWrongFalsely : Prop := fnExactSamePipelineRow.holds Try.pinned (OpenSpec.ofChange fnExactSamePipelineWrong)

/-- 'laws.FnExactSameNumbers': WHATEVER THE INPUT: true; the input reads as it did. -/
def fnExactSameNumbersSpec : ChangeSpec := { name := "fnExactSameNumbers", fn := fun _ => fun
  | [d1, d2] => { results := [.lit (.bool true)], args := [d1, d2] }
  | _ => none }
def fnExactSameNumbersRow : OpenClaim := { program := "ytnlpkmkkidpfhaa", sum := "f5c9a5f2185e01db0b5af841df3568e2599abb71ee43be3690e612525d394595", func := "loop.example/g00904/laws.FnExactSameNumbers", spec := "fnExactSameNumbers", apart := false }
def FnExactSameNumbersSaid : Prop := fnExactSameNumbersRow.holds Try.pinned (OpenSpec.ofChange fnExactSameNumbersSpec)

/-- ITS FALSE NEIGHBOUR: 'it returns false'. Refute it at one input. -/
def fnExactSameNumbersWrong : ChangeSpec := { name := "fnExactSameNumbers", fn := fun _ => fun
  | [d1, d2] => { results := [.lit (.bool false)], args := [d1, d2] }
  | _ => none }
def FnExactSameNumbersWrongFalsely : Prop := fnExactSameNumbersRow.holds Try.pinned (OpenSpec.ofChange fnExactSameNumbersWrong)

/-- 'laws.FnExactValidPipeline': WHATEVER THE INPUT: true; the input reads as it did. -/
def fnExactValidPipelineSpec : ChangeSpec := { name := "fnExactValidPipeline", fn := fun _ => fun
  | [d] => { results := [.lit (.bool true)], args := [d] }
  | _ => none }
def fnExactValidPipelineRow : OpenClaim := { program := "ytnlpkmkkidpfhaa", sum := "f5c9a5f2185e01db0b5af841df3568e2599abb71ee43be3690e612525d394595", func := "loop.example/g00904/laws.FnExactValidPipeline", spec := "fnExactValidPipeline", unfollowed := true, recurses := true, apart := false }
def FnExactValidPipelineSaid : Prop := fnExactValidPipelineRow.holds Try.pinned (OpenSpec.ofChange fnExactValidPipelineSpec)

/-- ITS FALSE NEIGHBOUR: 'it returns false'. Refute it at one input. -/
def fnExactValidPipelineWrong : ChangeSpec := { name := "fnExactValidPipeline", fn := fun _ => fun
  | [d] => { results := [.lit (.bool false)], args := [d] }
  | _ => none }
def FnExactValidPipelineWrongFalsely : Prop := fnExactValidPipelineRow.holds Try.pinned (OpenSpec.ofChange fnExactValidPipelineWrong)

/-- 'laws.FnExactPackedType': WHATEVER THE INPUT: true; the input reads as it did. -/
def fnExactPackedTypeSpec : ChangeSpec := { name := "fnExactPackedType", fn := fun _ => fun
  | [d] => { results := [.lit (.bool true)], args := [d] }
  | _ => none }
def fnExactPackedTypeRow : OpenClaim := { program := "ytnlpkmkkidpfhaa", sum := "f5c9a5f2185e01db0b5af841df3568e2599abb71ee43be3690e612525d394595", func := "loop.example/g00904/laws.FnExactPackedType", spec := "fnExactPackedType", unfollowed := true, recurses := true, loops := true, apart := false }
def FnExactPackedTypeSaid : Prop := fnExactPackedTypeRow.holds Try.pinned (OpenSpec.ofChange fnExactPackedTypeSpec)

/-- ITS FALSE NEIGHBOUR: 'it returns false'. Refute it at one input. -/
def fnExactPackedTypeWrong : ChangeSpec := { name := "fnExactPackedType", fn := fun _ => fun
  | [d] => { results := [.lit (.bool false)], args := [d] }
  | _ => none }
def FnExactPackedTypeWrongFalsely : Prop := fnExactPackedTypeRow.holds Try.pinned (OpenSpec.ofChange fnExactPackedTypeWrong)

/-- 'laws.FnExactDelta': WHATEVER THE INPUT: true; the input reads as it did. -/
def fnExactDeltaSpec : ChangeSpec := { name := "fnExactDelta", fn := fun _ => fun
  | [d1, d2] => { results := [.lit (.bool true)], args := [d1, d2] }
  | _ => none }
def fnExactDeltaRow : OpenClaim := { program := "ytnlpkmkkidpfhaa", sum := "f5c9a5f2185e01db0b5af841df3568e2599abb71ee43be3690e612525d394595", func := "loop.example/g00904/laws.FnExactDelta", spec := "fnExactDelta", inPlace := ["internal/abi.NoEscape"], apart := false }
def FnExactDeltaSaid : Prop := fnExactDeltaRow.holds Try.pinned (OpenSpec.ofChange fnExactDeltaSpec)

/-- ITS FALSE NEIGHBOUR: 'it returns false'. Refute it at one input. -/
def fnExactDeltaWrong : ChangeSpec := { name := "fnExactDelta", fn := fun _ => fun
  | [d1, d2] => { results := [.lit (.bool false)], args := [d1, d2] }
  | _ => none }
def FnExactDeltaWrongFalsely : Prop := fnExactDeltaRow.holds Try.pinned (OpenSpec.ofChange fnExactDeltaWrong)

/-- 'laws.FnExactUndelta': WHATEVER THE INPUT: true; the input reads as it did. -/
def fnExactUndeltaSpec : ChangeSpec := { name := "fnExactUndelta", fn := fun _ => fun
  | [d1, d2] => { results := [.lit (.bool true)], args := [d1, d2] }
  | _ => none }
def fnExactUndeltaRow : OpenClaim := { program := "ytnlpkmkkidpfhaa", sum := "f5c9a5f2185e01db0b5af841df3568e2599abb71ee43be3690e612525d394595", func := "loop.example/g00904/laws.FnExactUndelta", spec := "fnExactUndelta", inPlace := ["internal/abi.NoEscape"], apart := false }
def FnExactUndeltaSaid : Prop := fnExactUndeltaRow.holds Try.pinned (OpenSpec.ofChange fnExactUndeltaSpec)

/-- ITS FALSE NEIGHBOUR: 'it returns false'. Refute it at one input. -/
def fnExactUndeltaWrong : ChangeSpec := { name := "fnExactUndelta", fn := fun _ => fun
  | [d1, d2] => { results := [.lit (.bool false)], args := [d1, d2] }
  | _ => none }
def FnExactUndeltaWrongFalsely : Prop := fnExactUndeltaRow.holds Try.pinned (OpenSpec.ofChange fnExactUndeltaWrong)

/-- 'laws.FnExactValidChunk': WHATEVER THE INPUT: true; the input reads as it did. -/
def fnExactValidChunkSpec : ChangeSpec := { name := "fnExactValidChunk", fn := fun _ => fun
  | [d1, d2] => { results := [.lit (.bool true)], args := [d1, d2] }
  | _ => none }
def fnExactValidChunkRow : OpenClaim := { program := "ytnlpkmkkidpfhaa", sum := "f5c9a5f2185e01db0b5af841df3568e2599abb71ee43be3690e612525d394595", func := "loop.example/g00904/laws.FnExactValidChunk", spec := "fnExactValidChunk", unfollowed := true, recurses := true, apart := false }
def FnExactValidChunkSaid : Prop := fnExactValidChunkRow.holds Try.pinned (OpenSpec.ofChange fnExactValidChunkSpec)

/-- ITS FALSE NEIGHBOUR: 'it returns false'. Refute it at one input. -/
def fnExactValidChunkWrong : ChangeSpec := { name := "fnExactValidChunk", fn := fun _ => fun
  | [d1, d2] => { results := [.lit (.bool false)], args := [d1, d2] }
  | _ => none }
def FnExactValidChunkWrongFalsely : Prop := fnExactValidChunkRow.holds Try.pinned (OpenSpec.ofChange fnExactValidChunkWrong)

/-- 'laws.FnExactValidNumbers': WHATEVER THE INPUT: true; the input reads as it did. -/
def fnExactValidNumbersSpec : ChangeSpec := { name := "fnExactValidNumbers", fn := fun _ => fun
  | [d] => { results := [.lit (.bool true)], args := [d] }
  | _ => none }
def fnExactValidNumbersRow : OpenClaim := { program := "ytnlpkmkkidpfhaa", sum := "f5c9a5f2185e01db0b5af841df3568e2599abb71ee43be3690e612525d394595", func := "loop.example/g00904/laws.FnExactValidNumbers", spec := "fnExactValidNumbers", unfollowed := true, recurses := true, apart := false }
def FnExactValidNumbersSaid : Prop := fnExactValidNumbersRow.holds Try.pinned (OpenSpec.ofChange fnExactValidNumbersSpec)

/-- ITS FALSE NEIGHBOUR: 'it returns false'. Refute it at one input. -/
def fnExactValidNumbersWrong : ChangeSpec := { name := "fnExactValidNumbers", fn := fun _ => fun
  | [d] => { results := [.lit (.bool false)], args := [d] }
  | _ => none }
def FnExactValidNumbersWrongFalsely : Prop := fnExactValidNumbersRow.holds Try.pinned (OpenSpec.ofChange fnExactValidNumbersWrong)

/- THE SECOND FORM. 'bulk': how many values and letters a reading holds, each counted each time it is reached (what is shared counts as often as it is met; a slice's spare places count too). A statement '..UptoSaid' is the law's where the arguments, and the package variables that the reading takes, are together of bulk at most 1048576: NARROWER than '..Said'. Prove '..Said' where nothing that the law and all that it calls make is longer than what came in: it says more and counts as full. Else prove '..UptoSaid'. A law counts once. -/
mutual
def uptoBulk {H : Type} : DataW H → Nat
  | .lit (.string bytes) => bytes.length + 1
  | .lit _ => 1
  | .nil => 1
  | .ptr d => uptoBulk d + 1
  | .slice elems spare => uptoBulkAll elems + uptoBulkAll spare + 1
  | .agg parts => uptoBulkAll parts + 1
  | .iface _ d => uptoBulk d + 1
  | .map entries => uptoBulkEntries entries + 1
  | .held _ => 1
def uptoBulkAll {H : Type} : List (DataW H) → Nat
  | [] => 0
  | d :: r => uptoBulk d + uptoBulkAll r
def uptoBulkEntries {H : Type} : List (Lit × DataW H) → Nat
  | [] => 0
  | x :: r => uptoBulkEntry x + uptoBulkEntries r
def uptoBulkEntry {H : Type} : Lit × DataW H → Nat
  | (.string bytes, d) => bytes.length + uptoBulk d + 1
  | (_, d) => uptoBulk d + 1
 end
def uptoSmall : (H : Type) → List (DataW H) → Bool := fun _ ds => decide (uptoBulkAll ds ≤ 1048576)
def OpenSpec.upto (s : _root_.Go.ChangeSpec) : _root_.Go.OpenSpec := { _root_.Go.OpenSpec.ofChange s with cond := some uptoSmall }

/-- 'laws.FnExactRunEncode', WHERE WHAT IT READS IS OF BULK AT MOST 1048576: true; the input reads as it did. -/
def fnExactRunEncodeUptoRow : OpenClaim := { program := "ytnlpkmkkidpfhaa", sum := "f5c9a5f2185e01db0b5af841df3568e2599abb71ee43be3690e612525d394595", func := "loop.example/g00904/laws.FnExactRunEncode", spec := "fnExactRunEncode", apart := false, narrowed := true }
def FnExactRunEncodeUptoSaid : Prop := fnExactRunEncodeUptoRow.holds Try.pinned (OpenSpec.upto fnExactRunEncodeSpec)

/-- 'laws.FnExactValidFilter', WHERE WHAT IT READS IS OF BULK AT MOST 1048576: true; the input reads as it did. -/
def fnExactValidFilterUptoRow : OpenClaim := { program := "ytnlpkmkkidpfhaa", sum := "f5c9a5f2185e01db0b5af841df3568e2599abb71ee43be3690e612525d394595", func := "loop.example/g00904/laws.FnExactValidFilter", spec := "fnExactValidFilter", apart := false, narrowed := true }
def FnExactValidFilterUptoSaid : Prop := fnExactValidFilterUptoRow.holds Try.pinned (OpenSpec.upto fnExactValidFilterSpec)

/-- 'laws.FnExactShuffle', WHERE WHAT IT READS IS OF BULK AT MOST 1048576: true; the input reads as it did. -/
def fnExactShuffleUptoRow : OpenClaim := { program := "ytnlpkmkkidpfhaa", sum := "f5c9a5f2185e01db0b5af841df3568e2599abb71ee43be3690e612525d394595", func := "loop.example/g00904/laws.FnExactShuffle", spec := "fnExactShuffle", apart := false, narrowed := true }
def FnExactShuffleUptoSaid : Prop := fnExactShuffleUptoRow.holds Try.pinned (OpenSpec.upto fnExactShuffleSpec)

/-- 'laws.FnExactUnshuffle', WHERE WHAT IT READS IS OF BULK AT MOST 1048576: true; the input reads as it did. -/
def fnExactUnshuffleUptoRow : OpenClaim := { program := "ytnlpkmkkidpfhaa", sum := "f5c9a5f2185e01db0b5af841df3568e2599abb71ee43be3690e612525d394595", func := "loop.example/g00904/laws.FnExactUnshuffle", spec := "fnExactUnshuffle", apart := false, narrowed := true }
def FnExactUnshuffleUptoSaid : Prop := fnExactUnshuffleUptoRow.holds Try.pinned (OpenSpec.upto fnExactUnshuffleSpec)

/-- 'laws.FnExactSamePipeline', WHERE WHAT IT READS IS OF BULK AT MOST 1048576: true; the input reads as it did. -/
def fnExactSamePipelineUptoRow : OpenClaim := { program := "ytnlpkmkkidpfhaa", sum := "f5c9a5f2185e01db0b5af841df3568e2599abb71ee43be3690e612525d394595", func := "loop.example/g00904/laws.FnExactSamePipeline", spec := "fnExactSamePipeline", apart := false, narrowed := true }
def FnExactSamePipelineUptoSaid : Prop := fnExactSamePipelineUptoRow.holds Try.pinned (OpenSpec.upto fnExactSamePipelineSpec)

/-- 'laws.FnExactSameNumbers', WHERE WHAT IT READS IS OF BULK AT MOST 1048576: true; the input reads as it did. -/
def fnExactSameNumbersUptoRow : OpenClaim := { program := "ytnlpkmkkidpfhaa", sum := "f5c9a5f2185e01db0b5af841df3568e2599abb71ee43be3690e612525d394595", func := "loop.example/g00904/laws.FnExactSameNumbers", spec := "fnExactSameNumbers", apart := false, narrowed := true }
def FnExactSameNumbersUptoSaid : Prop := fnExactSameNumbersUptoRow.holds Try.pinned (OpenSpec.upto fnExactSameNumbersSpec)

/-- 'laws.FnExactValidPipeline', WHERE WHAT IT READS IS OF BULK AT MOST 1048576: true; the input reads as it did. -/
def fnExactValidPipelineUptoRow : OpenClaim := { program := "ytnlpkmkkidpfhaa", sum := "f5c9a5f2185e01db0b5af841df3568e2599abb71ee43be3690e612525d394595", func := "loop.example/g00904/laws.FnExactValidPipeline", spec := "fnExactValidPipeline", unfollowed := true, recurses := true, apart := false, narrowed := true }
def FnExactValidPipelineUptoSaid : Prop := fnExactValidPipelineUptoRow.holds Try.pinned (OpenSpec.upto fnExactValidPipelineSpec)

/-- 'laws.FnExactPackedType', WHERE WHAT IT READS IS OF BULK AT MOST 1048576: true; the input reads as it did. -/
def fnExactPackedTypeUptoRow : OpenClaim := { program := "ytnlpkmkkidpfhaa", sum := "f5c9a5f2185e01db0b5af841df3568e2599abb71ee43be3690e612525d394595", func := "loop.example/g00904/laws.FnExactPackedType", spec := "fnExactPackedType", unfollowed := true, recurses := true, loops := true, apart := false, narrowed := true }
def FnExactPackedTypeUptoSaid : Prop := fnExactPackedTypeUptoRow.holds Try.pinned (OpenSpec.upto fnExactPackedTypeSpec)

/-- 'laws.FnExactDelta', WHERE WHAT IT READS IS OF BULK AT MOST 1048576: true; the input reads as it did. -/
def fnExactDeltaUptoRow : OpenClaim := { program := "ytnlpkmkkidpfhaa", sum := "f5c9a5f2185e01db0b5af841df3568e2599abb71ee43be3690e612525d394595", func := "loop.example/g00904/laws.FnExactDelta", spec := "fnExactDelta", inPlace := ["internal/abi.NoEscape"], apart := false, narrowed := true }
def FnExactDeltaUptoSaid : Prop := fnExactDeltaUptoRow.holds Try.pinned (OpenSpec.upto fnExactDeltaSpec)

/-- 'laws.FnExactUndelta', WHERE WHAT IT READS IS OF BULK AT MOST 1048576: true; the input reads as it did. -/
def fnExactUndeltaUptoRow : OpenClaim := { program := "ytnlpkmkkidpfhaa", sum := "f5c9a5f2185e01db0b5af841df3568e2599abb71ee43be3690e612525d394595", func := "loop.example/g00904/laws.FnExactUndelta", spec := "fnExactUndelta", inPlace := ["internal/abi.NoEscape"], apart := false, narrowed := true }
def FnExactUndeltaUptoSaid : Prop := fnExactUndeltaUptoRow.holds Try.pinned (OpenSpec.upto fnExactUndeltaSpec)

/-- 'laws.FnExactValidChunk', WHERE WHAT IT READS IS OF BULK AT MOST 1048576: true; the input reads as it did. -/
def fnExactValidChunkUptoRow : OpenClaim := { program := "ytnlpkmkkidpfhaa", sum := "f5c9a5f2185e01db0b5af841df3568e2599abb71ee43be3690e612525d394595", func := "loop.example/g00904/laws.FnExactValidChunk", spec := "fnExactValidChunk", unfollowed := true, recurses := true, apart := false, narrowed := true }
def FnExactValidChunkUptoSaid : Prop := fnExactValidChunkUptoRow.holds Try.pinned (OpenSpec.upto fnExactValidChunkSpec)

/-- 'laws.FnExactValidNumbers', WHERE WHAT IT READS IS OF BULK AT MOST 1048576: true; the input reads as it did. -/
def fnExactValidNumbersUptoRow : OpenClaim := { program := "ytnlpkmkkidpfhaa", sum := "f5c9a5f2185e01db0b5af841df3568e2599abb71ee43be3690e612525d394595", func := "loop.example/g00904/laws.FnExactValidNumbers", spec := "fnExactValidNumbers", unfollowed := true, recurses := true, apart := false, narrowed := true }
def FnExactValidNumbersUptoSaid : Prop := fnExactValidNumbersUptoRow.holds Try.pinned (OpenSpec.upto fnExactValidNumbersSpec)

end Rows
end Go.Proofs.Ytnlpkmkkidpfhaa
