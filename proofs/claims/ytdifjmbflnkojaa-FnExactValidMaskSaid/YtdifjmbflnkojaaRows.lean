/-
  No cell of these rows narrows 'for every input' (looked for: loops, veiled, ifaces, maps, wideKeys, modest, calm, conditions, laid).
  DERIVED. THE GIVEN ROWS OF THIS SEAT. 12 by the template 'for every input the law returns true; each argument reads behind the call as it read before'; 0 by the template 'total and deterministic' (their statements: YtdifjmbflnkojaaTotals.lean).
  GIVEN WITH THE SEED: the statements are not yours to turn. If you find one false, say at which input.
  Laid BY PROGRAM, IN A SANDBOX (cutbox-rows.mjs): the forced cells as the released guide's own fill.sh prints them over the translation 099924fbd665a0a1… (all of the seat's roots in one cut). By AI agents, Wed Nov 11 2026. No macro, syntax, notation, axiom, sorry.
-/
import Derived.Test.YtdifjmbflnkojaaChecked
import GoSem.Claim
import GoSem.ClaimJoined
import GoSem.ClaimMapViews
import Derived.JoinedTies
import Derived.KernelRfl
namespace Go.Proofs.Ytdifjmbflnkojaa
/- THE CELL 'sum', in the pinned program and in every row, IS THE sha256 OF THE DUMP (.gsa) THAT YtdifjmbflnkojaaProg.lean LOADS. Nothing in Lean hashes anything: it is a label: what it is worth is what the hold of that sum in a sandbox is worth. -/
noncomputable def Try.pinned : Pinned := { name := "ytdifjmbflnkojaa", sum := "099924fbd665a0a1132ba2fd18a58416554e3ae1a6e738a0742053d7eeb5f44e", checked := Try.checked }
namespace Rows
def none {H : Type} : Left H := { results := [], args := [] }

/-- 'laws.FnExactNewCache': WHATEVER THE INPUT: true; the input reads as it did. -/
def fnExactNewCacheSpec : ChangeSpec := { name := "fnExactNewCache", fn := fun _ => fun
  | [d] => { results := [.lit (.bool true)], args := [d] }
  | _ => none }
def fnExactNewCacheRow : OpenClaim := { program := "ytdifjmbflnkojaa", sum := "099924fbd665a0a1132ba2fd18a58416554e3ae1a6e738a0742053d7eeb5f44e", func := "loop.example/g00904/laws.FnExactNewCache", spec := "fnExactNewCache", apart := false }
def FnExactNewCacheSaid : Prop := fnExactNewCacheRow.holds Try.pinned (OpenSpec.ofChange fnExactNewCacheSpec)

/-- ITS FALSE NEIGHBOUR: 'it returns false'. Refute it at one input. -/
def fnExactNewCacheWrong : ChangeSpec := { name := "fnExactNewCache", fn := fun _ => fun
  | [d] => { results := [.lit (.bool false)], args := [d] }
  | _ => none }
def FnExactNewCacheWrongFalsely : Prop := fnExactNewCacheRow.holds Try.pinned (OpenSpec.ofChange fnExactNewCacheWrong)

/-- 'laws.FnExactValidMask': WHATEVER THE INPUT: true; the input reads as it did. -/
def fnExactValidMaskSpec : ChangeSpec := { name := "fnExactValidMask", fn := fun _ => fun
  | [d1, d2] => { results := [.lit (.bool true)], args := [d1, d2] }
  | _ => none }
def fnExactValidMaskRow : OpenClaim := { program := "ytdifjmbflnkojaa", sum := "099924fbd665a0a1132ba2fd18a58416554e3ae1a6e738a0742053d7eeb5f44e", func := "loop.example/g00904/laws.FnExactValidMask", spec := "fnExactValidMask", unfollowed := true, recurses := true, apart := false }
def FnExactValidMaskSaid : Prop := fnExactValidMaskRow.holds Try.pinned (OpenSpec.ofChange fnExactValidMaskSpec)

/-- ITS FALSE NEIGHBOUR: 'it returns false'. Refute it at one input. -/
def fnExactValidMaskWrong : ChangeSpec := { name := "fnExactValidMask", fn := fun _ => fun
  | [d1, d2] => { results := [.lit (.bool false)], args := [d1, d2] }
  | _ => none }
def FnExactValidMaskWrongFalsely : Prop := fnExactValidMaskRow.holds Try.pinned (OpenSpec.ofChange fnExactValidMaskWrong)

/-- 'laws.FnExactSameCache': WHATEVER THE INPUT: true; the input reads as it did. -/
def fnExactSameCacheSpec : ChangeSpec := { name := "fnExactSameCache", fn := fun _ => fun
  | [d1, d2] => { results := [.lit (.bool true)], args := [d1, d2] }
  | _ => none }
def fnExactSameCacheRow : OpenClaim := { program := "ytdifjmbflnkojaa", sum := "099924fbd665a0a1132ba2fd18a58416554e3ae1a6e738a0742053d7eeb5f44e", func := "loop.example/g00904/laws.FnExactSameCache", spec := "fnExactSameCache", apart := false }
def FnExactSameCacheSaid : Prop := fnExactSameCacheRow.holds Try.pinned (OpenSpec.ofChange fnExactSameCacheSpec)

/-- ITS FALSE NEIGHBOUR: 'it returns false'. Refute it at one input. -/
def fnExactSameCacheWrong : ChangeSpec := { name := "fnExactSameCache", fn := fun _ => fun
  | [d1, d2] => { results := [.lit (.bool false)], args := [d1, d2] }
  | _ => none }
def FnExactSameCacheWrongFalsely : Prop := fnExactSameCacheRow.holds Try.pinned (OpenSpec.ofChange fnExactSameCacheWrong)

/-- 'laws.FnExactNameAt': WHATEVER THE INPUT: true; the input reads as it did. -/
def fnExactNameAtSpec : ChangeSpec := { name := "fnExactNameAt", fn := fun _ => fun
  | [d1, d2] => { results := [.lit (.bool true)], args := [d1, d2] }
  | _ => none }
def fnExactNameAtRow : OpenClaim := { program := "ytdifjmbflnkojaa", sum := "099924fbd665a0a1132ba2fd18a58416554e3ae1a6e738a0742053d7eeb5f44e", func := "loop.example/g00904/laws.FnExactNameAt", spec := "fnExactNameAt", unfollowed := true, recurses := true, apart := false }
def FnExactNameAtSaid : Prop := fnExactNameAtRow.holds Try.pinned (OpenSpec.ofChange fnExactNameAtSpec)

/-- ITS FALSE NEIGHBOUR: 'it returns false'. Refute it at one input. -/
def fnExactNameAtWrong : ChangeSpec := { name := "fnExactNameAt", fn := fun _ => fun
  | [d1, d2] => { results := [.lit (.bool false)], args := [d1, d2] }
  | _ => none }
def FnExactNameAtWrongFalsely : Prop := fnExactNameAtRow.holds Try.pinned (OpenSpec.ofChange fnExactNameAtWrong)

/-- 'laws.FnExactLzEncode': WHATEVER THE INPUT: true; the input reads as it did. -/
def fnExactLzEncodeSpec : ChangeSpec := { name := "fnExactLzEncode", fn := fun _ => fun
  | [d] => { results := [.lit (.bool true)], args := [d] }
  | _ => none }
def fnExactLzEncodeRow : OpenClaim := { program := "ytdifjmbflnkojaa", sum := "099924fbd665a0a1132ba2fd18a58416554e3ae1a6e738a0742053d7eeb5f44e", func := "loop.example/g00904/laws.FnExactLzEncode", spec := "fnExactLzEncode", inPlace := ["internal/abi.NoEscape"], apart := false }
def FnExactLzEncodeSaid : Prop := fnExactLzEncodeRow.holds Try.pinned (OpenSpec.ofChange fnExactLzEncodeSpec)

/-- ITS FALSE NEIGHBOUR: 'it returns false'. Refute it at one input. -/
def fnExactLzEncodeWrong : ChangeSpec := { name := "fnExactLzEncode", fn := fun _ => fun
  | [d] => { results := [.lit (.bool false)], args := [d] }
  | _ => none }
def FnExactLzEncodeWrongFalsely : Prop := fnExactLzEncodeRow.holds Try.pinned (OpenSpec.ofChange fnExactLzEncodeWrong)

/-- 'laws.FnExactSlotOf': WHATEVER THE INPUT: true; the input reads as it did. -/
def fnExactSlotOfSpec : ChangeSpec := { name := "fnExactSlotOf", fn := fun _ => fun
  | [d1, d2] => { results := [.lit (.bool true)], args := [d1, d2] }
  | _ => none }
def fnExactSlotOfRow : OpenClaim := { program := "ytdifjmbflnkojaa", sum := "099924fbd665a0a1132ba2fd18a58416554e3ae1a6e738a0742053d7eeb5f44e", func := "loop.example/g00904/laws.FnExactSlotOf", spec := "fnExactSlotOf", unfollowed := true, recurses := true, apart := false }
def FnExactSlotOfSaid : Prop := fnExactSlotOfRow.holds Try.pinned (OpenSpec.ofChange fnExactSlotOfSpec)

/-- ITS FALSE NEIGHBOUR: 'it returns false'. Refute it at one input. -/
def fnExactSlotOfWrong : ChangeSpec := { name := "fnExactSlotOf", fn := fun _ => fun
  | [d1, d2] => { results := [.lit (.bool false)], args := [d1, d2] }
  | _ => none }
def FnExactSlotOfWrongFalsely : Prop := fnExactSlotOfRow.holds Try.pinned (OpenSpec.ofChange fnExactSlotOfWrong)

/-- 'laws.FnExactEncodeHeap': WHATEVER THE INPUT: true; the input reads as it did. -/
def fnExactEncodeHeapSpec : ChangeSpec := { name := "fnExactEncodeHeap", fn := fun _ => fun
  | [d] => { results := [.lit (.bool true)], args := [d] }
  | _ => none }
def fnExactEncodeHeapRow : OpenClaim := { program := "ytdifjmbflnkojaa", sum := "099924fbd665a0a1132ba2fd18a58416554e3ae1a6e738a0742053d7eeb5f44e", func := "loop.example/g00904/laws.FnExactEncodeHeap", spec := "fnExactEncodeHeap", unfollowed := true, recurses := true, apart := false }
def FnExactEncodeHeapSaid : Prop := fnExactEncodeHeapRow.holds Try.pinned (OpenSpec.ofChange fnExactEncodeHeapSpec)

/-- ITS FALSE NEIGHBOUR: 'it returns false'. Refute it at one input. -/
def fnExactEncodeHeapWrong : ChangeSpec := { name := "fnExactEncodeHeap", fn := fun _ => fun
  | [d] => { results := [.lit (.bool false)], args := [d] }
  | _ => none }
def FnExactEncodeHeapWrongFalsely : Prop := fnExactEncodeHeapRow.holds Try.pinned (OpenSpec.ofChange fnExactEncodeHeapWrong)

/-- 'laws.FnExactValidCache': WHATEVER THE INPUT: true; the input reads as it did. -/
def fnExactValidCacheSpec : ChangeSpec := { name := "fnExactValidCache", fn := fun _ => fun
  | [d] => { results := [.lit (.bool true)], args := [d] }
  | _ => none }
def fnExactValidCacheRow : OpenClaim := { program := "ytdifjmbflnkojaa", sum := "099924fbd665a0a1132ba2fd18a58416554e3ae1a6e738a0742053d7eeb5f44e", func := "loop.example/g00904/laws.FnExactValidCache", spec := "fnExactValidCache", unfollowed := true, recurses := true, apart := false }
def FnExactValidCacheSaid : Prop := fnExactValidCacheRow.holds Try.pinned (OpenSpec.ofChange fnExactValidCacheSpec)

/-- ITS FALSE NEIGHBOUR: 'it returns false'. Refute it at one input. -/
def fnExactValidCacheWrong : ChangeSpec := { name := "fnExactValidCache", fn := fun _ => fun
  | [d] => { results := [.lit (.bool false)], args := [d] }
  | _ => none }
def FnExactValidCacheWrongFalsely : Prop := fnExactValidCacheRow.holds Try.pinned (OpenSpec.ofChange fnExactValidCacheWrong)

/-- 'laws.FnExactEncodePipeline': WHATEVER THE INPUT: true; the input reads as it did. -/
def fnExactEncodePipelineSpec : ChangeSpec := { name := "fnExactEncodePipeline", fn := fun _ => fun
  | [d] => { results := [.lit (.bool true)], args := [d] }
  | _ => none }
def fnExactEncodePipelineRow : OpenClaim := { program := "ytdifjmbflnkojaa", sum := "099924fbd665a0a1132ba2fd18a58416554e3ae1a6e738a0742053d7eeb5f44e", func := "loop.example/g00904/laws.FnExactEncodePipeline", spec := "fnExactEncodePipeline", unfollowed := true, recurses := true, apart := false }
def FnExactEncodePipelineSaid : Prop := fnExactEncodePipelineRow.holds Try.pinned (OpenSpec.ofChange fnExactEncodePipelineSpec)

/-- ITS FALSE NEIGHBOUR: 'it returns false'. Refute it at one input. -/
def fnExactEncodePipelineWrong : ChangeSpec := { name := "fnExactEncodePipeline", fn := fun _ => fun
  | [d] => { results := [.lit (.bool false)], args := [d] }
  | _ => none }
def FnExactEncodePipelineWrongFalsely : Prop := fnExactEncodePipelineRow.holds Try.pinned (OpenSpec.ofChange fnExactEncodePipelineWrong)

/-- 'laws.FnExactEncodeSpace': WHATEVER THE INPUT: true; the input reads as it did. -/
def fnExactEncodeSpaceSpec : ChangeSpec := { name := "fnExactEncodeSpace", fn := fun _ => fun
  | [d] => { results := [.lit (.bool true)], args := [d] }
  | _ => none }
def fnExactEncodeSpaceRow : OpenClaim := { program := "ytdifjmbflnkojaa", sum := "099924fbd665a0a1132ba2fd18a58416554e3ae1a6e738a0742053d7eeb5f44e", func := "loop.example/g00904/laws.FnExactEncodeSpace", spec := "fnExactEncodeSpace", unfollowed := true, recurses := true, apart := false }
def FnExactEncodeSpaceSaid : Prop := fnExactEncodeSpaceRow.holds Try.pinned (OpenSpec.ofChange fnExactEncodeSpaceSpec)

/-- ITS FALSE NEIGHBOUR: 'it returns false'. Refute it at one input. -/
def fnExactEncodeSpaceWrong : ChangeSpec := { name := "fnExactEncodeSpace", fn := fun _ => fun
  | [d] => { results := [.lit (.bool false)], args := [d] }
  | _ => none }
def FnExactEncodeSpaceWrongFalsely : Prop := fnExactEncodeSpaceRow.holds Try.pinned (OpenSpec.ofChange fnExactEncodeSpaceWrong)

/-- 'laws.FnExactRunDecode': WHATEVER THE INPUT: true; the input reads as it did. -/
def fnExactRunDecodeSpec : ChangeSpec := { name := "fnExactRunDecode", fn := fun _ => fun
  | [d] => { results := [.lit (.bool true)], args := [d] }
  | _ => none }
def fnExactRunDecodeRow : OpenClaim := { program := "ytdifjmbflnkojaa", sum := "099924fbd665a0a1132ba2fd18a58416554e3ae1a6e738a0742053d7eeb5f44e", func := "loop.example/g00904/laws.FnExactRunDecode", spec := "fnExactRunDecode", inPlace := ["internal/abi.NoEscape", "internal/bytealg.MakeNoZero"], apart := false }
def FnExactRunDecodeSaid : Prop := fnExactRunDecodeRow.holds Try.pinned (OpenSpec.ofChange fnExactRunDecodeSpec)

/-- ITS FALSE NEIGHBOUR: 'it returns false'. Refute it at one input. -/
def fnExactRunDecodeWrong : ChangeSpec := { name := "fnExactRunDecode", fn := fun _ => fun
  | [d] => { results := [.lit (.bool false)], args := [d] }
  | _ => none }
def FnExactRunDecodeWrongFalsely : Prop := fnExactRunDecodeRow.holds Try.pinned (OpenSpec.ofChange fnExactRunDecodeWrong)

/-- 'laws.FnRuns': WHATEVER THE INPUT: true; the input reads as it did. -/
def fnRunsSpec : ChangeSpec := { name := "fnRuns", fn := fun _ => fun
  | [d] => { results := [.lit (.bool true)], args := [d] }
  | _ => none }
def fnRunsRow : OpenClaim := { program := "ytdifjmbflnkojaa", sum := "099924fbd665a0a1132ba2fd18a58416554e3ae1a6e738a0742053d7eeb5f44e", func := "loop.example/g00904/laws.FnRuns", spec := "fnRuns", inPlace := ["internal/abi.NoEscape", "internal/bytealg.MakeNoZero"], apart := false }
def FnRunsSaid : Prop := fnRunsRow.holds Try.pinned (OpenSpec.ofChange fnRunsSpec)

/-- ITS FALSE NEIGHBOUR: 'it returns false'. Refute it at one input. -/
def fnRunsWrong : ChangeSpec := { name := "fnRuns", fn := fun _ => fun
  | [d] => { results := [.lit (.bool false)], args := [d] }
  | _ => none }
def FnRunsWrongFalsely : Prop := fnRunsRow.holds Try.pinned (OpenSpec.ofChange fnRunsWrong)

/- THE SECOND FORM. 'bulk': how many values and letters a reading holds, each counted each time it is reached (what is shared counts as often as it is met; a slice's spare places count too). A statement '..UptoSaid' is the law's where the arguments, and the package variables that the reading takes, are together of bulk at most 1048576: NARROWER than '..Said'. Prove '..Said' where nothing that the law and all that it calls make is longer than what came in: it says more and counts as full. Else prove '..UptoSaid'. A law counts once. -/
mutual
def uptoBulk {H : Type} : DataW H → Nat
  | .lit (.string bytes) => bytes.length + 1
  | .lit _ => 1
  | .nil => 1
  | .ptr d => uptoBulk d + 1
  | .slice elems spare => uptoBulkAll elems + uptoBulkAll spare + 1
  | .agg parts => uptoBulkAll parts + 1
  | .iface _ d => uptoBulk d + 1
  | .map entries => uptoBulkEntries entries + 1
  | .held _ => 1
def uptoBulkAll {H : Type} : List (DataW H) → Nat
  | [] => 0
  | d :: r => uptoBulk d + uptoBulkAll r
def uptoBulkEntries {H : Type} : List (Lit × DataW H) → Nat
  | [] => 0
  | x :: r => uptoBulkEntry x + uptoBulkEntries r
def uptoBulkEntry {H : Type} : Lit × DataW H → Nat
  | (.string bytes, d) => bytes.length + uptoBulk d + 1
  | (_, d) => uptoBulk d + 1
 end
def uptoSmall : (H : Type) → List (DataW H) → Bool := fun _ ds => decide (uptoBulkAll ds ≤ 1048576)
def OpenSpec.upto (s : _root_.Go.ChangeSpec) : _root_.Go.OpenSpec := { _root_.Go.OpenSpec.ofChange s with cond := some uptoSmall }

/-- 'laws.FnExactNewCache', WHERE WHAT IT READS IS OF BULK AT MOST 1048576: true; the input reads as it did. -/
def fnExactNewCacheUptoRow : OpenClaim := { program := "ytdifjmbflnkojaa", sum := "099924fbd665a0a1132ba2fd18a58416554e3ae1a6e738a0742053d7eeb5f44e", func := "loop.example/g00904/laws.FnExactNewCache", spec := "fnExactNewCache", apart := false, narrowed := true }
def FnExactNewCacheUptoSaid : Prop := fnExactNewCacheUptoRow.holds Try.pinned (OpenSpec.upto fnExactNewCacheSpec)

/-- 'laws.FnExactValidMask', WHERE WHAT IT READS IS OF BULK AT MOST 1048576: true; the input reads as it did. -/
def fnExactValidMaskUptoRow : OpenClaim := { program := "ytdifjmbflnkojaa", sum := "099924fbd665a0a1132ba2fd18a58416554e3ae1a6e738a0742053d7eeb5f44e", func := "loop.example/g00904/laws.FnExactValidMask", spec := "fnExactValidMask", unfollowed := true, recurses := true, apart := false, narrowed := true }
def FnExactValidMaskUptoSaid : Prop := fnExactValidMaskUptoRow.holds Try.pinned (OpenSpec.upto fnExactValidMaskSpec)

/-- 'laws.FnExactSameCache', WHERE WHAT IT READS IS OF BULK AT MOST 1048576: true; the input reads as it did. -/
def fnExactSameCacheUptoRow : OpenClaim := { program := "ytdifjmbflnkojaa", sum := "099924fbd665a0a1132ba2fd18a58416554e3ae1a6e738a0742053d7eeb5f44e", func := "loop.example/g00904/laws.FnExactSameCache", spec := "fnExactSameCache", apart := false, narrowed := true }
def FnExactSameCacheUptoSaid : Prop := fnExactSameCacheUptoRow.holds Try.pinned (OpenSpec.upto fnExactSameCacheSpec)

/-- 'laws.FnExactNameAt', WHERE WHAT IT READS IS OF BULK AT MOST 1048576: true; the input reads as it did. -/
def fnExactNameAtUptoRow : OpenClaim := { program := "ytdifjmbflnkojaa", sum := "099924fbd665a0a1132ba2fd18a58416554e3ae1a6e738a0742053d7eeb5f44e", func := "loop.example/g00904/laws.FnExactNameAt", spec := "fnExactNameAt", unfollowed := true, recurses := true, apart := false, narrowed := true }
def FnExactNameAtUptoSaid : Prop := fnExactNameAtUptoRow.holds Try.pinned (OpenSpec.upto fnExactNameAtSpec)

/-- 'laws.FnExactLzEncode', WHERE WHAT IT READS IS OF BULK AT MOST 1048576: true; the input reads as it did. -/
def fnExactLzEncodeUptoRow : OpenClaim := { program := "ytdifjmbflnkojaa", sum := "099924fbd665a0a1132ba2fd18a58416554e3ae1a6e738a0742053d7eeb5f44e", func := "loop.example/g00904/laws.FnExactLzEncode", spec := "fnExactLzEncode", inPlace := ["internal/abi.NoEscape"], apart := false, narrowed := true }
def FnExactLzEncodeUptoSaid : Prop := fnExactLzEncodeUptoRow.holds Try.pinned (OpenSpec.upto fnExactLzEncodeSpec)

/-- 'laws.FnExactSlotOf', WHERE WHAT IT READS IS OF BULK AT MOST 1048576: true; the input reads as it did. -/
def fnExactSlotOfUptoRow : OpenClaim := { program := "ytdifjmbflnkojaa", sum := "099924fbd665a0a1132ba2fd18a58416554e3ae1a6e738a0742053d7eeb5f44e", func := "loop.example/g00904/laws.FnExactSlotOf", spec := "fnExactSlotOf", unfollowed := true, recurses := true, apart := false, narrowed := true }
def FnExactSlotOfUptoSaid : Prop := fnExactSlotOfUptoRow.holds Try.pinned (OpenSpec.upto fnExactSlotOfSpec)

/-- 'laws.FnExactEncodeHeap', WHERE WHAT IT READS IS OF BULK AT MOST 1048576: true; the input reads as it did. -/
def fnExactEncodeHeapUptoRow : OpenClaim := { program := "ytdifjmbflnkojaa", sum := "099924fbd665a0a1132ba2fd18a58416554e3ae1a6e738a0742053d7eeb5f44e", func := "loop.example/g00904/laws.FnExactEncodeHeap", spec := "fnExactEncodeHeap", unfollowed := true, recurses := true, apart := false, narrowed := true }
def FnExactEncodeHeapUptoSaid : Prop := fnExactEncodeHeapUptoRow.holds Try.pinned (OpenSpec.upto fnExactEncodeHeapSpec)

/-- 'laws.FnExactValidCache', WHERE WHAT IT READS IS OF BULK AT MOST 1048576: true; the input reads as it did. -/
def fnExactValidCacheUptoRow : OpenClaim := { program := "ytdifjmbflnkojaa", sum := "099924fbd665a0a1132ba2fd18a58416554e3ae1a6e738a0742053d7eeb5f44e", func := "loop.example/g00904/laws.FnExactValidCache", spec := "fnExactValidCache", unfollowed := true, recurses := true, apart := false, narrowed := true }
def FnExactValidCacheUptoSaid : Prop := fnExactValidCacheUptoRow.holds Try.pinned (OpenSpec.upto fnExactValidCacheSpec)

/-- 'laws.FnExactEncodePipeline', WHERE WHAT IT READS IS OF BULK AT MOST 1048576: true; the input reads as it did. -/
def fnExactEncodePipelineUptoRow : OpenClaim := { program := "ytdifjmbflnkojaa", sum := "099924fbd665a0a1132ba2fd18a58416554e3ae1a6e738a0742053d7eeb5f44e", func := "loop.example/g00904/laws.FnExactEncodePipeline", spec := "fnExactEncodePipeline", unfollowed := true, recurses := true, apart := false, narrowed := true }
def FnExactEncodePipelineUptoSaid : Prop := fnExactEncodePipelineUptoRow.holds Try.pinned (OpenSpec.upto fnExactEncodePipelineSpec)

/-- 'laws.FnExactEncodeSpace', WHERE WHAT IT READS IS OF BULK AT MOST 1048576: true; the input reads as it did. -/
def fnExactEncodeSpaceUptoRow : OpenClaim := { program := "ytdifjmbflnkojaa", sum := "099924fbd665a0a1132ba2fd18a58416554e3ae1a6e738a0742053d7eeb5f44e", func := "loop.example/g00904/laws.FnExactEncodeSpace", spec := "fnExactEncodeSpace", unfollowed := true, recurses := true, apart := false, narrowed := true }
def FnExactEncodeSpaceUptoSaid : Prop := fnExactEncodeSpaceUptoRow.holds Try.pinned (OpenSpec.upto fnExactEncodeSpaceSpec)

/-- 'laws.FnExactRunDecode', WHERE WHAT IT READS IS OF BULK AT MOST 1048576: true; the input reads as it did. -/
def fnExactRunDecodeUptoRow : OpenClaim := { program := "ytdifjmbflnkojaa", sum := "099924fbd665a0a1132ba2fd18a58416554e3ae1a6e738a0742053d7eeb5f44e", func := "loop.example/g00904/laws.FnExactRunDecode", spec := "fnExactRunDecode", inPlace := ["internal/abi.NoEscape", "internal/bytealg.MakeNoZero"], apart := false, narrowed := true }
def FnExactRunDecodeUptoSaid : Prop := fnExactRunDecodeUptoRow.holds Try.pinned (OpenSpec.upto fnExactRunDecodeSpec)

/-- 'laws.FnRuns', WHERE WHAT IT READS IS OF BULK AT MOST 1048576: true; the input reads as it did. -/
def fnRunsUptoRow : OpenClaim := { program := "ytdifjmbflnkojaa", sum := "099924fbd665a0a1132ba2fd18a58416554e3ae1a6e738a0742053d7eeb5f44e", func := "loop.example/g00904/laws.FnRuns", spec := "fnRuns", inPlace := ["internal/abi.NoEscape", "internal/bytealg.MakeNoZero"], apart := false, narrowed := true }
def FnRunsUptoSaid : Prop := fnRunsUptoRow.holds Try.pinned (OpenSpec.upto fnRunsSpec)

end Rows
end Go.Proofs.Ytdifjmbflnkojaa
