/-
  No cell of these rows narrows 'for every input' (looked for: loops, veiled, ifaces, maps, wideKeys, modest, calm, conditions, laid).
  DERIVED. THE GIVEN ROWS OF THIS SEAT. 6 by the template 'for every input the law returns true; each argument reads behind the call as it read before'; 0 by the template 'total and deterministic' (their statements: YtmaaolemlobjeaaTotals.lean).
  GIVEN WITH THE SEED: the statements are not yours to turn. If you find one false, say at which input.
  Laid BY PROGRAM, IN A SANDBOX (cutbox-rows.mjs): the forced cells as the released guide's own fill.sh prints them over the translation a388356a39b96257… (all of the seat's roots in one cut). By AI agents, Wed Nov 11 2026. No macro, syntax, notation, axiom, sorry.
-/
import Derived.Test.YtmaaolemlobjeaaChecked
import GoSem.Claim
import GoSem.ClaimJoined
import GoSem.ClaimMapViews
import Derived.JoinedTies
import Derived.KernelRfl
namespace Go.Proofs.Ytmaaolemlobjeaa
/- THE CELL 'sum', in the pinned program and in every row, IS THE sha256 OF THE DUMP (.gsa) THAT YtmaaolemlobjeaaProg.lean LOADS. Nothing in Lean hashes anything: it is a label: what it is worth is what the hold of that sum in a sandbox is worth. -/
noncomputable def Try.pinned : Pinned := { name := "ytmaaolemlobjeaa", sum := "a388356a39b9625726ebcde420faf009814d9dd673ee05e0144145103700e6d2", checked := Try.checked }
namespace Rows
def none {H : Type} : Left H := { results := [], args := [] }

/-- 'laws.FnExactDelta': WHATEVER THE INPUT: true; the input reads as it did. -/
def fnExactDeltaSpec : ChangeSpec := { name := "fnExactDelta", fn := fun _ => fun
  | [d1, d2] => { results := [.lit (.bool true)], args := [d1, d2] }
  | _ => none }
def fnExactDeltaRow : OpenClaim := { program := "ytmaaolemlobjeaa", sum := "a388356a39b9625726ebcde420faf009814d9dd673ee05e0144145103700e6d2", func := "loop.example/g00904/laws.FnExactDelta", spec := "fnExactDelta", inPlace := ["internal/abi.NoEscape"], apart := false }
def FnExactDeltaSaid : Prop := fnExactDeltaRow.holds Try.pinned (OpenSpec.ofChange fnExactDeltaSpec)

/-- ITS FALSE NEIGHBOUR: 'it returns false'. Refute it at one input. -/
def fnExactDeltaWrong : ChangeSpec := { name := "fnExactDelta", fn := fun _ => fun
  | [d1, d2] => { results := [.lit (.bool false)], args := [d1, d2] }
  | _ => none }
def FnExactDeltaWrongFalsely : Prop := fnExactDeltaRow.holds Try.pinned (OpenSpec.ofChange fnExactDeltaWrong)

/-- 'laws.FnExactUndelta': WHATEVER THE INPUT: true; the input reads as it did. -/
def fnExactUndeltaSpec : ChangeSpec := { name := "fnExactUndelta", fn := fun _ => fun
  | [d1, d2] => { results := [.lit (.bool true)], args := [d1, d2] }
  | _ => none }
def fnExactUndeltaRow : OpenClaim := { program := "ytmaaolemlobjeaa", sum := "a388356a39b9625726ebcde420faf009814d9dd673ee05e0144145103700e6d2", func := "loop.example/g00904/laws.FnExactUndelta", spec := "fnExactUndelta", inPlace := ["internal/abi.NoEscape"], apart := false }
def FnExactUndeltaSaid : Prop := fnExactUndeltaRow.holds Try.pinned (OpenSpec.ofChange fnExactUndeltaSpec)

/-- ITS FALSE NEIGHBOUR: 'it returns false'. Refute it at one input. -/
def fnExactUndeltaWrong : ChangeSpec := { name := "fnExactUndelta", fn := fun _ => fun
  | [d1, d2] => { results := [.lit (.bool false)], args := [d1, d2] }
  | _ => none }
def FnExactUndeltaWrongFalsely : Prop := fnExactUndeltaRow.holds Try.pinned (OpenSpec.ofChange fnExactUndeltaWrong)

/-- 'laws.FnExactNewCache': WHATEVER THE INPUT: true; the input reads as it did. -/
def fnExactNewCacheSpec : ChangeSpec := { name := "fnExactNewCache", fn := fun _ => fun
  | [d] => { results := [.lit (.bool true)], args := [d] }
  | _ => none }
def fnExactNewCacheRow : OpenClaim := { program := "ytmaaolemlobjeaa", sum := "a388356a39b9625726ebcde420faf009814d9dd673ee05e0144145103700e6d2", func := "loop.example/g00904/laws.FnExactNewCache", spec := "fnExactNewCache", apart := false }
def FnExactNewCacheSaid : Prop := fnExactNewCacheRow.holds Try.pinned (OpenSpec.ofChange fnExactNewCacheSpec)

/-- ITS FALSE NEIGHBOUR: 'it returns false'. Refute it at one input. -/
def fnExactNewCacheWrong : ChangeSpec := { name := "fnExactNewCache", fn := fun _ => fun
  | [d] => { results := [.lit (.bool false)], args := [d] }
  | _ => none }
def FnExactNewCacheWrongFalsely : Prop := fnExactNewCacheRow.holds Try.pinned (OpenSpec.ofChange fnExactNewCacheWrong)

/-- 'laws.FnExactLzEncode': WHATEVER THE INPUT: true; the input reads as it did. -/
def fnExactLzEncodeSpec : ChangeSpec := { name := "fnExactLzEncode", fn := fun _ => fun
  | [d] => { results := [.lit (.bool true)], args := [d] }
  | _ => none }
def fnExactLzEncodeRow : OpenClaim := { program := "ytmaaolemlobjeaa", sum := "a388356a39b9625726ebcde420faf009814d9dd673ee05e0144145103700e6d2", func := "loop.example/g00904/laws.FnExactLzEncode", spec := "fnExactLzEncode", inPlace := ["internal/abi.NoEscape"], apart := false }
def FnExactLzEncodeSaid : Prop := fnExactLzEncodeRow.holds Try.pinned (OpenSpec.ofChange fnExactLzEncodeSpec)

/-- ITS FALSE NEIGHBOUR: 'it returns false'. Refute it at one input. -/
def fnExactLzEncodeWrong : ChangeSpec := { name := "fnExactLzEncode", fn := fun _ => fun
  | [d] => { results := [.lit (.bool false)], args := [d] }
  | _ => none }
def FnExactLzEncodeWrongFalsely : Prop := fnExactLzEncodeRow.holds Try.pinned (OpenSpec.ofChange fnExactLzEncodeWrong)

/-- 'laws.FnExactRunDecode': WHATEVER THE INPUT: true; the input reads as it did. -/
def fnExactRunDecodeSpec : ChangeSpec := { name := "fnExactRunDecode", fn := fun _ => fun
  | [d] => { results := [.lit (.bool true)], args := [d] }
  | _ => none }
def fnExactRunDecodeRow : OpenClaim := { program := "ytmaaolemlobjeaa", sum := "a388356a39b9625726ebcde420faf009814d9dd673ee05e0144145103700e6d2", func := "loop.example/g00904/laws.FnExactRunDecode", spec := "fnExactRunDecode", inPlace := ["internal/abi.NoEscape", "internal/bytealg.MakeNoZero"], apart := false }
def FnExactRunDecodeSaid : Prop := fnExactRunDecodeRow.holds Try.pinned (OpenSpec.ofChange fnExactRunDecodeSpec)

/-- ITS FALSE NEIGHBOUR: 'it returns false'. Refute it at one input. -/
def fnExactRunDecodeWrong : ChangeSpec := { name := "fnExactRunDecode", fn := fun _ => fun
  | [d] => { results := [.lit (.bool false)], args := [d] }
  | _ => none }
def FnExactRunDecodeWrongFalsely : Prop := fnExactRunDecodeRow.holds Try.pinned (OpenSpec.ofChange fnExactRunDecodeWrong)

/-- 'laws.FnRuns': WHATEVER THE INPUT: true; the input reads as it did. -/
def fnRunsSpec : ChangeSpec := { name := "fnRuns", fn := fun _ => fun
  | [d] => { results := [.lit (.bool true)], args := [d] }
  | _ => none }
def fnRunsRow : OpenClaim := { program := "ytmaaolemlobjeaa", sum := "a388356a39b9625726ebcde420faf009814d9dd673ee05e0144145103700e6d2", func := "loop.example/g00904/laws.FnRuns", spec := "fnRuns", inPlace := ["internal/abi.NoEscape", "internal/bytealg.MakeNoZero"], apart := false }
def FnRunsSaid : Prop := fnRunsRow.holds Try.pinned (OpenSpec.ofChange fnRunsSpec)

/-- ITS FALSE NEIGHBOUR: 'it returns false'. Refute it at one input. -/
def fnRunsWrong : ChangeSpec := { name := "fnRuns", fn := fun _ => fun
  | [d] => { results := [.lit (.bool false)], args := [d] }
  | _ => none }
def FnRunsWrongFalsely : Prop := fnRunsRow.holds Try.pinned (OpenSpec.ofChange fnRunsWrong)

/- THE SECOND FORM. 'bulk': how many values and letters a reading holds, each counted each time it is reached (what is shared counts as often as it is met; a slice's spare places count too). A statement '..UptoSaid' is the law's where the arguments, and the package variables that the reading takes, are together of bulk at most 1048576: NARROWER than '..Said'. Prove '..Said' where nothing that the law and all that it calls make is longer than what came in: it says more and counts as full. Else prove '..UptoSaid'. A law counts once. -/
mutual
def uptoBulk {H : Type} : DataW H → Nat
  | .lit (.string bytes) => bytes.length + 1
  | .lit _ => 1
  | .nil => 1
  | .ptr d => uptoBulk d + 1
  | .slice elems spare => uptoBulkAll elems + uptoBulkAll spare + 1
  | .agg parts => uptoBulkAll parts + 1
  | .iface _ d => uptoBulk d + 1
  | .map entries => uptoBulkEntries entries + 1
  | .held _ => 1
def uptoBulkAll {H : Type} : List (DataW H) → Nat
  | [] => 0
  | d :: r => uptoBulk d + uptoBulkAll r
def uptoBulkEntries {H : Type} : List (Lit × DataW H) → Nat
  | [] => 0
  | x :: r => uptoBulkEntry x + uptoBulkEntries r
def uptoBulkEntry {H : Type} : Lit × DataW H → Nat
  | (.string bytes, d) => bytes.length + uptoBulk d + 1
  | (_, d) => uptoBulk d + 1
 end
def uptoSmall : (H : Type) → List (DataW H) → Bool := fun _ ds => decide (uptoBulkAll ds ≤ 1048576)
def OpenSpec.upto (s : _root_.Go.ChangeSpec) : _root_.Go.OpenSpec := { _root_.Go.OpenSpec.ofChange s with cond := some uptoSmall }

/-- 'laws.FnExactDelta', WHERE WHAT IT READS IS OF BULK AT MOST 1048576: true; the input reads as it did. -/
def fnExactDeltaUptoRow : OpenClaim := { program := "ytmaaolemlobjeaa", sum := "a388356a39b9625726ebcde420faf009814d9dd673ee05e0144145103700e6d2", func := "loop.example/g00904/laws.FnExactDelta", spec := "fnExactDelta", inPlace := ["internal/abi.NoEscape"], apart := false, narrowed := true }
def FnExactDeltaUptoSaid : Prop := fnExactDeltaUptoRow.holds Try.pinned (OpenSpec.upto fnExactDeltaSpec)

/-- 'laws.FnExactUndelta', WHERE WHAT IT READS IS OF BULK AT MOST 1048576: true; the input reads as it did. -/
def fnExactUndeltaUptoRow : OpenClaim := { program := "ytmaaolemlobjeaa", sum := "a388356a39b9625726ebcde420faf009814d9dd673ee05e0144145103700e6d2", func := "loop.example/g00904/laws.FnExactUndelta", spec := "fnExactUndelta", inPlace := ["internal/abi.NoEscape"], apart := false, narrowed := true }
def FnExactUndeltaUptoSaid : Prop := fnExactUndeltaUptoRow.holds Try.pinned (OpenSpec.upto fnExactUndeltaSpec)

/-- 'laws.FnExactNewCache', WHERE WHAT IT READS IS OF BULK AT MOST 1048576: true; the input reads as it did. -/
def fnExactNewCacheUptoRow : OpenClaim := { program := "ytmaaolemlobjeaa", sum := "a388356a39b9625726ebcde420faf009814d9dd673ee05e0144145103700e6d2", func := "loop.example/g00904/laws.FnExactNewCache", spec := "fnExactNewCache", apart := false, narrowed := true }
def FnExactNewCacheUptoSaid : Prop := fnExactNewCacheUptoRow.holds Try.pinned (OpenSpec.upto fnExactNewCacheSpec)

/-- 'laws.FnExactLzEncode', WHERE WHAT IT READS IS OF BULK AT MOST 1048576: true; the input reads as it did. -/
def fnExactLzEncodeUptoRow : OpenClaim := { program := "ytmaaolemlobjeaa", sum := "a388356a39b9625726ebcde420faf009814d9dd673ee05e0144145103700e6d2", func := "loop.example/g00904/laws.FnExactLzEncode", spec := "fnExactLzEncode", inPlace := ["internal/abi.NoEscape"], apart := false, narrowed := true }
def FnExactLzEncodeUptoSaid : Prop := fnExactLzEncodeUptoRow.holds Try.pinned (OpenSpec.upto fnExactLzEncodeSpec)

/-- 'laws.FnExactRunDecode', WHERE WHAT IT READS IS OF BULK AT MOST 1048576: true; the input reads as it did. -/
def fnExactRunDecodeUptoRow : OpenClaim := { program := "ytmaaolemlobjeaa", sum := "a388356a39b9625726ebcde420faf009814d9dd673ee05e0144145103700e6d2", func := "loop.example/g00904/laws.FnExactRunDecode", spec := "fnExactRunDecode", inPlace := ["internal/abi.NoEscape", "internal/bytealg.MakeNoZero"], apart := false, narrowed := true }
def FnExactRunDecodeUptoSaid : Prop := fnExactRunDecodeUptoRow.holds Try.pinned (OpenSpec.upto fnExactRunDecodeSpec)

/-- 'laws.FnRuns', WHERE WHAT IT READS IS OF BULK AT MOST 1048576: true; the input reads as it did. -/
def fnRunsUptoRow : OpenClaim := { program := "ytmaaolemlobjeaa", sum := "a388356a39b9625726ebcde420faf009814d9dd673ee05e0144145103700e6d2", func := "loop.example/g00904/laws.FnRuns", spec := "fnRuns", inPlace := ["internal/abi.NoEscape", "internal/bytealg.MakeNoZero"], apart := false, narrowed := true }
def FnRunsUptoSaid : Prop := fnRunsUptoRow.holds Try.pinned (OpenSpec.upto fnRunsSpec)

end Rows
end Go.Proofs.Ytmaaolemlobjeaa
