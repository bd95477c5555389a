/-
  No cell of these rows narrows 'for every input' (looked for: loops, veiled, ifaces, maps, wideKeys, modest, calm, conditions, laid).
  DERIVED. THE GIVEN ROWS OF THIS SEAT. 6 by the template 'for every input the law returns true; each argument reads behind the call as it read before'; 0 by the template 'total and deterministic' (their statements: YthhdkojpkjkanaaTotals.lean).
  GIVEN WITH THE SEED: the statements are not yours to turn. If you find one false, say at which input.
  Laid BY PROGRAM, IN A SANDBOX (cutbox-rows.mjs): the forced cells as the released guide's own fill.sh prints them over the translation c8aff74cb42e1208… (all of the seat's roots in one cut). By AI agents, Wed Nov 11 2026. No macro, syntax, notation, axiom, sorry.
-/
import Derived.Test.YthhdkojpkjkanaaChecked
import GoSem.Claim
import GoSem.ClaimJoined
import GoSem.ClaimMapViews
import Derived.JoinedTies
import Derived.KernelRfl
namespace Go.Proofs.Ythhdkojpkjkanaa
/- THE CELL 'sum', in the pinned program and in every row, IS THE sha256 OF THE DUMP (.gsa) THAT YthhdkojpkjkanaaProg.lean LOADS. Nothing in Lean hashes anything: it is a label: what it is worth is what the hold of that sum in a sandbox is worth. -/
noncomputable def Try.pinned : Pinned := { name := "ythhdkojpkjkanaa", sum := "c8aff74cb42e120821e0aa4299d98859b50e1baea062560264537eb6a4c4f474", checked := Try.checked }
namespace Rows
def none {H : Type} : Left H := { results := [], args := [] }

/-- 'laws.FnExactEncodeHeader': WHATEVER THE INPUT: true; the input reads as it did. -/
def fnExactEncodeHeaderSpec : ChangeSpec := { name := "fnExactEncodeHeader", fn := fun _ => fun
  | [d] => { results := [.lit (.bool true)], args := [d] }
  | _ => none }
def fnExactEncodeHeaderRow : OpenClaim := { program := "ythhdkojpkjkanaa", sum := "c8aff74cb42e120821e0aa4299d98859b50e1baea062560264537eb6a4c4f474", func := "loop.example/g00904/laws.FnExactEncodeHeader", spec := "fnExactEncodeHeader", inPlace := ["internal/abi.NoEscape"], unfollowed := true, recurses := true, apart := false }
def FnExactEncodeHeaderSaid : Prop := fnExactEncodeHeaderRow.holds Try.pinned (OpenSpec.ofChange fnExactEncodeHeaderSpec)

/-- ITS FALSE NEIGHBOUR: 'it returns false'. Refute it at one input. -/
def fnExactEncodeHeaderWrong : ChangeSpec := { name := "fnExactEncodeHeader", fn := fun _ => fun
  | [d] => { results := [.lit (.bool false)], args := [d] }
  | _ => none }
def FnExactEncodeHeaderWrongFalsely : Prop := fnExactEncodeHeaderRow.holds Try.pinned (OpenSpec.ofChange fnExactEncodeHeaderWrong)

/-- 'laws.FnExactPutName': WHATEVER THE INPUT: true; the input reads as it did. -/
def fnExactPutNameSpec : ChangeSpec := { name := "fnExactPutName", fn := fun _ => fun
  | [d1, d2] => { results := [.lit (.bool true)], args := [d1, d2] }
  | _ => none }
def fnExactPutNameRow : OpenClaim := { program := "ythhdkojpkjkanaa", sum := "c8aff74cb42e120821e0aa4299d98859b50e1baea062560264537eb6a4c4f474", func := "loop.example/g00904/laws.FnExactPutName", spec := "fnExactPutName", unfollowed := true, recurses := true, apart := false }
def FnExactPutNameSaid : Prop := fnExactPutNameRow.holds Try.pinned (OpenSpec.ofChange fnExactPutNameSpec)

/-- ITS FALSE NEIGHBOUR: 'it returns false'. Refute it at one input. -/
def fnExactPutNameWrong : ChangeSpec := { name := "fnExactPutName", fn := fun _ => fun
  | [d1, d2] => { results := [.lit (.bool false)], args := [d1, d2] }
  | _ => none }
def FnExactPutNameWrongFalsely : Prop := fnExactPutNameRow.holds Try.pinned (OpenSpec.ofChange fnExactPutNameWrong)

/-- 'laws.FnExactEncodeSuper': WHATEVER THE INPUT: true; the input reads as it did. -/
def fnExactEncodeSuperSpec : ChangeSpec := { name := "fnExactEncodeSuper", fn := fun _ => fun
  | [d] => { results := [.lit (.bool true)], args := [d] }
  | _ => none }
def fnExactEncodeSuperRow : OpenClaim := { program := "ythhdkojpkjkanaa", sum := "c8aff74cb42e120821e0aa4299d98859b50e1baea062560264537eb6a4c4f474", func := "loop.example/g00904/laws.FnExactEncodeSuper", spec := "fnExactEncodeSuper", inPlace := ["internal/abi.NoEscape", "internal/bytealg.MakeNoZero"], apart := false }
def FnExactEncodeSuperSaid : Prop := fnExactEncodeSuperRow.holds Try.pinned (OpenSpec.ofChange fnExactEncodeSuperSpec)

/-- ITS FALSE NEIGHBOUR: 'it returns false'. Refute it at one input. -/
def fnExactEncodeSuperWrong : ChangeSpec := { name := "fnExactEncodeSuper", fn := fun _ => fun
  | [d] => { results := [.lit (.bool false)], args := [d] }
  | _ => none }
def FnExactEncodeSuperWrongFalsely : Prop := fnExactEncodeSuperRow.holds Try.pinned (OpenSpec.ofChange fnExactEncodeSuperWrong)

/-- 'laws.FnExactForgetDataset': WHATEVER THE INPUT: true; the input reads as it did. -/
def fnExactForgetDatasetSpec : ChangeSpec := { name := "fnExactForgetDataset", fn := fun _ => fun
  | [d1, d2] => { results := [.lit (.bool true)], args := [d1, d2] }
  | _ => none }
def fnExactForgetDatasetRow : OpenClaim := { program := "ythhdkojpkjkanaa", sum := "c8aff74cb42e120821e0aa4299d98859b50e1baea062560264537eb6a4c4f474", func := "loop.example/g00904/laws.FnExactForgetDataset", spec := "fnExactForgetDataset", unfollowed := true, recurses := true, apart := false }
def FnExactForgetDatasetSaid : Prop := fnExactForgetDatasetRow.holds Try.pinned (OpenSpec.ofChange fnExactForgetDatasetSpec)

/-- ITS FALSE NEIGHBOUR: 'it returns false'. Refute it at one input. -/
def fnExactForgetDatasetWrong : ChangeSpec := { name := "fnExactForgetDataset", fn := fun _ => fun
  | [d1, d2] => { results := [.lit (.bool false)], args := [d1, d2] }
  | _ => none }
def FnExactForgetDatasetWrongFalsely : Prop := fnExactForgetDatasetRow.holds Try.pinned (OpenSpec.ofChange fnExactForgetDatasetWrong)

/-- 'laws.FnExactFormatDisk': WHATEVER THE INPUT: true; the input reads as it did. -/
def fnExactFormatDiskSpec : ChangeSpec := { name := "fnExactFormatDisk", fn := fun _ => fun
  | [d1, d2] => { results := [.lit (.bool true)], args := [d1, d2] }
  | _ => none }
def fnExactFormatDiskRow : OpenClaim := { program := "ythhdkojpkjkanaa", sum := "c8aff74cb42e120821e0aa4299d98859b50e1baea062560264537eb6a4c4f474", func := "loop.example/g00904/laws.FnExactFormatDisk", spec := "fnExactFormatDisk", inPlace := ["internal/abi.NoEscape", "internal/bytealg.MakeNoZero"], apart := false }
def FnExactFormatDiskSaid : Prop := fnExactFormatDiskRow.holds Try.pinned (OpenSpec.ofChange fnExactFormatDiskSpec)

/-- ITS FALSE NEIGHBOUR: 'it returns false'. Refute it at one input. -/
def fnExactFormatDiskWrong : ChangeSpec := { name := "fnExactFormatDisk", fn := fun _ => fun
  | [d1, d2] => { results := [.lit (.bool false)], args := [d1, d2] }
  | _ => none }
def FnExactFormatDiskWrongFalsely : Prop := fnExactFormatDiskRow.holds Try.pinned (OpenSpec.ofChange fnExactFormatDiskWrong)

/-- 'laws.FnExactEncodeNode': WHATEVER THE INPUT: true; the input reads as it did. -/
def fnExactEncodeNodeSpec : ChangeSpec := { name := "fnExactEncodeNode", fn := fun _ => fun
  | [d] => { results := [.lit (.bool true)], args := [d] }
  | _ => none }
def fnExactEncodeNodeRow : OpenClaim := { program := "ythhdkojpkjkanaa", sum := "c8aff74cb42e120821e0aa4299d98859b50e1baea062560264537eb6a4c4f474", func := "loop.example/g00904/laws.FnExactEncodeNode", spec := "fnExactEncodeNode", inPlace := ["internal/abi.NoEscape", "internal/bytealg.MakeNoZero"], unfollowed := true, recurses := true, apart := false }
def FnExactEncodeNodeSaid : Prop := fnExactEncodeNodeRow.holds Try.pinned (OpenSpec.ofChange fnExactEncodeNodeSpec)

/-- ITS FALSE NEIGHBOUR: 'it returns false'. Refute it at one input. -/
def fnExactEncodeNodeWrong : ChangeSpec := { name := "fnExactEncodeNode", fn := fun _ => fun
  | [d] => { results := [.lit (.bool false)], args := [d] }
  | _ => none }
def FnExactEncodeNodeWrongFalsely : Prop := fnExactEncodeNodeRow.holds Try.pinned (OpenSpec.ofChange fnExactEncodeNodeWrong)

/- THE SECOND FORM. 'bulk': how many values and letters a reading holds, each counted each time it is reached (what is shared counts as often as it is met; a slice's spare places count too). A statement '..UptoSaid' is the law's where the arguments, and the package variables that the reading takes, are together of bulk at most 1048576: NARROWER than '..Said'. Prove '..Said' where nothing that the law and all that it calls make is longer than what came in: it says more and counts as full. Else prove '..UptoSaid'. A law counts once. -/
mutual
def uptoBulk {H : Type} : DataW H → Nat
  | .lit (.string bytes) => bytes.length + 1
  | .lit _ => 1
  | .nil => 1
  | .ptr d => uptoBulk d + 1
  | .slice elems spare => uptoBulkAll elems + uptoBulkAll spare + 1
  | .agg parts => uptoBulkAll parts + 1
  | .iface _ d => uptoBulk d + 1
  | .map entries => uptoBulkEntries entries + 1
  | .held _ => 1
def uptoBulkAll {H : Type} : List (DataW H) → Nat
  | [] => 0
  | d :: r => uptoBulk d + uptoBulkAll r
def uptoBulkEntries {H : Type} : List (Lit × DataW H) → Nat
  | [] => 0
  | x :: r => uptoBulkEntry x + uptoBulkEntries r
def uptoBulkEntry {H : Type} : Lit × DataW H → Nat
  | (.string bytes, d) => bytes.length + uptoBulk d + 1
  | (_, d) => uptoBulk d + 1
 end
def uptoSmall : (H : Type) → List (DataW H) → Bool := fun _ ds => decide (uptoBulkAll ds ≤ 1048576)
def OpenSpec.upto (s : _root_.Go.ChangeSpec) : _root_.Go.OpenSpec := { _root_.Go.OpenSpec.ofChange s with cond := some uptoSmall }

/-- 'laws.FnExactEncodeHeader', WHERE WHAT IT READS IS OF BULK AT MOST 1048576: true; the input reads as it did. -/
def fnExactEncodeHeaderUptoRow : OpenClaim := { program := "ythhdkojpkjkanaa", sum := "c8aff74cb42e120821e0aa4299d98859b50e1baea062560264537eb6a4c4f474", func := "loop.example/g00904/laws.FnExactEncodeHeader", spec := "fnExactEncodeHeader", inPlace := ["internal/abi.NoEscape"], unfollowed := true, recurses := true, apart := false, narrowed := true }
def FnExactEncodeHeaderUptoSaid : Prop := fnExactEncodeHeaderUptoRow.holds Try.pinned (OpenSpec.upto fnExactEncodeHeaderSpec)

/-- 'laws.FnExactPutName', WHERE WHAT IT READS IS OF BULK AT MOST 1048576: true; the input reads as it did. -/
def fnExactPutNameUptoRow : OpenClaim := { program := "ythhdkojpkjkanaa", sum := "c8aff74cb42e120821e0aa4299d98859b50e1baea062560264537eb6a4c4f474", func := "loop.example/g00904/laws.FnExactPutName", spec := "fnExactPutName", unfollowed := true, recurses := true, apart := false, narrowed := true }
def FnExactPutNameUptoSaid : Prop := fnExactPutNameUptoRow.holds Try.pinned (OpenSpec.upto fnExactPutNameSpec)

/-- 'laws.FnExactEncodeSuper', WHERE WHAT IT READS IS OF BULK AT MOST 1048576: true; the input reads as it did. -/
def fnExactEncodeSuperUptoRow : OpenClaim := { program := "ythhdkojpkjkanaa", sum := "c8aff74cb42e120821e0aa4299d98859b50e1baea062560264537eb6a4c4f474", func := "loop.example/g00904/laws.FnExactEncodeSuper", spec := "fnExactEncodeSuper", inPlace := ["internal/abi.NoEscape", "internal/bytealg.MakeNoZero"], apart := false, narrowed := true }
def FnExactEncodeSuperUptoSaid : Prop := fnExactEncodeSuperUptoRow.holds Try.pinned (OpenSpec.upto fnExactEncodeSuperSpec)

/-- 'laws.FnExactForgetDataset', WHERE WHAT IT READS IS OF BULK AT MOST 1048576: true; the input reads as it did. -/
def fnExactForgetDatasetUptoRow : OpenClaim := { program := "ythhdkojpkjkanaa", sum := "c8aff74cb42e120821e0aa4299d98859b50e1baea062560264537eb6a4c4f474", func := "loop.example/g00904/laws.FnExactForgetDataset", spec := "fnExactForgetDataset", unfollowed := true, recurses := true, apart := false, narrowed := true }
def FnExactForgetDatasetUptoSaid : Prop := fnExactForgetDatasetUptoRow.holds Try.pinned (OpenSpec.upto fnExactForgetDatasetSpec)

/-- 'laws.FnExactFormatDisk', WHERE WHAT IT READS IS OF BULK AT MOST 1048576: true; the input reads as it did. -/
def fnExactFormatDiskUptoRow : OpenClaim := { program := "ythhdkojpkjkanaa", sum := "c8aff74cb42e120821e0aa4299d98859b50e1baea062560264537eb6a4c4f474", func := "loop.example/g00904/laws.FnExactFormatDisk", spec := "fnExactFormatDisk", inPlace := ["internal/abi.NoEscape", "internal/bytealg.MakeNoZero"], apart := false, narrowed := true }
def FnExactFormatDiskUptoSaid : Prop := fnExactFormatDiskUptoRow.holds Try.pinned (OpenSpec.upto fnExactFormatDiskSpec)

/-- 'laws.FnExactEncodeNode', WHERE WHAT IT READS IS OF BULK AT MOST 1048576: true; the input reads as it did. -/
def fnExactEncodeNodeUptoRow : OpenClaim := { program := "ythhdkojpkjkanaa", sum := "c8aff74cb42e120821e0aa4299d98859b50e1baea062560264537eb6a4c4f474", func := "loop.example/g00904/laws.FnExactEncodeNode", spec := "fnExactEncodeNode", inPlace := ["internal/abi.NoEscape", "internal/bytealg.MakeNoZero"], unfollowed := true, recurses := true, apart := false, narrowed := true }
def FnExactEncodeNodeUptoSaid : Prop := fnExactEncodeNodeUptoRow.holds Try.pinned (OpenSpec.upto fnExactEncodeNodeSpec)

end Rows
end Go.Proofs.Ythhdkojpkjkanaa
