/-
  NARROWER THAN 'FOR EVERY INPUT', by the rows' own cells (each row's printed sentence says how): FnExactPackedType: loops · FnExactConvertible: loops · FnExactEncodeType: loops · FnExactClampNumber: loops · FnExactAlwaysConverts: loops · FnExactZeroElement: loops.
  DERIVED. THE GIVEN ROWS OF THIS SEAT. 6 by the template 'for every input the law returns true; each argument reads behind the call as it read before'; 0 by the template 'total and deterministic' (their statements: YtdcafhfnkblfkaaTotals.lean).
  GIVEN WITH THE SEED: the statements are not yours to turn. If you find one false, say at which input.
  Laid BY PROGRAM, IN A SANDBOX (cutbox-rows.mjs): the forced cells as the released guide's own fill.sh prints them over the translation ab59d153530697df… (all of the seat's roots in one cut). By AI agents, Wed Nov 11 2026. No macro, syntax, notation, axiom, sorry.
-/
import Derived.Test.YtdcafhfnkblfkaaChecked
import GoSem.Claim
import GoSem.ClaimJoined
import GoSem.ClaimMapViews
import Derived.JoinedTies
import Derived.KernelRfl
namespace Go.Proofs.Ytdcafhfnkblfkaa
/- THE CELL 'sum', in the pinned program and in every row, IS THE sha256 OF THE DUMP (.gsa) THAT YtdcafhfnkblfkaaProg.lean LOADS. Nothing in Lean hashes anything: it is a label: what it is worth is what the hold of that sum in a sandbox is worth. -/
noncomputable def Try.pinned : Pinned := { name := "ytdcafhfnkblfkaa", sum := "ab59d153530697df64531cadb1873f392ba50ef3d1b7599b1cc60d5404418b8d", checked := Try.checked }
namespace Rows
def none {H : Type} : Left H := { results := [], args := [] }

/-- 'laws.FnExactPackedType': WHATEVER THE INPUT: true; the input reads as it did. -/
def fnExactPackedTypeSpec : ChangeSpec := { name := "fnExactPackedType", fn := fun _ => fun
  | [d] => { results := [.lit (.bool true)], args := [d] }
  | _ => none }
def fnExactPackedTypeRow : OpenClaim := { program := "ytdcafhfnkblfkaa", sum := "ab59d153530697df64531cadb1873f392ba50ef3d1b7599b1cc60d5404418b8d", func := "loop.example/g00904/laws.FnExactPackedType", spec := "fnExactPackedType", unfollowed := true, recurses := true, loops := true, apart := false }
def FnExactPackedTypeSaid : Prop := fnExactPackedTypeRow.holds Try.pinned (OpenSpec.ofChange fnExactPackedTypeSpec)

/-- ITS FALSE NEIGHBOUR: 'it returns false'. Refute it at one input. -/
def fnExactPackedTypeWrong : ChangeSpec := { name := "fnExactPackedType", fn := fun _ => fun
  | [d] => { results := [.lit (.bool false)], args := [d] }
  | _ => none }
def FnExactPackedTypeWrongFalsely : Prop := fnExactPackedTypeRow.holds Try.pinned (OpenSpec.ofChange fnExactPackedTypeWrong)

/-- 'laws.FnExactConvertible': WHATEVER THE INPUT: true; the input reads as it did. -/
def fnExactConvertibleSpec : ChangeSpec := { name := "fnExactConvertible", fn := fun _ => fun
  | [d1, d2] => { results := [.lit (.bool true)], args := [d1, d2] }
  | _ => none }
def fnExactConvertibleRow : OpenClaim := { program := "ytdcafhfnkblfkaa", sum := "ab59d153530697df64531cadb1873f392ba50ef3d1b7599b1cc60d5404418b8d", func := "loop.example/g00904/laws.FnExactConvertible", spec := "fnExactConvertible", unfollowed := true, recurses := true, loops := true, apart := false }
def FnExactConvertibleSaid : Prop := fnExactConvertibleRow.holds Try.pinned (OpenSpec.ofChange fnExactConvertibleSpec)

/-- ITS FALSE NEIGHBOUR: 'it returns false'. Refute it at one input. -/
def fnExactConvertibleWrong : ChangeSpec := { name := "fnExactConvertible", fn := fun _ => fun
  | [d1, d2] => { results := [.lit (.bool false)], args := [d1, d2] }
  | _ => none }
def FnExactConvertibleWrongFalsely : Prop := fnExactConvertibleRow.holds Try.pinned (OpenSpec.ofChange fnExactConvertibleWrong)

/-- 'laws.FnExactEncodeType': WHATEVER THE INPUT: true; the input reads as it did. -/
def fnExactEncodeTypeSpec : ChangeSpec := { name := "fnExactEncodeType", fn := fun _ => fun
  | [d] => { results := [.lit (.bool true)], args := [d] }
  | _ => none }
def fnExactEncodeTypeRow : OpenClaim := { program := "ytdcafhfnkblfkaa", sum := "ab59d153530697df64531cadb1873f392ba50ef3d1b7599b1cc60d5404418b8d", func := "loop.example/g00904/laws.FnExactEncodeType", spec := "fnExactEncodeType", unfollowed := true, recurses := true, loops := true, apart := false }
def FnExactEncodeTypeSaid : Prop := fnExactEncodeTypeRow.holds Try.pinned (OpenSpec.ofChange fnExactEncodeTypeSpec)

/-- ITS FALSE NEIGHBOUR: 'it returns false'. Refute it at one input. -/
def fnExactEncodeTypeWrong : ChangeSpec := { name := "fnExactEncodeType", fn := fun _ => fun
  | [d] => { results := [.lit (.bool false)], args := [d] }
  | _ => none }
def FnExactEncodeTypeWrongFalsely : Prop := fnExactEncodeTypeRow.holds Try.pinned (OpenSpec.ofChange fnExactEncodeTypeWrong)

/-- 'laws.FnExactClampNumber': WHATEVER THE INPUT: true; the input reads as it did. -/
def fnExactClampNumberSpec : ChangeSpec := { name := "fnExactClampNumber", fn := fun _ => fun
  | [d1, d2] => { results := [.lit (.bool true)], args := [d1, d2] }
  | _ => none }
def fnExactClampNumberRow : OpenClaim := { program := "ytdcafhfnkblfkaa", sum := "ab59d153530697df64531cadb1873f392ba50ef3d1b7599b1cc60d5404418b8d", func := "loop.example/g00904/laws.FnExactClampNumber", spec := "fnExactClampNumber", unfollowed := true, recurses := true, loops := true, apart := false }
def FnExactClampNumberSaid : Prop := fnExactClampNumberRow.holds Try.pinned (OpenSpec.ofChange fnExactClampNumberSpec)

/-- ITS FALSE NEIGHBOUR: 'it returns false'. Refute it at one input. -/
def fnExactClampNumberWrong : ChangeSpec := { name := "fnExactClampNumber", fn := fun _ => fun
  | [d1, d2] => { results := [.lit (.bool false)], args := [d1, d2] }
  | _ => none }
def FnExactClampNumberWrongFalsely : Prop := fnExactClampNumberRow.holds Try.pinned (OpenSpec.ofChange fnExactClampNumberWrong)

/-- 'laws.FnExactAlwaysConverts': WHATEVER THE INPUT: true; the input reads as it did. -/
def fnExactAlwaysConvertsSpec : ChangeSpec := { name := "fnExactAlwaysConverts", fn := fun _ => fun
  | [d1, d2] => { results := [.lit (.bool true)], args := [d1, d2] }
  | _ => none }
def fnExactAlwaysConvertsRow : OpenClaim := { program := "ytdcafhfnkblfkaa", sum := "ab59d153530697df64531cadb1873f392ba50ef3d1b7599b1cc60d5404418b8d", func := "loop.example/g00904/laws.FnExactAlwaysConverts", spec := "fnExactAlwaysConverts", unfollowed := true, recurses := true, loops := true, apart := false }
def FnExactAlwaysConvertsSaid : Prop := fnExactAlwaysConvertsRow.holds Try.pinned (OpenSpec.ofChange fnExactAlwaysConvertsSpec)

/-- ITS FALSE NEIGHBOUR: 'it returns false'. Refute it at one input. -/
def fnExactAlwaysConvertsWrong : ChangeSpec := { name := "fnExactAlwaysConverts", fn := fun _ => fun
  | [d1, d2] => { results := [.lit (.bool false)], args := [d1, d2] }
  | _ => none }
def FnExactAlwaysConvertsWrongFalsely : Prop := fnExactAlwaysConvertsRow.holds Try.pinned (OpenSpec.ofChange fnExactAlwaysConvertsWrong)

/-- 'laws.FnExactZeroElement': WHATEVER THE INPUT: true; the input reads as it did. -/
def fnExactZeroElementSpec : ChangeSpec := { name := "fnExactZeroElement", fn := fun _ => fun
  | [d] => { results := [.lit (.bool true)], args := [d] }
  | _ => none }
def fnExactZeroElementRow : OpenClaim := { program := "ytdcafhfnkblfkaa", sum := "ab59d153530697df64531cadb1873f392ba50ef3d1b7599b1cc60d5404418b8d", func := "loop.example/g00904/laws.FnExactZeroElement", spec := "fnExactZeroElement", inPlace := ["internal/abi.NoEscape", "internal/bytealg.MakeNoZero"], unfollowed := true, recurses := true, loops := true, apart := false }
def FnExactZeroElementSaid : Prop := fnExactZeroElementRow.holds Try.pinned (OpenSpec.ofChange fnExactZeroElementSpec)

/-- ITS FALSE NEIGHBOUR: 'it returns false'. Refute it at one input. -/
def fnExactZeroElementWrong : ChangeSpec := { name := "fnExactZeroElement", fn := fun _ => fun
  | [d] => { results := [.lit (.bool false)], args := [d] }
  | _ => none }
def FnExactZeroElementWrongFalsely : Prop := fnExactZeroElementRow.holds Try.pinned (OpenSpec.ofChange fnExactZeroElementWrong)

/- THE SECOND FORM. 'bulk': how many values and letters a reading holds, each counted each time it is reached (what is shared counts as often as it is met; a slice's spare places count too). A statement '..UptoSaid' is the law's where the arguments, and the package variables that the reading takes, are together of bulk at most 1048576: NARROWER than '..Said'. Prove '..Said' where nothing that the law and all that it calls make is longer than what came in: it says more and counts as full. Else prove '..UptoSaid'. A law counts once. -/
mutual
def uptoBulk {H : Type} : DataW H → Nat
  | .lit (.string bytes) => bytes.length + 1
  | .lit _ => 1
  | .nil => 1
  | .ptr d => uptoBulk d + 1
  | .slice elems spare => uptoBulkAll elems + uptoBulkAll spare + 1
  | .agg parts => uptoBulkAll parts + 1
  | .iface _ d => uptoBulk d + 1
  | .map entries => uptoBulkEntries entries + 1
  | .held _ => 1
def uptoBulkAll {H : Type} : List (DataW H) → Nat
  | [] => 0
  | d :: r => uptoBulk d + uptoBulkAll r
def uptoBulkEntries {H : Type} : List (Lit × DataW H) → Nat
  | [] => 0
  | x :: r => uptoBulkEntry x + uptoBulkEntries r
def uptoBulkEntry {H : Type} : Lit × DataW H → Nat
  | (.string bytes, d) => bytes.length + uptoBulk d + 1
  | (_, d) => uptoBulk d + 1
 end
def uptoSmall : (H : Type) → List (DataW H) → Bool := fun _ ds => decide (uptoBulkAll ds ≤ 1048576)
def OpenSpec.upto (s : _root_.Go.ChangeSpec) : _root_.Go.OpenSpec := { _root_.Go.OpenSpec.ofChange s with cond := some uptoSmall }

/-- 'laws.FnExactPackedType', WHERE WHAT IT READS IS OF BULK AT MOST 1048576: true; the input reads as it did. -/
def fnExactPackedTypeUptoRow : OpenClaim := { program := "ytdcafhfnkblfkaa", sum := "ab59d153530697df64531cadb1873f392ba50ef3d1b7599b1cc60d5404418b8d", func := "loop.example/g00904/laws.FnExactPackedType", spec := "fnExactPackedType", unfollowed := true, recurses := true, loops := true, apart := false, narrowed := true }
def FnExactPackedTypeUptoSaid : Prop := fnExactPackedTypeUptoRow.holds Try.pinned (OpenSpec.upto fnExactPackedTypeSpec)

/-- 'laws.FnExactConvertible', WHERE WHAT IT READS IS OF BULK AT MOST 1048576: true; the input reads as it did. -/
def fnExactConvertibleUptoRow : OpenClaim := { program := "ytdcafhfnkblfkaa", sum := "ab59d153530697df64531cadb1873f392ba50ef3d1b7599b1cc60d5404418b8d", func := "loop.example/g00904/laws.FnExactConvertible", spec := "fnExactConvertible", unfollowed := true, recurses := true, loops := true, apart := false, narrowed := true }
def FnExactConvertibleUptoSaid : Prop := fnExactConvertibleUptoRow.holds Try.pinned (OpenSpec.upto fnExactConvertibleSpec)

/-- 'laws.FnExactEncodeType', WHERE WHAT IT READS IS OF BULK AT MOST 1048576: true; the input reads as it did. -/
def fnExactEncodeTypeUptoRow : OpenClaim := { program := "ytdcafhfnkblfkaa", sum := "ab59d153530697df64531cadb1873f392ba50ef3d1b7599b1cc60d5404418b8d", func := "loop.example/g00904/laws.FnExactEncodeType", spec := "fnExactEncodeType", unfollowed := true, recurses := true, loops := true, apart := false, narrowed := true }
def FnExactEncodeTypeUptoSaid : Prop := fnExactEncodeTypeUptoRow.holds Try.pinned (OpenSpec.upto fnExactEncodeTypeSpec)

/-- 'laws.FnExactClampNumber', WHERE WHAT IT READS IS OF BULK AT MOST 1048576: true; the input reads as it did. -/
def fnExactClampNumberUptoRow : OpenClaim := { program := "ytdcafhfnkblfkaa", sum := "ab59d153530697df64531cadb1873f392ba50ef3d1b7599b1cc60d5404418b8d", func := "loop.example/g00904/laws.FnExactClampNumber", spec := "fnExactClampNumber", unfollowed := true, recurses := true, loops := true, apart := false, narrowed := true }
def FnExactClampNumberUptoSaid : Prop := fnExactClampNumberUptoRow.holds Try.pinned (OpenSpec.upto fnExactClampNumberSpec)

/-- 'laws.FnExactAlwaysConverts', WHERE WHAT IT READS IS OF BULK AT MOST 1048576: true; the input reads as it did. -/
def fnExactAlwaysConvertsUptoRow : OpenClaim := { program := "ytdcafhfnkblfkaa", sum := "ab59d153530697df64531cadb1873f392ba50ef3d1b7599b1cc60d5404418b8d", func := "loop.example/g00904/laws.FnExactAlwaysConverts", spec := "fnExactAlwaysConverts", unfollowed := true, recurses := true, loops := true, apart := false, narrowed := true }
def FnExactAlwaysConvertsUptoSaid : Prop := fnExactAlwaysConvertsUptoRow.holds Try.pinned (OpenSpec.upto fnExactAlwaysConvertsSpec)

/-- 'laws.FnExactZeroElement', WHERE WHAT IT READS IS OF BULK AT MOST 1048576: true; the input reads as it did. -/
def fnExactZeroElementUptoRow : OpenClaim := { program := "ytdcafhfnkblfkaa", sum := "ab59d153530697df64531cadb1873f392ba50ef3d1b7599b1cc60d5404418b8d", func := "loop.example/g00904/laws.FnExactZeroElement", spec := "fnExactZeroElement", inPlace := ["internal/abi.NoEscape", "internal/bytealg.MakeNoZero"], unfollowed := true, recurses := true, loops := true, apart := false, narrowed := true }
def FnExactZeroElementUptoSaid : Prop := fnExactZeroElementUptoRow.holds Try.pinned (OpenSpec.upto fnExactZeroElementSpec)

end Rows
end Go.Proofs.Ytdcafhfnkblfkaa
