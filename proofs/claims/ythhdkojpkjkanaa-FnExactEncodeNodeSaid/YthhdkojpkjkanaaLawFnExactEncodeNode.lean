/- FnExactEncodeNode's row. No condition. -/
import Derived.Test.YthhdkojpkjkanaaVFnExactEncodeNode
import Derived.Test.YthhdkojpkjkanaaRows
namespace Go.Proofs.Ythhdkojpkjkanaa.fnExactEncodeNode
open Go Go.Proofs.Ythhdkojpkjkanaa.V Go.ChangeShapes Go.WideShapes Go.ChangeAt Go.RowKit
set_option linter.unusedVariables false
theorem own : ownKnob Try.prog.godebug = none := by kernel_rfl
def opened : List TypeId := [74, 4, 71, 161, 2, 72]
set_option maxRecDepth 100000 in
theorem lifted (os : Os) (started : os.Started) (H : Type) (enc : TypeId × Value → H) :
    ReturnsInHanded {} Try.checked os 8 .any (Rows.fnExactEncodeNodeSpec.pre6 enc Try.prog Try.f8 Rows.fnExactEncodeNodeRow.domain false) (Rows.fnExactEncodeNodeSpec.post enc Try.prog Try.f8 false true false false) := by
  refine returnsInHanded_of_change_sized (C := Try.checked) own started (by kernel_rfl) Try.func8
    (ChangeSpec.witness6 (enc := enc) (C := Try.checked) false ⟨#[], #[.agg #[.bool false, .slice none 0 0, .slice none 0 0, .slice none 0 0]], []⟩ 8 (by kernel_rfl) (by kernel_rfl) (by kernel_rfl) (by kernel_rfl)) ?_
  intro W base args ds gs before hval hW _ hsz _
  exact law_told (live := live) (O := opened) mixed_ok tab_ok d38 (by kernel_rfl) laid_ok noLoops_ok rfl (fun H ds h => by
    match ds, h with
    | [d0], _ => rfl) (tb := 4) rfl Try.underlying4 (by
      rw [show Try.f8.params.toList = [74] from rfl]
      intro t ht
      have ht : t = 74 := by simpa using ht
      rcases ht with rfl
      · exact ⟨by decide, by kernel_rfl, of_decide_eq_true (by kernel_rfl)⟩) (by rw [show Try.f8.params.toList = [74] from rfl]; exact laws_FnExactEncodeNode_pure) W base args ds gs before hval hW hsz
theorem over : Rows.fnExactEncodeNodeRow.holds Try.pinned (OpenSpec.ofChange Rows.fnExactEncodeNodeSpec) :=
  OpenClaim.holds_of_wide 8 Try.f8 rfl rfl rfl rfl rfl rfl rfl ⟨rfl, rfl, rfl, rfl, rfl⟩ rfl rfl rfl rfl rfl (by kernel_rfl) Try.func8 (by kernel_rfl)
    (of_decide_eq_true (by kernel_rfl)) (by unfold Func.isWrapper; first | (rw [if_pos (by decide +kernel)]; kernel_rfl) | (rw [if_neg (by decide +kernel)]; exact ⟨rfl, rfl⟩))
    (fun os started H enc _ => lifted os started H enc)
theorem proved : Rows.FnExactEncodeNodeSaid := over
#print axioms proved
end Go.Proofs.Ythhdkojpkjkanaa.fnExactEncodeNode
namespace Go.Proofs.Ythhdkojpkjkanaa
/-- The row, under a short name, for the claim. -/
theorem fnExactEncodeNode_holds : Rows.FnExactEncodeNodeSaid := fnExactEncodeNode.proved
end Go.Proofs.Ythhdkojpkjkanaa
