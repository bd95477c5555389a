/- FnExactValidFilter's row. No condition. -/
import Derived.Test.YtnlpkmkkidpfhaaVFnExactValidFilter
import Derived.Test.YtnlpkmkkidpfhaaRows
namespace Go.Proofs.Ytnlpkmkkidpfhaa.fnExactValidFilter
open Go Go.Proofs.Ytnlpkmkkidpfhaa.V Go.Proofs.Ytnlpkmkkidpfhaa.ValidFilter Go.ChangeShapes Go.WideShapes Go.ChangeAt Go.RowKit
set_option linter.unusedVariables false
theorem own : ownKnob Try.prog.godebug = none := by kernel_rfl
def opened : List TypeId := [25, 2, 3, 4]
set_option maxRecDepth 100000 in
theorem lifted (os : Os) (started : os.Started) (H : Type) (enc : TypeId × Value → H) :
    ReturnsInHanded {} Try.checked os 4 .any (Rows.fnExactValidFilterSpec.pre6 enc Try.prog Try.f4 Rows.fnExactValidFilterRow.domain false) (Rows.fnExactValidFilterSpec.post enc Try.prog Try.f4 false true false false) := by
  refine returnsInHanded_of_change_sized (C := Try.checked) own started (by kernel_rfl) Try.func4
    (ChangeSpec.witness6 (enc := enc) (C := Try.checked) false ⟨#[], #[.agg #[.int .i64 0, .int .i64 0, .bool false]], []⟩ 8 (by kernel_rfl) (by kernel_rfl) (by kernel_rfl) (by kernel_rfl)) ?_
  intro W base args ds gs before hval hW _ hsz _
  exact law_told (live := live) (O := opened) mixed_ok tab_ok d7 (by kernel_rfl) laid_ok noLoops_ok rfl (fun H ds h => by
    match ds, h with
    | [d], _ => rfl) (tb := 4) rfl Try.underlying4 (by
      rw [show Try.f4.params.toList = [25] from rfl]
      intro t ht
      rw [List.mem_singleton.1 ht]
      exact ⟨by decide, by kernel_rfl, of_decide_eq_true (by kernel_rfl)⟩) (by rw [show Try.f4.params.toList = [25] from rfl]; exact pure4) W base args ds gs before hval hW hsz
theorem over : Rows.fnExactValidFilterRow.holds Try.pinned (OpenSpec.ofChange Rows.fnExactValidFilterSpec) :=
  OpenClaim.holds_of_wide 4 Try.f4 rfl rfl rfl rfl rfl rfl rfl ⟨rfl, rfl, rfl, rfl, rfl⟩ rfl rfl rfl rfl rfl (by kernel_rfl) Try.func4 (by kernel_rfl)
    (of_decide_eq_true (by kernel_rfl)) (by unfold Func.isWrapper; first | (rw [if_pos (by decide +kernel)]; kernel_rfl) | (rw [if_neg (by decide +kernel)]; exact ⟨rfl, rfl⟩))
    (fun os started H enc _ => lifted os started H enc)
theorem proved : Rows.FnExactValidFilterSaid := over
#print axioms proved
end Go.Proofs.Ytnlpkmkkidpfhaa.fnExactValidFilter
namespace Go.Proofs.Ytnlpkmkkidpfhaa
/-- The row, under a short name, for the claim. -/
theorem fnExactValidFilter_holds : Rows.FnExactValidFilterSaid := fnExactValidFilter.proved
end Go.Proofs.Ytnlpkmkkidpfhaa
