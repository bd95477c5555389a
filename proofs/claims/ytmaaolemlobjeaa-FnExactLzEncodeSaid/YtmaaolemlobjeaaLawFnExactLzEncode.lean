/- FnExactLzEncode's row. No condition. -/
import Derived.Test.YtmaaolemlobjeaaVFnExactLzEncode
import Derived.Test.YtmaaolemlobjeaaRows
namespace Go.Proofs.Ytmaaolemlobjeaa.fnExactLzEncode
open Go Go.Proofs.Ytmaaolemlobjeaa.V Go.ChangeShapes Go.WideShapes Go.ChangeAt Go.RowKit
set_option linter.unusedVariables false
theorem own : ownKnob Try.prog.godebug = none := by kernel_rfl
def opened : List TypeId := [9]
set_option maxRecDepth 100000 in
theorem lifted (os : Os) (started : os.Started) (H : Type) (enc : TypeId × Value → H) :
    ReturnsInHanded {} Try.checked os 6 .any (Rows.fnExactLzEncodeSpec.pre6 enc Try.prog Try.f6 Rows.fnExactLzEncodeRow.domain false) (Rows.fnExactLzEncodeSpec.post enc Try.prog Try.f6 false true false false) := by
  refine returnsInHanded_of_change_sized (C := Try.checked) own started (by kernel_rfl) Try.func6
    (ChangeSpec.witness6 (enc := enc) (C := Try.checked) false ⟨#[], #[.string ⟨#[]⟩], []⟩ 8 (by kernel_rfl) (by kernel_rfl) (by kernel_rfl) (by kernel_rfl)) ?_
  intro W base args ds gs before hval hW _ hsz _
  exact law_told (live := live) (O := opened) mixed_ok tab_ok d9 (by kernel_rfl) laid_ok noLoops_ok rfl (fun H ds h => by
    match ds, h with
    | [d0], _ => rfl) (tb := 4) rfl Try.underlying4 (by
      rw [show Try.f6.params.toList = [9] from rfl]
      intro t ht
      have ht : t = 9 := by simpa using ht
      rcases ht with rfl
      · exact ⟨by decide, by kernel_rfl, of_decide_eq_true (by kernel_rfl)⟩) (by rw [show Try.f6.params.toList = [9] from rfl]; exact laws_FnExactLzEncode_pure) W base args ds gs before hval hW hsz
theorem over : Rows.fnExactLzEncodeRow.holds Try.pinned (OpenSpec.ofChange Rows.fnExactLzEncodeSpec) :=
  OpenClaim.holds_of_wide 6 Try.f6 rfl rfl rfl rfl rfl rfl rfl ⟨rfl, rfl, rfl, rfl, rfl⟩ rfl rfl rfl rfl rfl (by kernel_rfl) Try.func6 (by kernel_rfl)
    (of_decide_eq_true (by kernel_rfl)) (by unfold Func.isWrapper; first | (rw [if_pos (by decide +kernel)]; kernel_rfl) | (rw [if_neg (by decide +kernel)]; exact ⟨rfl, rfl⟩))
    (fun os started H enc _ => lifted os started H enc)
theorem proved : Rows.FnExactLzEncodeSaid := over
#print axioms proved
end Go.Proofs.Ytmaaolemlobjeaa.fnExactLzEncode
namespace Go.Proofs.Ytmaaolemlobjeaa
/-- The row, under a short name, for the claim. -/
theorem fnExactLzEncode_holds : Rows.FnExactLzEncodeSaid := fnExactLzEncode.proved
end Go.Proofs.Ytmaaolemlobjeaa
