/- FnExactSameDataset's row. No condition. -/
import Derived.Test.YtghbndlkekaipaaVFnExactSameDataset
import Derived.Test.YtghbndlkekaipaaRows
namespace Go.Proofs.Ytghbndlkekaipaa.fnExactSameDataset
open Go Go.Proofs.Ytghbndlkekaipaa.V Go.ChangeShapes Go.WideShapes Go.ChangeAt Go.RowKit
set_option linter.unusedVariables false
theorem own : ownKnob Try.prog.godebug = none := by kernel_rfl
def opened : List TypeId := [66, 45, 2, 4, 36, 9, 41, 42, 189, 43, 63, 64, 151]
set_option maxRecDepth 100000 in
theorem lifted (os : Os) (started : os.Started) (H : Type) (enc : TypeId × Value → H) :
    ReturnsInHanded {} Try.checked os 7 .any (Rows.fnExactSameDatasetSpec.pre6 enc Try.prog Try.f7 Rows.fnExactSameDatasetRow.domain false) (Rows.fnExactSameDatasetSpec.post enc Try.prog Try.f7 false true false false) := by
  refine returnsInHanded_of_change_sized (C := Try.checked) own started (by kernel_rfl) Try.func7
    (ChangeSpec.witness6 (enc := enc) (C := Try.checked) false ⟨#[], #[.agg #[.int .i64 0, .int .i64 0, .bool false, .bool false, .slice none 0 0, .slice none 0 0, .slice none 0 0, .slice none 0 0, .int .i64 0, .slice none 0 0, .slice none 0 0, .slice none 0 0, .slice none 0 0, .string ⟨#[]⟩, .int .i64 0], .agg #[.int .i64 0, .int .i64 0, .bool false, .bool false, .slice none 0 0, .slice none 0 0, .slice none 0 0, .slice none 0 0, .int .i64 0, .slice none 0 0, .slice none 0 0, .slice none 0 0, .slice none 0 0, .string ⟨#[]⟩, .int .i64 0]], []⟩ 8 (by kernel_rfl) (by kernel_rfl) (by kernel_rfl) (by kernel_rfl)) ?_
  intro W base args ds gs before hval hW _ hsz _
  exact law_told2 (live := live) (O := opened) mixed_ok tab_ok (by kernel_rfl) laid_ok rfl (fun H ds h => by
    match ds, h with
    | [d0, d1], _ => rfl) (tb := 4) rfl Try.underlying4 (by
      rw [show Try.f7.params.toList = [66, 66] from rfl]
      intro t ht
      have ht : t = 66 := by simpa using ht
      rcases ht with rfl
      · exact ⟨by decide, by kernel_rfl, of_decide_eq_true (by kernel_rfl)⟩) (by rw [show Try.f7.params.toList = [66, 66] from rfl]; exact laws_FnExactSameDataset_pure) W base args ds gs before hval hW hsz
theorem over : Rows.fnExactSameDatasetRow.holds Try.pinned (OpenSpec.ofChange Rows.fnExactSameDatasetSpec) :=
  OpenClaim.holds_of_wide 7 Try.f7 rfl rfl rfl rfl rfl rfl rfl ⟨rfl, rfl, rfl, rfl, rfl⟩ rfl rfl rfl rfl rfl (by kernel_rfl) Try.func7 (by kernel_rfl)
    (of_decide_eq_true (by kernel_rfl)) (by unfold Func.isWrapper; first | (rw [if_pos (by decide +kernel)]; kernel_rfl) | (rw [if_neg (by decide +kernel)]; exact ⟨rfl, rfl⟩))
    (fun os started H enc _ => lifted os started H enc)
theorem proved : Rows.FnExactSameDatasetSaid := over
#print axioms proved
end Go.Proofs.Ytghbndlkekaipaa.fnExactSameDataset
namespace Go.Proofs.Ytghbndlkekaipaa
/-- The row, under a short name, for the claim. -/
theorem fnExactSameDataset_holds : Rows.FnExactSameDatasetSaid := fnExactSameDataset.proved
end Go.Proofs.Ytghbndlkekaipaa
