/- FnExactSameVirtual's row. No condition. -/
import Derived.Test.YtghbndlkekaipaaVFnExactSameVirtual
import Derived.Test.YtghbndlkekaipaaRows
namespace Go.Proofs.Ytghbndlkekaipaa.fnExactSameVirtual
open Go Go.Proofs.Ytghbndlkekaipaa.V Go.ChangeShapes Go.WideShapes Go.ChangeAt Go.RowKit
set_option linter.unusedVariables false
theorem own : ownKnob Try.prog.godebug = none := by kernel_rfl
def opened : List TypeId := [77, 45, 2, 4, 36, 9, 41, 42, 189, 43, 75, 163, 161, 159, 215]
set_option maxRecDepth 100000 in
theorem lifted (os : Os) (started : os.Started) (H : Type) (enc : TypeId × Value → H) :
    ReturnsInHanded {} Try.checked os 8 .any (Rows.fnExactSameVirtualSpec.pre6 enc Try.prog Try.f8 Rows.fnExactSameVirtualRow.domain false) (Rows.fnExactSameVirtualSpec.post enc Try.prog Try.f8 false true false false) := by
  refine returnsInHanded_of_change_sized (C := Try.checked) own started (by kernel_rfl) Try.func8
    (ChangeSpec.witness6 (enc := enc) (C := Try.checked) false ⟨#[], #[.agg #[.int .i64 0, .int .i64 0, .bool false, .bool false, .slice none 0 0, .slice none 0 0, .slice none 0 0, .slice none 0 0, .int .i64 0, .slice none 0 0, .string ⟨#[]⟩, .slice none 0 0], .agg #[.int .i64 0, .int .i64 0, .bool false, .bool false, .slice none 0 0, .slice none 0 0, .slice none 0 0, .slice none 0 0, .int .i64 0, .slice none 0 0, .string ⟨#[]⟩, .slice none 0 0]], []⟩ 8 (by kernel_rfl) (by kernel_rfl) (by kernel_rfl) (by kernel_rfl)) ?_
  intro W base args ds gs before hval hW _ hsz _
  exact law_told2 (live := live) (O := opened) mixed_ok tab_ok (by kernel_rfl) laid_ok rfl (fun H ds h => by
    match ds, h with
    | [d0, d1], _ => rfl) (tb := 4) rfl Try.underlying4 (by
      rw [show Try.f8.params.toList = [77, 77] from rfl]
      intro t ht
      have ht : t = 77 := by simpa using ht
      rcases ht with rfl
      · exact ⟨by decide, by kernel_rfl, of_decide_eq_true (by kernel_rfl)⟩) (by rw [show Try.f8.params.toList = [77, 77] from rfl]; exact laws_FnExactSameVirtual_pure) W base args ds gs before hval hW hsz
theorem over : Rows.fnExactSameVirtualRow.holds Try.pinned (OpenSpec.ofChange Rows.fnExactSameVirtualSpec) :=
  OpenClaim.holds_of_wide 8 Try.f8 rfl rfl rfl rfl rfl rfl rfl ⟨rfl, rfl, rfl, rfl, rfl⟩ rfl rfl rfl rfl rfl (by kernel_rfl) Try.func8 (by kernel_rfl)
    (of_decide_eq_true (by kernel_rfl)) (by unfold Func.isWrapper; first | (rw [if_pos (by decide +kernel)]; kernel_rfl) | (rw [if_neg (by decide +kernel)]; exact ⟨rfl, rfl⟩))
    (fun os started H enc _ => lifted os started H enc)
theorem proved : Rows.FnExactSameVirtualSaid := over
#print axioms proved
end Go.Proofs.Ytghbndlkekaipaa.fnExactSameVirtual
namespace Go.Proofs.Ytghbndlkekaipaa
/-- The row, under a short name, for the claim. -/
theorem fnExactSameVirtual_holds : Rows.FnExactSameVirtualSaid := fnExactSameVirtual.proved
end Go.Proofs.Ytghbndlkekaipaa
