/- FnExactNamesInExp's row. No condition. -/
import Derived.Test.YtabdjbkbfilhkaaVFnExactNamesInExp
import Derived.Test.YtabdjbkbfilhkaaRows
namespace Go.Proofs.Ytabdjbkbfilhkaa.fnExactNamesInExp
open Go Go.Proofs.Ytabdjbkbfilhkaa.V Go.ChangeShapes Go.WideShapes Go.ChangeAt Go.RowKit
set_option linter.unusedVariables false
theorem own : ownKnob Try.prog.godebug = none := by kernel_rfl
def opened : List TypeId := [25, 2, 9, 22, 23, 61, 4]
set_option maxRecDepth 100000 in
theorem lifted (os : Os) (started : os.Started) (H : Type) (enc : TypeId × Value → H) :
    ReturnsInHanded {} Try.checked os 4 .any (Rows.fnExactNamesInExpSpec.pre6 enc Try.prog Try.f4 Rows.fnExactNamesInExpRow.domain false) (Rows.fnExactNamesInExpSpec.post enc Try.prog Try.f4 false true false false) := by
  refine returnsInHanded_of_change_sized (C := Try.checked) own started (by kernel_rfl) Try.func4
    (ChangeSpec.witness6 (enc := enc) (C := Try.checked) false ⟨#[], #[.agg #[.int .i64 0, .int .i64 0, .string ⟨#[]⟩, .slice none 0 0, .slice none 0 0]], []⟩ 8 (by kernel_rfl) (by kernel_rfl) (by kernel_rfl) (by kernel_rfl)) ?_
  intro W base args ds gs before hval hW _ hsz _
  exact law_told2 (live := live) (O := opened) mixed_ok tab_ok (by kernel_rfl) laid_ok rfl (fun H ds h => by
    match ds, h with
    | [d0], _ => rfl) (tb := 4) rfl Try.underlying4 (by
      rw [show Try.f4.params.toList = [25] from rfl]
      intro t ht
      have ht : t = 25 := by simpa using ht
      rcases ht with rfl
      · exact ⟨by decide, by kernel_rfl, of_decide_eq_true (by kernel_rfl)⟩) (by rw [show Try.f4.params.toList = [25] from rfl]; exact laws_FnExactNamesInExp_pure) W base args ds gs before hval hW hsz (fun g k => absurd k (gl_none g))
theorem over : Rows.fnExactNamesInExpRow.holds Try.pinned (OpenSpec.ofChange Rows.fnExactNamesInExpSpec) :=
  OpenClaim.holds_of_wide 4 Try.f4 rfl rfl rfl rfl rfl rfl rfl ⟨rfl, rfl, rfl, rfl, rfl⟩ rfl rfl rfl rfl rfl (by kernel_rfl) Try.func4 (by kernel_rfl)
    (of_decide_eq_true (by kernel_rfl)) (by unfold Func.isWrapper; first | (rw [if_pos (by decide +kernel)]; kernel_rfl) | (rw [if_neg (by decide +kernel)]; exact ⟨rfl, rfl⟩))
    (fun os started H enc _ => lifted os started H enc)
theorem proved : Rows.FnExactNamesInExpSaid := over
#print axioms proved
end Go.Proofs.Ytabdjbkbfilhkaa.fnExactNamesInExp
namespace Go.Proofs.Ytabdjbkbfilhkaa
/-- The row, under a short name, for the claim. -/
theorem fnExactNamesInExp_holds : Rows.FnExactNamesInExpSaid := fnExactNamesInExp.proved
end Go.Proofs.Ytabdjbkbfilhkaa
