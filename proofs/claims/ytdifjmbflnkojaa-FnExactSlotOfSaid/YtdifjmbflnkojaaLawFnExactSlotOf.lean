/- FnExactSlotOf's row. No condition. -/
import Derived.Test.YtdifjmbflnkojaaVFnExactSlotOf
import Derived.Test.YtdifjmbflnkojaaRows
namespace Go.Proofs.Ytdifjmbflnkojaa.fnExactSlotOf
open Go Go.Proofs.Ytdifjmbflnkojaa.V Go.ChangeShapes Go.WideShapes Go.ChangeAt Go.RowKit
set_option linter.unusedVariables false
theorem own : ownKnob Try.prog.godebug = none := by kernel_rfl
def opened : List TypeId := [45, 43, 9]
set_option maxRecDepth 100000 in
theorem lifted (os : Os) (started : os.Started) (H : Type) (enc : TypeId × Value → H) :
    ReturnsInHanded {} Try.checked os 8 .any (Rows.fnExactSlotOfSpec.pre6 enc Try.prog Try.f8 Rows.fnExactSlotOfRow.domain false) (Rows.fnExactSlotOfSpec.post enc Try.prog Try.f8 false true false false) := by
  refine returnsInHanded_of_change_sized (C := Try.checked) own started (by kernel_rfl) Try.func8
    (ChangeSpec.witness6 (enc := enc) (C := Try.checked) false ⟨#[], #[.agg #[.slice none 0 0], .string ⟨#[]⟩], []⟩ 8 (by kernel_rfl) (by kernel_rfl) (by kernel_rfl) (by kernel_rfl)) ?_
  intro W base args ds gs before hval hW _ hsz _
  exact law_told (live := live) (O := opened) mixed_ok tab_ok d18 (by kernel_rfl) laid_ok noLoops_ok rfl (fun H ds h => by
    match ds, h with
    | [d0, d1], _ => rfl) (tb := 4) rfl Try.underlying4 (by
      rw [show Try.f8.params.toList = [45, 9] from rfl]
      intro t ht
      have ht : t = 45 ∨ t = 9 := by simpa using ht
      rcases ht with rfl | rfl
      · exact ⟨by decide, by kernel_rfl, of_decide_eq_true (by kernel_rfl)⟩
      · exact ⟨by decide, by kernel_rfl, of_decide_eq_true (by kernel_rfl)⟩) (by rw [show Try.f8.params.toList = [45, 9] from rfl]; exact laws_FnExactSlotOf_pure) W base args ds gs before hval hW hsz
theorem over : Rows.fnExactSlotOfRow.holds Try.pinned (OpenSpec.ofChange Rows.fnExactSlotOfSpec) :=
  OpenClaim.holds_of_wide 8 Try.f8 rfl rfl rfl rfl rfl rfl rfl ⟨rfl, rfl, rfl, rfl, rfl⟩ rfl rfl rfl rfl rfl (by kernel_rfl) Try.func8 (by kernel_rfl)
    (of_decide_eq_true (by kernel_rfl)) (by unfold Func.isWrapper; first | (rw [if_pos (by decide +kernel)]; kernel_rfl) | (rw [if_neg (by decide +kernel)]; exact ⟨rfl, rfl⟩))
    (fun os started H enc _ => lifted os started H enc)
theorem proved : Rows.FnExactSlotOfSaid := over
#print axioms proved
end Go.Proofs.Ytdifjmbflnkojaa.fnExactSlotOf
namespace Go.Proofs.Ytdifjmbflnkojaa
/-- The row, under a short name, for the claim. -/
theorem fnExactSlotOf_holds : Rows.FnExactSlotOfSaid := fnExactSlotOf.proved
end Go.Proofs.Ytdifjmbflnkojaa
