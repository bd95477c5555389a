/- FnExactValidNumbers's row. No condition. -/
import Derived.Test.YtnlpkmkkidpfhaaVFnExactValidNumbers
import Derived.Test.YtnlpkmkkidpfhaaRows
namespace Go.Proofs.Ytnlpkmkkidpfhaa.fnExactValidNumbers
open Go Go.Proofs.Ytnlpkmkkidpfhaa.V Go.ChangeShapes Go.WideShapes Go.ChangeAt Go.RowKit
set_option linter.unusedVariables false
theorem own : ownKnob Try.prog.godebug = none := by kernel_rfl
def opened : List TypeId := [40, 38, 2]
set_option maxRecDepth 100000 in
theorem lifted (os : Os) (started : os.Started) (H : Type) (enc : TypeId × Value → H) :
    ReturnsInHanded {} Try.checked os 14 .any (Rows.fnExactValidNumbersSpec.pre6 enc Try.prog Try.f14 Rows.fnExactValidNumbersRow.domain false) (Rows.fnExactValidNumbersSpec.post enc Try.prog Try.f14 false true false false) := by
  refine returnsInHanded_of_change_sized (C := Try.checked) own started (by kernel_rfl) Try.func14
    (ChangeSpec.witness6 (enc := enc) (C := Try.checked) false ⟨#[], #[.agg #[.slice none 0 0, .slice none 0 0]], []⟩ 8 (by kernel_rfl) (by kernel_rfl) (by kernel_rfl) (by kernel_rfl)) ?_
  intro W base args ds gs before hval hW _ hsz _
  exact law_told (live := live) (O := opened) mixed_ok tab_ok d20 (by kernel_rfl) laid_ok noLoops_ok rfl (fun H ds h => by
    match ds, h with
    | [d0], _ => rfl) (tb := 4) rfl Try.underlying4 (by
      rw [show Try.f14.params.toList = [40] from rfl]
      intro t ht
      have ht : t = 40 := by simpa using ht
      rcases ht with rfl
      · exact ⟨by decide, by kernel_rfl, of_decide_eq_true (by kernel_rfl)⟩) (by rw [show Try.f14.params.toList = [40] from rfl]; exact laws_FnExactValidNumbers_pure) W base args ds gs before hval hW hsz
theorem over : Rows.fnExactValidNumbersRow.holds Try.pinned (OpenSpec.ofChange Rows.fnExactValidNumbersSpec) :=
  OpenClaim.holds_of_wide 14 Try.f14 rfl rfl rfl rfl rfl rfl rfl ⟨rfl, rfl, rfl, rfl, rfl⟩ rfl rfl rfl rfl rfl (by kernel_rfl) Try.func14 (by kernel_rfl)
    (of_decide_eq_true (by kernel_rfl)) (by unfold Func.isWrapper; first | (rw [if_pos (by decide +kernel)]; kernel_rfl) | (rw [if_neg (by decide +kernel)]; exact ⟨rfl, rfl⟩))
    (fun os started H enc _ => lifted os started H enc)
theorem proved : Rows.FnExactValidNumbersSaid := over
#print axioms proved
end Go.Proofs.Ytnlpkmkkidpfhaa.fnExactValidNumbers
namespace Go.Proofs.Ytnlpkmkkidpfhaa
/-- The row, under a short name, for the claim. -/
theorem fnExactValidNumbers_holds : Rows.FnExactValidNumbersSaid := fnExactValidNumbers.proved
end Go.Proofs.Ytnlpkmkkidpfhaa
