/- FnExactPutName's row. No condition. -/
import Derived.Test.YthhdkojpkjkanaaVFnExactPutName
import Derived.Test.YthhdkojpkjkanaaRows
namespace Go.Proofs.Ythhdkojpkjkanaa.fnExactPutName
open Go Go.Proofs.Ythhdkojpkjkanaa.V Go.ChangeShapes Go.WideShapes Go.ChangeAt Go.RowKit
set_option linter.unusedVariables false
theorem own : ownKnob Try.prog.godebug = none := by kernel_rfl
def opened : List TypeId := [35, 33, 9]
set_option maxRecDepth 100000 in
theorem lifted (os : Os) (started : os.Started) (H : Type) (enc : TypeId × Value → H) :
    ReturnsInHanded {} Try.checked os 4 .any (Rows.fnExactPutNameSpec.pre6 enc Try.prog Try.f4 Rows.fnExactPutNameRow.domain false) (Rows.fnExactPutNameSpec.post enc Try.prog Try.f4 false true false false) := by
  refine returnsInHanded_of_change_sized (C := Try.checked) own started (by kernel_rfl) Try.func4
    (ChangeSpec.witness6 (enc := enc) (C := Try.checked) false ⟨#[], #[.agg #[.slice none 0 0], .string ⟨#[]⟩], []⟩ 8 (by kernel_rfl) (by kernel_rfl) (by kernel_rfl) (by kernel_rfl)) ?_
  intro W base args ds gs before hval hW _ hsz _
  exact law_told (live := live) (O := opened) mixed_ok tab_ok d26 (by kernel_rfl) laid_ok noLoops_ok rfl (fun H ds h => by
    match ds, h with
    | [d0, d1], _ => rfl) (tb := 4) rfl Try.underlying4 (by
      rw [show Try.f4.params.toList = [35, 9] from rfl]
      intro t ht
      have ht : t = 35 ∨ t = 9 := by simpa using ht
      rcases ht with rfl | rfl
      · exact ⟨by decide, by kernel_rfl, of_decide_eq_true (by kernel_rfl)⟩
      · exact ⟨by decide, by kernel_rfl, of_decide_eq_true (by kernel_rfl)⟩) (by rw [show Try.f4.params.toList = [35, 9] from rfl]; exact laws_FnExactPutName_pure) W base args ds gs before hval hW hsz
theorem over : Rows.fnExactPutNameRow.holds Try.pinned (OpenSpec.ofChange Rows.fnExactPutNameSpec) :=
  OpenClaim.holds_of_wide 4 Try.f4 rfl rfl rfl rfl rfl rfl rfl ⟨rfl, rfl, rfl, rfl, rfl⟩ rfl rfl rfl rfl rfl (by kernel_rfl) Try.func4 (by kernel_rfl)
    (of_decide_eq_true (by kernel_rfl)) (by unfold Func.isWrapper; first | (rw [if_pos (by decide +kernel)]; kernel_rfl) | (rw [if_neg (by decide +kernel)]; exact ⟨rfl, rfl⟩))
    (fun os started H enc _ => lifted os started H enc)
theorem proved : Rows.FnExactPutNameSaid := over
#print axioms proved
end Go.Proofs.Ythhdkojpkjkanaa.fnExactPutName
namespace Go.Proofs.Ythhdkojpkjkanaa
/-- The row, under a short name, for the claim. -/
theorem fnExactPutName_holds : Rows.FnExactPutNameSaid := fnExactPutName.proved
end Go.Proofs.Ythhdkojpkjkanaa
