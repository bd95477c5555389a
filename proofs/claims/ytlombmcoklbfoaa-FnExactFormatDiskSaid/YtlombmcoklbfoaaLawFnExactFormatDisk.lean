/- FnExactFormatDisk's row. No condition. -/
import Derived.Test.YtlombmcoklbfoaaVFnExactFormatDisk
import Derived.Test.YtlombmcoklbfoaaRows
namespace Go.Proofs.Ytlombmcoklbfoaa.fnExactFormatDisk
open Go Go.Proofs.Ytlombmcoklbfoaa.V Go.ChangeShapes Go.WideShapes Go.ChangeAt Go.RowKit
set_option linter.unusedVariables false
theorem own : ownKnob Try.prog.godebug = none := by kernel_rfl
def opened : List TypeId := [2]
set_option maxRecDepth 100000 in
theorem lifted (os : Os) (started : os.Started) (H : Type) (enc : TypeId × Value → H) :
    ReturnsInHanded {} Try.checked os 3 .any (Rows.fnExactFormatDiskSpec.pre6 enc Try.prog Try.f3 Rows.fnExactFormatDiskRow.domain false) (Rows.fnExactFormatDiskSpec.post enc Try.prog Try.f3 false true false false) := by
  refine returnsInHanded_of_change_sized (C := Try.checked) own started (by kernel_rfl) Try.func3
    (ChangeSpec.witness6 (enc := enc) (C := Try.checked) false ⟨#[], #[.int .i64 0, .int .i64 0], []⟩ 8 (by kernel_rfl) (by kernel_rfl) (by kernel_rfl) (by kernel_rfl)) ?_
  intro W base args ds gs before hval hW _ hsz _
  exact law_told (live := live) (O := opened) mixed_ok tab_ok d32 (by kernel_rfl) laid_ok noLoops_ok rfl (fun H ds h => by
    match ds, h with
    | [d0, d1], _ => rfl) (tb := 4) rfl Try.underlying4 (by
      rw [show Try.f3.params.toList = [2, 2] from rfl]
      intro t ht
      have ht : t = 2 := by simpa using ht
      rcases ht with rfl
      · exact ⟨by decide, by kernel_rfl, of_decide_eq_true (by kernel_rfl)⟩) (by rw [show Try.f3.params.toList = [2, 2] from rfl]; exact laws_FnExactFormatDisk_pure) W base args ds gs before hval hW hsz (fun g k => absurd k (gl_none g))
theorem over : Rows.fnExactFormatDiskRow.holds Try.pinned (OpenSpec.ofChange Rows.fnExactFormatDiskSpec) :=
  OpenClaim.holds_of_wide 3 Try.f3 rfl rfl rfl rfl rfl rfl rfl ⟨rfl, rfl, rfl, rfl, rfl⟩ rfl rfl rfl rfl rfl (by kernel_rfl) Try.func3 (by kernel_rfl)
    (of_decide_eq_true (by kernel_rfl)) (by unfold Func.isWrapper; first | (rw [if_pos (by decide +kernel)]; kernel_rfl) | (rw [if_neg (by decide +kernel)]; exact ⟨rfl, rfl⟩))
    (fun os started H enc _ => lifted os started H enc)
theorem proved : Rows.FnExactFormatDiskSaid := over
#print axioms proved
end Go.Proofs.Ytlombmcoklbfoaa.fnExactFormatDisk
namespace Go.Proofs.Ytlombmcoklbfoaa
/-- The row, under a short name, for the claim. -/
theorem fnExactFormatDisk_holds : Rows.FnExactFormatDiskSaid := fnExactFormatDisk.proved
end Go.Proofs.Ytlombmcoklbfoaa
