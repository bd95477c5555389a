/- FnExactValidChunk's row. No condition. -/
import Derived.Test.YtnlpkmkkidpfhaaVFnExactValidChunk
import Derived.Test.YtnlpkmkkidpfhaaRows
namespace Go.Proofs.Ytnlpkmkkidpfhaa.fnExactValidChunk
open Go Go.Proofs.Ytnlpkmkkidpfhaa.V Go.ChangeShapes Go.WideShapes Go.ChangeAt Go.RowKit
set_option linter.unusedVariables false
theorem own : ownKnob Try.prog.godebug = none := by kernel_rfl
def opened : List TypeId := [38, 2]
set_option maxRecDepth 100000 in
theorem lifted (os : Os) (started : os.Started) (H : Type) (enc : TypeId × Value → H) :
    ReturnsInHanded {} Try.checked os 13 .any (Rows.fnExactValidChunkSpec.pre6 enc Try.prog Try.f13 Rows.fnExactValidChunkRow.domain false) (Rows.fnExactValidChunkSpec.post enc Try.prog Try.f13 false true false false) := by
  refine returnsInHanded_of_change_sized (C := Try.checked) own started (by kernel_rfl) Try.func13
    (ChangeSpec.witness6 (enc := enc) (C := Try.checked) false ⟨#[], #[.slice none 0 0, .slice none 0 0], []⟩ 8 (by kernel_rfl) (by kernel_rfl) (by kernel_rfl) (by kernel_rfl)) ?_
  intro W base args ds gs before hval hW _ hsz _
  exact law_told (live := live) (O := opened) mixed_ok tab_ok d17 (by kernel_rfl) laid_ok noLoops_ok rfl (fun H ds h => by
    match ds, h with
    | [d0, d1], _ => rfl) (tb := 4) rfl Try.underlying4 (by
      rw [show Try.f13.params.toList = [38, 38] from rfl]
      intro t ht
      have ht : t = 38 := by simpa using ht
      rcases ht with rfl
      · exact ⟨by decide, by kernel_rfl, of_decide_eq_true (by kernel_rfl)⟩) (by rw [show Try.f13.params.toList = [38, 38] from rfl]; exact laws_FnExactValidChunk_pure) W base args ds gs before hval hW hsz
theorem over : Rows.fnExactValidChunkRow.holds Try.pinned (OpenSpec.ofChange Rows.fnExactValidChunkSpec) :=
  OpenClaim.holds_of_wide 13 Try.f13 rfl rfl rfl rfl rfl rfl rfl ⟨rfl, rfl, rfl, rfl, rfl⟩ rfl rfl rfl rfl rfl (by kernel_rfl) Try.func13 (by kernel_rfl)
    (of_decide_eq_true (by kernel_rfl)) (by unfold Func.isWrapper; first | (rw [if_pos (by decide +kernel)]; kernel_rfl) | (rw [if_neg (by decide +kernel)]; exact ⟨rfl, rfl⟩))
    (fun os started H enc _ => lifted os started H enc)
theorem proved : Rows.FnExactValidChunkSaid := over
#print axioms proved
end Go.Proofs.Ytnlpkmkkidpfhaa.fnExactValidChunk
namespace Go.Proofs.Ytnlpkmkkidpfhaa
/-- The row, under a short name, for the claim. -/
theorem fnExactValidChunk_holds : Rows.FnExactValidChunkSaid := fnExactValidChunk.proved
end Go.Proofs.Ytnlpkmkkidpfhaa
