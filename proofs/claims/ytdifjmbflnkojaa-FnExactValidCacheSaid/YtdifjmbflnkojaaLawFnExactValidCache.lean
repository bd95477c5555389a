/- FnExactValidCache's row. No condition. -/
import Derived.Test.YtdifjmbflnkojaaVFnExactValidCache
import Derived.Test.YtdifjmbflnkojaaRows
namespace Go.Proofs.Ytdifjmbflnkojaa.fnExactValidCache
open Go Go.Proofs.Ytdifjmbflnkojaa.V Go.ChangeShapes Go.WideShapes Go.ChangeAt Go.RowKit
set_option linter.unusedVariables false
theorem own : ownKnob Try.prog.godebug = none := by kernel_rfl
def opened : List TypeId := [39, 2, 37, 125, 9, 4]
set_option maxRecDepth 100000 in
theorem lifted (os : Os) (started : os.Started) (H : Type) (enc : TypeId × Value → H) :
    ReturnsInHanded {} Try.checked os 10 .any (Rows.fnExactValidCacheSpec.pre6 enc Try.prog Try.f10 Rows.fnExactValidCacheRow.domain false) (Rows.fnExactValidCacheSpec.post enc Try.prog Try.f10 false true false false) := by
  refine returnsInHanded_of_change_sized (C := Try.checked) own started (by kernel_rfl) Try.func10
    (ChangeSpec.witness6 (enc := enc) (C := Try.checked) false ⟨#[], #[.agg #[.int .i64 0, .slice none 0 0, .int .i64 0, .int .i64 0, .int .i64 0]], []⟩ 8 (by kernel_rfl) (by kernel_rfl) (by kernel_rfl) (by kernel_rfl)) ?_
  intro W base args ds gs before hval hW _ hsz _
  exact law_told (live := live) (O := opened) mixed_ok tab_ok d23 (by kernel_rfl) laid_ok noLoops_ok rfl (fun H ds h => by
    match ds, h with
    | [d0], _ => rfl) (tb := 4) rfl Try.underlying4 (by
      rw [show Try.f10.params.toList = [39] from rfl]
      intro t ht
      have ht : t = 39 := by simpa using ht
      rcases ht with rfl
      · exact ⟨by decide, by kernel_rfl, of_decide_eq_true (by kernel_rfl)⟩) (by rw [show Try.f10.params.toList = [39] from rfl]; exact laws_FnExactValidCache_pure) W base args ds gs before hval hW hsz
theorem over : Rows.fnExactValidCacheRow.holds Try.pinned (OpenSpec.ofChange Rows.fnExactValidCacheSpec) :=
  OpenClaim.holds_of_wide 10 Try.f10 rfl rfl rfl rfl rfl rfl rfl ⟨rfl, rfl, rfl, rfl, rfl⟩ rfl rfl rfl rfl rfl (by kernel_rfl) Try.func10 (by kernel_rfl)
    (of_decide_eq_true (by kernel_rfl)) (by unfold Func.isWrapper; first | (rw [if_pos (by decide +kernel)]; kernel_rfl) | (rw [if_neg (by decide +kernel)]; exact ⟨rfl, rfl⟩))
    (fun os started H enc _ => lifted os started H enc)
theorem proved : Rows.FnExactValidCacheSaid := over
#print axioms proved
end Go.Proofs.Ytdifjmbflnkojaa.fnExactValidCache
namespace Go.Proofs.Ytdifjmbflnkojaa
/-- The row, under a short name, for the claim. -/
theorem fnExactValidCache_holds : Rows.FnExactValidCacheSaid := fnExactValidCache.proved
end Go.Proofs.Ytdifjmbflnkojaa
