/- FnExactEncodeMapping's row. No condition. -/
import Derived.Test.YtjhbfeeaehaniaaDoorVFnExactEncodeMapping
import Derived.Test.YtjhbfeeaehaniaaDoorRows
import Derived.Test.YtjhbfeeaehaniaaDoorTie
import Derived.Test.YtjhbfeeaehaniaaDoorCards
import Derived.ProofKit
import Derived.LaidMore
import Derived.OpenShut
import Derived.Stop.Joined
import Derived.JoinedCond
import Derived.SevenTiedAt
import Derived.Deep.DeepHandedRow
import Derived.Lay
namespace Go.Proofs.YtjhbfeeaehaniaaDoor.fnExactEncodeMapping
open Go Go.Proofs.YtjhbfeeaehaniaaDoor.V Go.ChangeShapes Go.WideShapes Go.ChangeAt Go.RowKit
set_option linter.unusedVariables false
theorem own : ownKnob Tryd.prog.godebug = none := by kernel_rfl
theorem door_met (os : Os) (args : Array Value) : laidMetH Tryd.prog Rows.fnExactEncodeMappingRow.laid ((World.laidAll Tryd.prog os Rows.fnExactEncodeMappingRow.laid).forCall (fun _ _ => 0) ⟨#[], args, []⟩).memory := by
  rw [MakeChecks.laidMetH_plain _ _ _ (by kernel_rfl)]; exact laidMet_laidAll args (by kernel_rfl) (by kernel_rfl)
def opened : List TypeId := [27, 9, 25, 2, 22, 23, 56]
set_option maxRecDepth 100000 in
theorem lifted (os : Os) (started : os.Started) (H : Type) (enc : TypeId × Value → H) :
    ReturnsInHanded {} Tryd.checked os 3 .any ((OpenSpec.ofChange Rows.fnExactEncodeMappingSpec).preRow enc Tryd.prog Tryd.f3 Rows.fnExactEncodeMappingRow.domain false Rows.fnExactEncodeMappingRow.laid) (Rows.fnExactEncodeMappingSpec.post enc Tryd.prog Tryd.f3 false true false false) := by
  refine returnsInHanded_of_row (C := Tryd.checked) (s := OpenSpec.ofChange Rows.fnExactEncodeMappingSpec) (F := fun _ _ _ => 0) own started (by kernel_rfl) Tryd.func3
    (ChangeSpec.witness_shaped (enc := enc) (C := Tryd.checked) (os := os) (X := fun w _ => laidMetH Tryd.prog Rows.fnExactEncodeMappingRow.laid w) false (World.laidAll Tryd.prog os Rows.fnExactEncodeMappingRow.laid) #[.agg #[.string ⟨#[]⟩, .int .i64 0, .slice none 0 0, .slice none 0 0, .slice none 0 0, .slice none 0 0, .slice none 0 0, .int .i64 0, .slice none 0 0, .slice none 0 0, .slice none 0 0, .slice none 0 0, .slice none 0 0]] 8 (World.laidAll_os _ _ _)
      (World.shaped_of_RefB (by kernel_rfl) (by kernel_rfl)) (by kernel_rfl) (by kernel_rfl) (by kernel_rfl) (door_met os _)) ?_
  intro W base args ds gs before hval hW _ _ hsz _ hO _
  exact law_told (live := live) (O := opened) mixed_ok tab_ok d65 (by kernel_rfl) laid_ok noLoops_ok rfl (fun H ds h => by
    match ds, h with
    | [d0], _ => rfl) (tb := 4) rfl Tryd.underlying4 (by
      rw [show Tryd.f3.params.toList = [27] from rfl]
      intro t ht
      have ht : t = 27 := by simpa using ht
      rcases ht with rfl
      · exact ⟨by decide, by kernel_rfl, of_decide_eq_true (by kernel_rfl)⟩) (by rw [show Tryd.f3.params.toList = [27] from rfl]; exact laws_FnExactEncodeMapping_pure) W base args ds gs before hval hW hsz (gl_at hO)
theorem over : Rows.fnExactEncodeMappingRow.holds Tryd.pinned (OpenSpec.ofChange Rows.fnExactEncodeMappingSpec) :=
  OpenClaim.holds_of_wide 3 Tryd.f3 rfl rfl rfl rfl rfl rfl rfl ⟨rfl, rfl, rfl, rfl, rfl⟩ rfl rfl rfl rfl rfl (by kernel_rfl) Tryd.func3 (by kernel_rfl)
    (of_decide_eq_true (by kernel_rfl)) (by unfold Func.isWrapper; first | (rw [if_pos (by decide +kernel)]; kernel_rfl) | (rw [if_neg (by decide +kernel)]; exact ⟨rfl, rfl⟩))
    (fun os started H enc _ => by rw [OpenClaim.pre_eq_preRow]; exact lifted os started H enc)
theorem proved : Rows.FnExactEncodeMappingCardSaid :=
  Claim7.holds_tied_plain_at .later [] [.data, .pinned] true (true, "3b962c3b61167239b9a5390bed8f9b67f51d91086040eb1a81ab721ab6ae7af2") false
    over (fun _ h => by cases h) (by kernel_rfl) (fun _ h => by cases h) fnExactEncodeMapping_row_tie rfl ⟨rfl, rfl⟩ (by kernel_rfl) rfl
    (fun f fn hf hfn => by
      obtain rfl : f = 3 := Option.some.inj ((show Tryd.prog.funcNamed "loop.example/g00904/laws.FnExactEncodeMapping" = some 3 by kernel_rfl).symm.trans hf) |>.symm
      obtain rfl : fn = Tryd.f3 := (Option.some.inj (Tryd.func3.symm.trans hfn)).symm
      exact ⟨by kernel_rfl, fun j t ht => by
        have hm : t ∈ Tryd.f3.params.toList := by simpa using Array.mem_of_getElem? ht
        have hall : (Tryd.f3.params.toList.all fun u => !Tryd.prog.wantsStandIn u) = true := by kernel_rfl
        exact (show Tryd.prog.wantsStandIn t = false by simpa using List.all_eq_true.1 hall t hm)⟩)
    (by kernel_rfl)
#print axioms proved
end Go.Proofs.YtjhbfeeaehaniaaDoor.fnExactEncodeMapping
namespace Go.Proofs.YtjhbfeeaehaniaaDoor
/-- The row, under a short name, for the claim. -/
theorem fnExactEncodeMapping_holds : Rows.FnExactEncodeMappingCardSaid := fnExactEncodeMapping.proved
end Go.Proofs.YtjhbfeeaehaniaaDoor
