/- FnExactEncodeLinks's row. No condition. -/
import Derived.Test.YthhmamgpcojooaaDoorVFnExactEncodeLinks
import Derived.Test.YthhmamgpcojooaaDoorRows
import Derived.Test.YthhmamgpcojooaaDoorTie
import Derived.Test.YthhmamgpcojooaaDoorCards
import Derived.ProofKit
import Derived.LaidMore
import Derived.OpenShut
import Derived.Stop.Joined
import Derived.JoinedCond
import Derived.SevenTiedAt
import Derived.Deep.DeepHandedRow
import Derived.Lay
namespace Go.Proofs.YthhmamgpcojooaaDoor.fnExactEncodeLinks
open Go Go.Proofs.YthhmamgpcojooaaDoor.V Go.ChangeShapes Go.WideShapes Go.ChangeAt Go.RowKit
set_option linter.unusedVariables false
theorem own : ownKnob Tryd.prog.godebug = none := by kernel_rfl
theorem door_met (os : Os) (args : Array Value) : laidMetH Tryd.prog Rows.fnExactEncodeLinksRow.laid ((World.laidAll Tryd.prog os Rows.fnExactEncodeLinksRow.laid).forCall (fun _ _ => 0) ⟨#[], args, []⟩).memory := by
  rw [MakeChecks.laidMetH_plain _ _ _ (by kernel_rfl)]; exact laidMet_laidAll args (by kernel_rfl) (by kernel_rfl)
def opened : List TypeId := [28, 47, 9, 2, 36, 23]
set_option maxRecDepth 100000 in
theorem lifted (os : Os) (started : os.Started) (H : Type) (enc : TypeId × Value → H) :
    ReturnsInHanded {} Tryd.checked os 6 .any ((OpenSpec.ofChange Rows.fnExactEncodeLinksSpec).preRow enc Tryd.prog Tryd.f6 Rows.fnExactEncodeLinksRow.domain false Rows.fnExactEncodeLinksRow.laid) (Rows.fnExactEncodeLinksSpec.post enc Tryd.prog Tryd.f6 false true false false) := by
  refine returnsInHanded_of_row (C := Tryd.checked) (s := OpenSpec.ofChange Rows.fnExactEncodeLinksSpec) (F := fun _ _ _ => 0) own started (by kernel_rfl) Tryd.func6
    (ChangeSpec.witness_shaped (enc := enc) (C := Tryd.checked) (os := os) (X := fun w _ => laidMetH Tryd.prog Rows.fnExactEncodeLinksRow.laid w) false (World.laidAll Tryd.prog os Rows.fnExactEncodeLinksRow.laid) #[.slice none 0 0, .agg #[.slice none 0 0]] 8 (World.laidAll_os _ _ _)
      (World.shaped_of_RefB (by kernel_rfl) (by kernel_rfl)) (by kernel_rfl) (by kernel_rfl) (by kernel_rfl) (door_met os _)) ?_
  intro W base args ds gs before hval hW _ _ hsz _ hO _
  exact law_told (live := live) (O := opened) mixed_ok tab_ok d51 (by kernel_rfl) laid_ok noLoops_ok rfl (fun H ds h => by
    match ds, h with
    | [d0, d1], _ => rfl) (tb := 4) rfl Tryd.underlying4 (by
      rw [show Tryd.f6.params.toList = [28, 36] from rfl]
      intro t ht
      have ht : t = 28 ∨ t = 36 := by simpa using ht
      rcases ht with rfl | rfl
      · exact ⟨by decide, by kernel_rfl, of_decide_eq_true (by kernel_rfl)⟩
      · exact ⟨by decide, by kernel_rfl, of_decide_eq_true (by kernel_rfl)⟩) (by rw [show Tryd.f6.params.toList = [28, 36] from rfl]; exact laws_FnExactEncodeLinks_pure) W base args ds gs before hval hW hsz (gl_at hO)
theorem over : Rows.fnExactEncodeLinksRow.holds Tryd.pinned (OpenSpec.ofChange Rows.fnExactEncodeLinksSpec) :=
  OpenClaim.holds_of_wide 6 Tryd.f6 rfl rfl rfl rfl rfl rfl rfl ⟨rfl, rfl, rfl, rfl, rfl⟩ rfl rfl rfl rfl rfl (by kernel_rfl) Tryd.func6 (by kernel_rfl)
    (of_decide_eq_true (by kernel_rfl)) (by unfold Func.isWrapper; first | (rw [if_pos (by decide +kernel)]; kernel_rfl) | (rw [if_neg (by decide +kernel)]; exact ⟨rfl, rfl⟩))
    (fun os started H enc _ => by rw [OpenClaim.pre_eq_preRow]; exact lifted os started H enc)
theorem proved : Rows.FnExactEncodeLinksCardSaid :=
  Claim7.holds_tied_plain_at .later [] [.data, .pinned] true (true, "ea13a0ec23cc4a93f6597adea47a517baf6c81d487af35afa2dae12962cfe029") false
    over (fun _ h => by cases h) (by kernel_rfl) (fun _ h => by cases h) fnExactEncodeLinks_row_tie rfl ⟨rfl, rfl⟩ (by kernel_rfl) rfl
    (fun f fn hf hfn => by
      obtain rfl : f = 6 := Option.some.inj ((show Tryd.prog.funcNamed "loop.example/g00904/laws.FnExactEncodeLinks" = some 6 by kernel_rfl).symm.trans hf) |>.symm
      obtain rfl : fn = Tryd.f6 := (Option.some.inj (Tryd.func6.symm.trans hfn)).symm
      exact ⟨by kernel_rfl, fun j t ht => by
        have hm : t ∈ Tryd.f6.params.toList := by simpa using Array.mem_of_getElem? ht
        have hall : (Tryd.f6.params.toList.all fun u => !Tryd.prog.wantsStandIn u) = true := by kernel_rfl
        exact (show Tryd.prog.wantsStandIn t = false by simpa using List.all_eq_true.1 hall t hm)⟩)
    (by kernel_rfl)
#print axioms proved
end Go.Proofs.YthhmamgpcojooaaDoor.fnExactEncodeLinks
namespace Go.Proofs.YthhmamgpcojooaaDoor
/-- The row, under a short name, for the claim. -/
theorem fnExactEncodeLinks_holds : Rows.FnExactEncodeLinksCardSaid := fnExactEncodeLinks.proved
end Go.Proofs.YthhmamgpcojooaaDoor
