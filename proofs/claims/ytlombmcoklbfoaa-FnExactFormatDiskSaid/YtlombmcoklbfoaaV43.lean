-- V43.lean: a region and a condition, told with a boolean choice (the kernel does not open a comparison with a great literal then). Own work.
import Derived.Test.YtlombmcoklbfoaaV42
namespace Go.Proofs.Ytlombmcoklbfoaa.V
open Go Go.RowKit

theorem cut_bif {ρ : Type} {T : Tab} {nt : Nat} {D : Dt} {live lo} {q a q1 : Code} {i ops d c} {σ : St} {K : Ex → St → Option ρ}
    (hq : q = .seq (.seq (.region i ops d) (.cond c a .skip)) q1) :
    runT T nt D live lo q σ K = runRegion T nt D ops.toList d σ fun σ' => (condOf σ' c).bind fun p => bif p then runT T nt D live lo a (substC σ' c true) (fun e σ'' => match e with | .normal => runT T nt D live lo q1 σ'' K | e => K e σ'') else runT T nt D live lo q1 (substC σ' c false) K := by
  subst hq
  show runRegion T nt D ops.toList d σ _ = _
  congr 1
  funext σ'
  show (condOf σ' c).bind _ = _
  cases condOf σ' c with
  | none => rfl
  | some p => cases p <;> rfl
theorem bif_ite {α : Type} {b : Bool} {x y : α} : (bif b then x else y) = if b = true then x else y := by cases b <;> rfl
end Go.Proofs.Ytlombmcoklbfoaa.V
