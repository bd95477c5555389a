-- V42.lean: an early return told apart from what follows. Own work.
import Derived.Test.YtkgjindjaaggkaaV41
namespace Go.Proofs.Ytkgjindjaaggkaa.V
open Go Go.RowKit

theorem cut_early {ρ : Type} {T : Tab} {nt : Nat} {D : Dt} {live lo} {q a q1 : Code} {i ops d c} {σ σ1 : St} {K : Ex → St → Option ρ} {p : Bool} {Y : Option ρ}
    (hq : q = .seq (.seq (.region i ops d) (.cond c a .skip)) q1) (hr : ∀ F : St → Option ρ, runRegion T nt D ops.toList d σ F = F σ1) (hc : condOf σ1 c = some p)
    (he : runT T nt D live lo a (substC σ1 c true) (fun e σ' => match e with | .normal => runT T nt D live lo q1 σ' K | e => K e σ') = Y) :
    runT T nt D live lo q σ K = if p = true then Y else runT T nt D live lo q1 (substC σ1 c false) K := by
  subst hq
  show runRegion T nt D ops.toList d σ _ = _
  rw [hr]
  show (condOf σ1 c).bind _ = _
  rw [hc]
  cases p with
  | true => exact he
  | false => rfl
end Go.Proofs.Ytkgjindjaaggkaa.V
