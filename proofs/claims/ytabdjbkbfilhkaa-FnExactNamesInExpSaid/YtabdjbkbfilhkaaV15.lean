import Derived.Test.YtabdjbkbfilhkaaV14
namespace Go.Proofs.Ytabdjbkbfilhkaa.V
open Go Go.RowKit

section
variable {P : Program} {T : Tab} {G : Nat → Prop} {base : Bs} {nt : Nat} {σ : St} {a : Act} {w w' : World} {D : FuncId → List Arg → Option (Bool × Res)} {K : Act → World → Prop} {Q : Exit → Act → World → Prop} {o : Oper}

theorem op_sound {ws : Ws} (hT : TabOk P T) (hD : DOk P T D) (h : Rel T G base nt σ a w) (hd : ∀ d, o.dst = some d → d < nt)
    (he : (opR T o).ev D σ = some ws) (hK : ∀ a' w', Rel T G base nt (σ.setAll ws) a' w' → Bel base w w' → K a' w') : o.wp P a w K Q := by
  cases ho : o.op
  case move x => exact op_move ho h hd he hK
  case assign x => exact op_assign ho h hd he hK
  case pick c x y => exact op_pick ho h hd he hK
  case alloc t => exact op_alloc hT hD.meth.ty ho h hd he hK
  case box t x => exact op_box ho h hd he hK
  case build t ps => exact op_build hT ho h hd he hK
  case buildSlice t n ps => exact op_buildSlice hT ho h hd he hK
  case load t x => exact op_load hT ho h hd he hK
  case store t x y => exact op_store hT ho h he hK
  case nilCheck x => exact op_nilCheck ho h hd he hK
  case binOp op t x y u => exact op_binOp hT ho h hd he hK
  case unOp op t x => exact op_unOp ho h hd he hK
  case convert s d x => exact op_convert hT ho h hd he hK
  case makeFunc fn first caps => exact op_makeFunc ho h hd he hK
  case makeSlice t l c => exact op_makeSlice hT ho h hd he hK
  case slice t x lo hi mx =>
    cases mx with
    | none => exact op_slice hT ho h hd he hK
    | some m => exact absurd he (by unfold opR; simp [ho])
  case fieldAddr s x f => exact op_fieldAddr hT ho h hd he hK
  case indexAddr t x ix => exact op_indexAddr hT ho h hd he hK
  case index t x ix => exact op_index hT ho h hd he hK
  case extract x i => exact op_extract ho h hd he hK
  case call c =>
    cases hcl : c.callee
    case value f =>
      cases hmf : methOf T f with
      | none => exact op_call hD ho hcl hmf h hd he hK
      | some p =>
        obtain ⟨g, k⟩ := p
        have he' := he
        unfold opR at he'
        simp only [ho, hcl, hmf] at he'
        cases k with
        | zero => exact op_write hD ho hcl hmf h hd he' hK
        | succ k => exact op_bld hD ho hcl hmf h hd he' hK
    case builtin b =>
      cases b
      case len =>
        cases hl : c.args.toList with
        | nil => exact absurd he (by unfold opR; simp [ho, hcl, hl])
        | cons x l =>
          cases l with
          | cons y l => exact absurd he (by unfold opR; simp [ho, hcl, hl])
          | nil =>
            cases ht : c.argTypes.toList with
            | nil => exact absurd he (by unfold opR; simp [ho, hcl, hl, ht])
            | cons t m =>
              cases m with
              | cons u m => exact absurd he (by unfold opR; simp [ho, hcl, hl, ht])
              | nil => exact op_len hT ho hcl hl ht h hd he hK
      case max => exact op_minMax (D := D) (mx := true) ho hcl h hd (by have he' := he; unfold opR at he'; simp only [ho, hcl] at he'; exact he') hK
      case min => exact op_minMax (D := D) (mx := false) ho hcl h hd (by have he' := he; unfold opR at he'; simp only [ho, hcl] at he'; exact he') hK
      case append =>
        have he' := he
        unfold opR at he'
        simp only [ho, hcl] at he'
        split at he'
        · rename_i s x t u h1 h2
          exact op_append hT ho hcl h1 h2 h hd he hK
        · simp at he'
      case clear =>
        have he' := he
        unfold opR at he'
        simp only [ho, hcl] at he'
        split at he'
        · rename_i x t h1 h2
          exact op_clear hT ho hcl h1 h2 h hd he' hK
        · simp at he'
      case copy =>
        have he' := he
        unfold opR at he'
        simp only [ho, hcl] at he'
        split at he'
        · rename_i x y t u h1 h2
          exact op_copy hT ho hcl h1 h2 h hd he' hK
        · simp at he'
      all_goals exact absurd he (by unfold opR; simp [ho, hcl])
    case invoke x y => exact absurd he (by unfold opR; simp [ho, hcl])
  all_goals exact absurd he (by unfold opR; simp [ho])
end

end Go.Proofs.Ytabdjbkbfilhkaa.V
