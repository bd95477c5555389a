import Derived.Test.YtabdjbkbfilhkaaV24
namespace Go.Proofs.Ytabdjbkbfilhkaa.V
open Go

def bodyOf (F : FuncId → Option Func) (f : FuncId) : Code := match (F f).bind (·.body) with | some c => c | .none => .skip
def ntOf (F : FuncId → Option Func) (f : FuncId) : Nat := match F f with | some fn => fn.ntmps | .none => 0
def loopAt (F : FuncId → Option Func) (f : FuncId) (j : Nat) : Code := ((loopsOf (bodyOf F f)).getD j (.none, .skip)).2

section
variable {T : Tab} {F : FuncId → Option Func} {D : FuncId → List Arg → Option (Bool × Res)} {live : FuncId → Nat → Live × Live} {f : FuncId} {lo : LoopTeller}

noncomputable def rnd (T : Tab) (F : FuncId → Option Func) (D : FuncId → List Arg → Option (Bool × Res)) (live : FuncId → Nat → Live × Live) (f : FuncId) (lo : LoopTeller) (j r : Nat) :=
  round T (ntOf F f) D (live f) lo (loopAt F f j) (live f r)

def LoopIs (T : Tab) (F : FuncId → Option Func) (D : FuncId → List Arg → Option (Bool × Res)) (live : FuncId → Nat → Live × Live) (f : FuncId) (lo : LoopTeller) (j r : Nat) : Prop :=
  ∀ s t res, lo r s = some t → t.val = some res → ∃ n, rounds (rnd T F D live f lo j r) leave n s = some res

theorem fnLoops_of {rs : List (Option Nat)} (hr : (loopsOf (bodyOf F f)).map (·.1) = rs) (h : ∀ j r, rs[j]? = some (some r) → LoopIs T F D live f lo j r) : FnLoops T F D live f lo := by
  intro fn c hf hb
  have hc : bodyOf F f = c := by simp [bodyOf, hf, hb]
  have hn : ntOf F f = fn.ntmps := by simp [ntOf, hf]
  refine loopsOk_of _ _ _ _ _ c fun p hp r hpr => ?_
  obtain ⟨j, hj, hpj⟩ := List.getElem_of_mem hp
  have h1 : rs[j]? = some (some r) := by
    rw [← hr, hc, List.getElem?_map, List.getElem?_eq_getElem hj, hpj, Option.map_some, hpr]
  have h2 := h j r h1
  have hl : loopAt F f j = p.2 := by
    unfold loopAt
    rw [hc, List.getD_eq_getElem?_getD, List.getElem?_eq_getElem hj, hpj]
    rfl
  intro s t res hs hv
  obtain ⟨n, hn'⟩ := h2 s t res hs hv
  refine ⟨n, ?_⟩
  unfold rnd at hn'
  rw [hl, hn] at hn'
  exact hn'

theorem fnLoops_one {r : Nat} (hr : (loopsOf (bodyOf F f)).map (·.1) = [some r]) (h : LoopIs T F D live f lo 0 r) : FnLoops T F D live f lo :=
  fnLoops_of hr fun j r' hj => by
    cases j with
    | zero => simp at hj; subst hj; exact h
    | succ j => simp at hj
end

def iter {α ρ : Type} (step : Nat → α → α ⊕ ρ) (fin : α → ρ) : Nat → Nat → α → ρ
  | 0, _, a => fin a
  | m + 1, i, a => match step i a with
    | .inl a' => iter step fin m (i + 1) a'
    | .inr r => r

end Go.Proofs.Ytabdjbkbfilhkaa.V
