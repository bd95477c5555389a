import Derived.Test.YtabdjbkbfilhkaaV26
namespace Go.Proofs.Ytabdjbkbfilhkaa.V
open Go

inductive Tr (ρ : Type) where
  | ok (a : ρ)
  | no
  | br (c : Prop) (d : Decidable c) (a b : Tr ρ)

namespace Tr
variable {ρ σ : Type}
def run : Tr ρ → (ρ → Option σ) → Option σ
  | .ok a, K => K a
  | .no, _ => .none
  | .br c d a b, K => @ite _ c d (a.run K) (b.run K)
def val (t : Tr ρ) : Option ρ := t.run some
abbrev ite (c : Prop) [d : Decidable c] (a b : Tr ρ) : Tr ρ := .br c d a b

@[simp] theorem val_ok (a : ρ) : (Tr.ok a).val = some a := rfl
@[simp] theorem val_no : (Tr.no : Tr ρ).val = .none := rfl
@[simp] theorem val_br (c : Prop) (d : Decidable c) (a b : Tr ρ) : (Tr.br c d a b).val = if c then a.val else b.val := rfl
theorem run_eq (K : ρ → Option σ) : ∀ t : Tr ρ, t.run K = t.val.bind K
  | .ok a => rfl
  | .no => rfl
  | .br c d a b => by
    show @_root_.ite _ c d (a.run K) (b.run K) = (@_root_.ite _ c d a.val b.val).bind K
    split
    · exact run_eq K a
    · exact run_eq K b

def get [Inhabited ρ] : Tr ρ → ρ
  | .ok a => a
  | .no => default
  | .br c d a b => @_root_.ite _ c d a.get b.get
end Tr

section
variable {T : Tab} {F : FuncId → Option Func} {D : FuncId → List Arg → Option (Bool × Res)} {live : FuncId → Nat → Live × Live} {f : FuncId} {lo : LoopTeller}

theorem fun_told {ρ : Type} {xs : List Arg} {t : Tr ρ} {mk : ρ → Res} {c : Bool} {v : ρ}
    (e : runF T F D live f lo xs = t.run fun p => some (mk p)) (h : c = true → t.val = some v) (hc : c = true) : runF T F D live f lo xs = some (mk v) := by
  rw [e, Tr.run_eq, h hc]
  rfl

theorem fun_toldW {ow : Bool} {ρ : Type} {a0 : Arg} {xs : List Arg} {t : Tr ρ} {mk : ρ → Res} {c : Bool} {v : ρ}
    (e : runFW ow T F D live f lo a0 xs = t.run fun p => some (mk p)) (h : c = true → t.val = some v) (hc : c = true) : runFW ow T F D live f lo a0 xs = some (mk v) := by
  rw [e, Tr.run_eq, h hc]
  rfl

def Told.map {α β : Type} (g : α → β) : Told α → Told β
  | .leaf c a => .leaf c (g a)
  | .br c t e => .br c (t.map g) (e.map g)
theorem Told.map_val {α β : Type} (g : α → β) : ∀ t : Told α, (t.map g).val = t.val.map g
  | .leaf c a => by cases c <;> rfl
  | .br c t e => by
    cases c with
    | true => exact t.map_val g
    | false => exact e.map_val g

def goOn {σ ω ρ : Type} (again : σ → Option ρ) (out : ω → Option ρ) : σ ⊕ ω → Option ρ
  | .inl s => again s
  | .inr w => out w

def loopN {σ ω : Type} (step : σ → Tr (σ ⊕ ω)) : Nat → σ → Option ω
  | 0, _ => .none
  | n + 1, s => (step s).run (goOn (loopN step n) some)

theorem loopN_rounds {σ ω : Type} {j r : Nat} {sl : σ → List Slot} {step : σ → Tr (σ ⊕ ω)} {out : ω → Ex × List Slot}
    (e : ∀ s n, rounds (rnd T F D live f lo j r) leave (n + 1) (sl s) = (step s).run (goOn (fun s' => rounds (rnd T F D live f lo j r) leave n (sl s')) fun w => some (out w))) :
    ∀ n s w, loopN step n s = some w → rounds (rnd T F D live f lo j r) leave n (sl s) = some (out w)
  | 0, s, w, h => by cases h
  | n + 1, s, w, h => by
    rw [e]
    unfold loopN at h
    rw [Tr.run_eq] at h ⊢
    obtain ⟨o, h1, h2⟩ := Option.bind_eq_some_iff.1 h
    rw [h1]
    cases o with
    | inl s' => exact loopN_rounds e n s' w h2
    | inr w' =>
      simp only [goOn, Option.some.injEq] at h2
      subst h2
      rfl

theorem loop_told {σ ω : Type} {j r : Nat} {sl : σ → List Slot} {step : σ → Tr (σ ⊕ ω)} {out : ω → Ex × List Slot} {lor : List Slot → Option (Told (Ex × List Slot))} {fin : σ → Told ω}
    (hlo : ∀ s, lo r s = lor s) (hl : ∀ s t, lor s = some t → ∃ x, s = sl x ∧ t = (fin x).map out)
    (e : ∀ s n, rounds (rnd T F D live f lo j r) leave (n + 1) (sl s) = (step s).run (goOn (fun s' => rounds (rnd T F D live f lo j r) leave n (sl s')) fun w => some (out w)))
    (hfin : ∀ x w, (fin x).val = some w → ∃ n, loopN step n x = some w) : LoopIs T F D live f lo j r := by
  intro s t res hs hv
  rw [hlo] at hs
  obtain ⟨x, rfl, rfl⟩ := hl s t hs
  rw [Told.map_val] at hv
  obtain ⟨w, hw, rfl⟩ := Option.map_eq_some_iff.1 hv
  obtain ⟨n, hn⟩ := hfin x w hw
  exact ⟨n, loopN_rounds e n x w hn⟩
end

abbrev Dt := FuncId → List Arg → Option (Bool × Res)
def D0 : Dt := fun _ _ => .none
theorem d00 {P : Program} {T : Tab} (h : MethOk P T) : DOk P T D0 := .nil h

def also (D : Dt) (f : FuncId) (S : List Arg → Option (Bool × Res)) : Dt := fun g xs => bif Nat.beq g f && !isMark xs then (match S xs with | some p => some p | .none => D g xs) else D g xs
def alsoW (D : Dt) (f : FuncId) (S : List Arg → Option (Bool × Res)) : Dt := fun g xs => bif Nat.beq g f && isMark xs then (match S xs.tail with | some p => some p | .none => D g xs) else D g xs

theorem DOk.also2 {P : Program} {T : Tab} {D D' : Dt} {live : FuncId → Nat → Live × Live} (hm : P.follows .mixedOrders = true) (hT : TabOk P T) (hN : NamesOk P) (hD : DOk P T D) (hD' : DOk P T D') {f : FuncId} {lo : LoopTeller} (hlo : FnLoops T (fun f => P.funcs[f]?) D' live f lo) {S : List Arg → Option (Bool × Res)}
    (he : ∀ xs r, S xs = some (true, r) → runF T (fun f => P.funcs[f]?) D' live f lo xs = some r) : DOk P T (V.also D f S) := by
  have hx := DOk.ext hm hT hN hD hD' hlo he
  refine ⟨fun g xs r hr => ?_, fun g a0 as gg ds r hr => hD.wri g a0 as gg ds r ?_, hD.meth⟩
  · unfold V.also at hr
    cases hg : (Nat.beq g f && !isMark xs) with
    | false => rw [hg] at hr; exact hD.plain g xs r hr
    | true =>
      rw [hg] at hr
      simp only [cond_true] at hr
      cases hS : S xs with
      | none => rw [hS] at hr; exact hD.plain g xs r hr
      | some p =>
        rw [hS] at hr
        refine hx.plain g xs r ?_
        unfold V.ext
        rw [hg]
        exact hS.trans hr
  · unfold V.also at hr
    have : (Nat.beq g f && !isMark (mark :: a0 :: as)) = false := by rw [show isMark (mark :: a0 :: as) = true from rfl]; simp
    rw [this] at hr
    exact hr
theorem DOk.also {P : Program} {T : Tab} {D : Dt} {live : FuncId → Nat → Live × Live} (hm : P.follows .mixedOrders = true) (hT : TabOk P T) (hN : NamesOk P) (hD : DOk P T D) {f : FuncId} {lo : LoopTeller} (hlo : FnLoops T (fun f => P.funcs[f]?) D live f lo) {S : List Arg → Option (Bool × Res)}
    (he : ∀ xs r, S xs = some (true, r) → runF T (fun f => P.funcs[f]?) D live f lo xs = some r) : DOk P T (V.also D f S) := DOk.also2 hm hT hN hD hD hlo he
theorem DOk.alsoW2 {ow : Bool} {P : Program} {T : Tab} {D D' : Dt} {live : FuncId → Nat → Live × Live} (hm : P.follows .mixedOrders = true) (hT : TabOk P T) (hN : NamesOk P) (hD : DOk P T D) (hD' : DOk P T D') {f : FuncId} {lo : LoopTeller} (hlo : FnLoops T (fun f => P.funcs[f]?) D' live f lo) {S : List Arg → Option (Bool × Res)}
    (he : ∀ a0 xs r, S (a0 :: xs) = some (true, r) → runFW ow T (fun f => P.funcs[f]?) D' live f lo a0 xs = some r) : DOk P T (V.alsoW D f S) := by
  have hx := DOk.extW hm hT hN hD hD' hlo he
  refine ⟨fun g xs r hr => ?_, fun g a0 as gg ds r hr => ?_, hD.meth⟩
  · unfold V.alsoW at hr
    cases hg : (Nat.beq g f && isMark xs) with
    | false => rw [hg] at hr; exact hD.plain g xs r hr
    | true =>
      rw [Bool.and_eq_true] at hg
      exact fun w S' vals hS hargs => (hargs.notMark hg.2).elim
  · unfold V.alsoW at hr
    cases hg : (Nat.beq g f && isMark (mark :: a0 :: as)) with
    | false => rw [hg] at hr; exact hD.wri g a0 as gg ds r hr
    | true =>
      rw [hg] at hr
      have hr : (match S (a0 :: as) with | some p => some p | .none => D g (mark :: a0 :: as)) = some (true, (gg, ds) :: r) := hr
      cases hS : S (a0 :: as) with
      | none => rw [hS] at hr; exact hD.wri g a0 as gg ds r hr
      | some p =>
        rw [hS] at hr
        refine hx.wri g a0 as gg ds r ?_
        unfold V.extW
        rw [hg]
        exact hS.trans hr
theorem DOk.alsoW {ow : Bool} {P : Program} {T : Tab} {D : Dt} {live : FuncId → Nat → Live × Live} (hm : P.follows .mixedOrders = true) (hT : TabOk P T) (hN : NamesOk P) (hD : DOk P T D) {f : FuncId} {lo : LoopTeller} (hlo : FnLoops T (fun f => P.funcs[f]?) D live f lo) {S : List Arg → Option (Bool × Res)}
    (he : ∀ a0 xs r, S (a0 :: xs) = some (true, r) → runFW ow T (fun f => P.funcs[f]?) D live f lo a0 xs = some r) : DOk P T (V.alsoW D f S) := DOk.alsoW2 hm hT hN hD hD hlo he

theorem loopN_next {σ ω : Type} {step : σ → Tr (σ ⊕ ω)} {s s' : σ} {n : Nat} (h : (step s).val = some (.inl s')) : loopN step (n + 1) s = loopN step n s' := by
  show (step s).run (goOn (loopN step n) some) = _
  rw [Tr.run_eq, h]; rfl
theorem loopN_end {σ ω : Type} {step : σ → Tr (σ ⊕ ω)} {s : σ} {w : ω} {n : Nat} (h : (step s).val = some (.inr w)) : loopN step (n + 1) s = some w := by
  show (step s).run (goOn (loopN step n) some) = _
  rw [Tr.run_eq, h]; rfl

theorem loopN_copy {σ ω : Type} {step : σ → Tr (σ ⊕ ω)} (A X : List (List TC)) (g : List TC → List TC) (st : List (List TC) → Nat → σ) (w : ω) (hl : X.length = A.length)
    (hz : ∀ x, x ∈ X → ∀ i, i < A.length → x.length ≤ (g (A.getD i [])).length)
    (hs : ∀ (Y : List (List TC)) (i : Nat), i < A.length → Y.length = A.length → (step (st Y i)).val = some (.inl (st (Y.set i (splice (Y.getD i []) 0 (g (A.getD i [])))) (i + 1))))
    (hN : (step (st (A.map g) A.length)).val = some (.inr w)) : ∀ m i : Nat, i + m = A.length → loopN step (m + 1) (st (copied A X g i) i) = some w
  | 0, i, h => by
    have : i = A.length := by omega
    subst this
    have : copied A X g A.length = A.map g := by
      unfold copied
      rw [List.take_length, List.drop_eq_nil_of_le (by omega), List.append_nil]
    rw [this]
    exact loopN_end hN
  | m + 1, i, h => by
    have hi : i < A.length := by omega
    have hx : i < X.length := by omega
    have hm : ((A.take i).map g).length = i := by simp; omega
    have hg : (copied A X g i).getD i [] = X.getD i [] := by
      unfold copied
      rw [List.getD_eq_getElem?_getD, List.getElem?_append_right (by omega), hm, Nat.sub_self, List.getElem?_drop, Nat.add_zero, ← List.getD_eq_getElem?_getD]
    have hset : (copied A X g i).set i (g (A.getD i [])) = copied A X g (i + 1) := by
      unfold copied
      rw [List.set_append_right _ _ (by omega), hm, Nat.sub_self, List.drop_eq_getElem_cons hx, List.set_cons_zero]
      have ht : A.take (i + 1) = A.take i ++ [A.getD i []] := by
        rw [List.take_add_one, getD_at hi, List.getElem?_eq_getElem hi]; rfl
      rw [ht, List.map_append, List.append_assoc]
      rfl
    have h1 := hs (copied A X g i) i hi (by simp [copied]; omega)
    rw [hg, splice_whole (hz _ (by rw [getD_at hx]; exact List.getElem_mem _) i hi), hset] at h1
    rw [loopN_next h1]
    exact loopN_copy A X g st w hl hz hs hN m (i + 1) (by omega)
theorem copied_zero (A X : List (List TC)) (g : List TC → List TC) : copied A X g 0 = X := by
  unfold copied
  rw [List.take_zero, List.map_nil, List.nil_append, List.drop_zero]

end Go.Proofs.Ytabdjbkbfilhkaa.V
