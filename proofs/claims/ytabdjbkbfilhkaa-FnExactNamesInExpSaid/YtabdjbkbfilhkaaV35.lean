import Derived.Test.YtabdjbkbfilhkaaV34
import Derived.Laws.BitsLemmas
import Derived.Lib.EndianBits
namespace Go.Proofs.Ytabdjbkbfilhkaa.V
open Go

def bits (k : IntKind) (f : BitVec k.bits → BitVec k.bits → BitVec k.bits) (x y : Int) : Int := k.wrap (f (BitVec.ofInt k.bits x) (BitVec.ofInt k.bits y)).toNat

def onR {α ω : Type} (Q : ω → Prop) : α ⊕ ω → Prop
  | .inl _ => True
  | .inr w => Q w
theorem onR_bif {α ω : Type} {Q : ω → Prop} {c : Bool} {x y : α ⊕ ω} (h : onR Q x) (h' : onR Q y) : onR Q (bif c then x else y) := by cases c; exact h'; exact h
theorem iter_onR {α ω : Type} {f : Nat → α → α ⊕ ω} {fin : α → ω} {Q : ω → Prop} (hf : ∀ i a, onR Q (f i a)) (hn : ∀ a, Q (fin a)) : ∀ (m i : Nat) (a : α), Q (iter f fin m i a)
  | 0, _, a => hn a
  | m + 1, i, a => by
    unfold iter
    have h := hf i a
    revert h
    cases f i a with
    | inl a' => exact fun _ => iter_onR hf hn m (i + 1) a'
    | inr w => exact fun h => h
def endsAs {α β : Type} (x : α) (y : β) : α ⊕ β → Prop
  | .inl a => a = x
  | .inr b => b = y
theorem auto_const {α β : Type} {σ : Type} {step : σ → Tr (σ ⊕ (α ⊕ β))} {s : σ} {R : α ⊕ β} {k c c' : Bool} {x : α} {y : β} {ow : α ⊕ β} (hk : k = sumIs R) (hq : endsAs x y R)
    (he : (c = true ∨ c' = true) → ∃ N, loopN step N s = some R) (h : (Told.br k (.leaf c (.inl x)) (.leaf c' (.inr y))).val = some ow) : ∃ fuel, loopN step fuel s = some ow := by
  simp only [Told.val] at h
  cases R with
  | inl a =>
    have hq : a = x := hq
    subst hq
    rw [hk] at h
    simp only [sumIs, if_true] at h
    split at h
    · rename_i hc
      obtain ⟨N, hw⟩ := he (.inl hc)
      exact ⟨N, hw.trans h⟩
    · cases h
  | inr b =>
    have hq : b = y := hq
    subst hq
    rw [hk] at h
    simp only [sumIs, Bool.false_eq_true, if_false] at h
    split at h
    · rename_i hc
      obtain ⟨N, hw⟩ := he (.inr hc)
      exact ⟨N, hw.trans h⟩
    · cases h
noncomputable def hid {α : Type} (x : α) : α := Classical.choose (⟨x, rfl⟩ : ∃ y, y = x)
theorem hid_eq {α : Type} (x : α) : hid x = x := Classical.choose_spec (⟨x, rfl⟩ : ∃ y, y = x)

end Go.Proofs.Ytabdjbkbfilhkaa.V
