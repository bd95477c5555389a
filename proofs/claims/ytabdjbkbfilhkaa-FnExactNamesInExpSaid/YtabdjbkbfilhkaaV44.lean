-- V44.lean: strings.Split, by what is known of its calls; the facts of a table that names a variable. Own work.
import Derived.Test.YtabdjbkbfilhkaaV43
import Derived.Shelf.Strings.Split
import Derived.Shelf.Vars
namespace Go.Proofs.Ytabdjbkbfilhkaa.V
open Go Go.RowKit Go.Shelf Go.Proofs

section
variable {P : Program} {T : Tab} {ρ : Ren} {w : World} {S : Nat → Prop}
end

theorem Tr.yk {ρ : Type} {c : Prop} {d : Decidable c} {v : ρ} {b : Tr ρ} (h' : ¬c → b.val = some v) : (Tr.br c d (.ok v) b).val = some v := by
  rw [Tr.val_br]
  split
  · rfl
  · rename_i h; exact h' h

theorem methOk_none2 {P : Program} {l : List TyR} {m : List (Nat × Nat)} (hl : l.all (fun r => !r.kind.isBld) = true) (hm : m.all (fun p => Nat.beq p.2 0 || Nat.ble 4 p.2) = true) : MethOk P (mkTab l m) := by
  have hb : ∀ t e, (mkTab l m t).kind ≠ .bld e := by
    intro t e h
    have h2 : (mkTab l m t).kind.isBld = true := by rw [h]; rfl
    unfold mkTab at h2
    cases hb : Nat.blt t fnBase with
    | true =>
      rw [hb] at h2
      dsimp only [cond_true] at h2
      rw [List.all_eq_true] at hl
      rcases Nat.lt_or_ge t l.length with hlt | hge
      · rw [List.getD_eq_getElem?_getD, List.getElem?_eq_getElem hlt] at h2
        have := hl _ (List.getElem_mem hlt)
        rw [show (some l[t]).getD ⟨.other, [], 0, false⟩ = l[t] from rfl] at h2
        rw [h2] at this
        cases this
      · rw [List.getD_eq_getElem?_getD, List.getElem?_eq_none hge] at h2
        cases h2
    | false =>
      rw [hb] at h2
      dsimp only [cond_false] at h2
      rw [methT_other.2] at h2
      cases h2
  have hk : ∀ g k, (mkTab l m (fnBase + g)).kind = .meth k → k = 0 ∨ 4 ≤ k := fun g k h => by
    have := mkTab_meth h
    rw [List.all_eq_true] at hm
    have := hm _ this
    rcases Bool.or_eq_true_iff.1 this with h | h
    · exact .inl (Nat.eq_of_beq_eq_true h)
    · exact .inr (Nat.le_of_ble_eq_true h)
  refine ⟨fun t e h => absurd h (hb t e), fun g t e w b l s fp hg h => ?_, fun g t e w b l fp hg h => ?_, fun g t e w b l fp hg h => ?_⟩ <;>
  · rcases hk _ _ hg with h | h <;> omega

end Go.Proofs.Ytabdjbkbfilhkaa.V
