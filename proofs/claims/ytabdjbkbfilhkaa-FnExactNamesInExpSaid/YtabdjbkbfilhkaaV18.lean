import Derived.Test.YtabdjbkbfilhkaaV17
namespace Go.Proofs.Ytabdjbkbfilhkaa.V
open Go Go.RowKit

section
variable {P : Program} {T : Tab} {G : Nat → Prop} {base : Bs} {nt : Nat} {σ : St} {a : Act} {w w' : World} {D : FuncId → List Arg → Option (Bool × Res)} {K : Act → World → Prop} {Q : Exit → Act → World → Prop} {o : Oper}

/-! ### What a loop keeps -/
theorem unpack_pack (L : Live) (σ : St) (n : Nat) : unpack L (pack L σ) n = Slot.none ∨ ∃ h, unpack L (pack L σ) n = cleanSlot (fun m => (σ m).v) h (σ n) := by
  induction L with
  | nil => exact .inl rfl
  | cons p L ih =>
    obtain ⟨m, h⟩ := p
    show ((unpack L (pack L σ)).set m (cleanSlot (fun m => (σ m).v) h (σ m))) n = Slot.none ∨ _
    by_cases e : n = m
    · subst e; exact .inr ⟨h, by show ((unpack L (pack L σ)).set n (cleanSlot (fun m => (σ m).v) h (σ n))) n = _; rw [St.set_at]⟩
    · have e1 : ((unpack L (pack L σ)).set m (cleanSlot (fun m => (σ m).v) h (σ m))) n = unpack L (pack L σ) n := St.set_ne _ _ e
      have e2 : unpack ((m, h) :: L) (pack ((m, h) :: L) σ) n = unpack L (pack L σ) n := e1
      rw [e1, e2]
      exact ih

theorem clean_slot {us : Nat → List Value} {blk : Nat → Nat} {fp : Nat → List Nat} {S : Nat → Prop} {vers vers' : Nat → Ver} {n : Nat} {u : Value} (h : Hint) {s : Slot} (hv : ∀ m, vers' m = ⟨0, 0⟩) (hs : SlotRel T w S vers us blk n u (fp n) s.sv) :
    SlotRel T w S vers' us blk n u (fp n) (cleanSlot vers h s).sv ∧ ((cleanSlot vers h s).sv ≠ .dead → s.sv ≠ .dead) := by
  have dead : ∀ {sv : SV}, SlotRel T w S vers us blk n u (fp n) sv → SlotRel T w S vers' us blk n u (fp n) .dead := fun h => h.lt
  unfold cleanSlot
  split
  · rename_i g hh off k v hsv
    rw [hsv] at hs
    split
    · rename_i hvv
      obtain ⟨h1, h2, h3, h4⟩ := hs
      exact ⟨⟨h1, by rw [hv]; exact Or.inr ⟨rfl, Nat.le_refl _⟩, h3, fun _ => h4 hvv⟩, fun _ => by rw [hsv]; exact SV.noConfusion⟩
    · exact ⟨dead hs, fun h => absurd rfl h⟩
  · rename_i e c hsv
    rw [hsv] at hs
    split
    · exact ⟨dead hs, fun h => absurd rfl h⟩
    · rename_i hg
      split
      · rename_i d hf
        obtain ⟨h1, h2, h3⟩ := hs
        refine ⟨⟨h1, ?_, fun _ => rfl⟩, fun _ => by rw [hsv]; exact SV.noConfusion⟩
        generalize us n = un at h2
        generalize fp n = fn at h2
        cases h2 with
        | cons k1 k2 => exact .cons (fit_rel k1 (by simpa using hg) hf).1 k2
      · exact ⟨dead hs, fun h => absurd rfl h⟩
  · rename_i g cs hsv hsv'
    rw [hsv'] at hs
    exact ⟨hs, fun _ => by rw [hsv']; exact SV.noConfusion⟩
  · rename_i e cs hsv hsv'
    rw [hsv'] at hs
    exact ⟨hs, fun _ => by rw [hsv']; exact SV.noConfusion⟩
  · rename_i vs hsv hsv'
    rw [hsv'] at hs
    exact ⟨hs, fun _ => by rw [hsv']; exact SV.noConfusion⟩
  · rename_i f hsv hsv'
    rw [hsv'] at hs
    obtain ⟨h1, h2, h3⟩ := hs
    exact ⟨⟨h1, (fun _ h => by cases h), fun _ => h3 (fun _ h => by cases h)⟩, fun _ => by rw [hsv']; exact SV.noConfusion⟩
  · rename_i hsv hsv'
    rw [hsv'] at hs
    exact ⟨hs, fun _ => by rw [hsv']; exact SV.noConfusion⟩
  · rename_i hsv hsv'
    rw [hsv'] at hs
    exact ⟨hs, fun _ => by rw [hsv']; exact SV.noConfusion⟩
  · rename_i hsv hsv'
    rw [hsv'] at hs
    exact ⟨hs, fun _ => by rw [hsv']; exact SV.noConfusion⟩
  · rename_i hsv hsv'
    rw [hsv'] at hs
    exact ⟨hs, fun _ => by rw [hsv']; exact SV.noConfusion⟩
  · exact ⟨dead hs, fun h => absurd rfl h⟩

theorem clean_ghost (vs : Nat → Ver) (h : Hint) {s : Slot} (hs : s.sv.ghost = true) : (cleanSlot vs h s).sv.ghost = true := by
  unfold cleanSlot
  split
  · rename_i hsv; rw [hsv] at hs; cases hs
  · rename_i hsv; rw [hsv] at hs; cases hs
  · rename_i hsv; rw [hsv] at hs; cases hs
  · rename_i hsv; rw [hsv] at hs; cases hs
  · rename_i hsv; rw [hsv] at hs; cases hs
  · rename_i hsv; rw [hsv] at hs; cases hs
  · rfl
  · rename_i hsv; rw [hsv] at hs; cases hs
  · rename_i hsv; rw [hsv] at hs; cases hs
  · rename_i hsv; rw [hsv] at hs; cases hs
  · rfl

theorem clean_ver (vs : Nat → Ver) (h : Hint) (s : Slot) : (cleanSlot vs h s).v = ⟨0, 0⟩ := by
  unfold cleanSlot
  split
  · split <;> rfl
  · split
    · rfl
    · split <;> rfl
  all_goals rfl
theorem unpack_ver (L : Live) (σ : St) (n : Nat) : (unpack L (pack L σ) n).v = ⟨0, 0⟩ := by
  rcases unpack_pack L σ n with h | ⟨hh, h⟩
  · rw [h]; rfl
  · rw [h]; exact clean_ver _ _ _
theorem clean_rel (L : Live) (h : Rel T G base nt σ a w) : Rel T G base nt (unpack L (pack L σ)) a w := by
  obtain ⟨fp, us, blk, hF⟩ := h
  refine ⟨fp, us, blk, fun n => ?_, hF.disj, hF.dF, hF.nodup, fun n b hsv hb => hF.lo n b ?_ hb, hF.low, hF.loF, hF.ltF, hF.ndF, hF.top, hF.gus, ?_, hF.gnt, hF.size, hF.defers, hF.off, hF.int⟩
  · rcases unpack_pack L σ n with h | ⟨hh, h⟩
    · rw [h]; exact (hF.slot n).lt
    · rw [h]; exact (clean_slot hh (unpack_ver L σ) (hF.slot n)).1
  · rcases hsv with hsv | hsv
    · rcases unpack_pack L σ n with h | ⟨hh, h⟩
      · rw [h] at hsv; exact absurd rfl hsv
      · rw [h] at hsv; exact .inl ((clean_slot (fp := fp) (vers' := fun _ => ⟨0, 0⟩) hh (fun _ => rfl) (hF.slot n)).2 hsv)
    · exact .inr hsv
  · rcases unpack_pack L σ gh with h | ⟨hh, h⟩
    · rw [h]; rfl
    · rw [h]; exact clean_ghost _ hh hF.gsv

theorem cond_sound {x : Operand} {p : Bool} (h : Rel T G base nt σ a w) (he : condOf σ x = some p) : a.eval x = .bool p := by
  obtain ⟨fp, us, blk, hF⟩ := h
  unfold condOf at he
  split at he
  · simp only [Option.some.injEq] at he
    subst he
    rfl
  · rename_i t
    split at he
    · rename_i c hsv
      split at he
      · rename_i hc
        obtain ⟨hct, hg⟩ := hc
        simp only [Option.some.injEq] at he
        subst he
        have hs := hF.slot t
        rw [hsv] at hs
        obtain ⟨hu, hcr, _⟩ := hs
        obtain ⟨u1, hu1, hm⟩ := mkv_false_one (us := us t) (by rw [hcr.length]; rfl)
        rw [hu1] at hcr
        generalize fp t = ft at hcr
        cases hcr with
        | cons h3 h4 =>
          have hr := h3.toRep (S' := fun _ => True) hg (fun _ _ => trivial) (fun _ _ => trivial)
          rw [hct] at hr
          rw [eval_tmp, hu, hm]
          exact rep_bool hr
      · cases he
    · cases he
  · cases he

theorem least (p : Nat → Prop) (h : ∃ n, p n) : ∃ n, p n ∧ ∀ m, p m → n ≤ m := by
  obtain ⟨n, hn⟩ := h
  induction n using Nat.strongRecOn with
  | ind n ih =>
    by_cases h : ∃ m, m < n ∧ p m
    · obtain ⟨m, h1, h2⟩ := h
      exact ih m h1 h2
    · exact ⟨n, hn, fun m hm => by
        rcases Nat.lt_or_ge m n with hlt | hge
        · exact absurd ⟨m, hlt, hm⟩ h
        · exact hge⟩

theorem wp_loop_n {c : Code} (I : Nat → Act → World → Prop) {n : Nat} (h0 : I n a w) (round : ∀ n a w, I n a w → c.wp P (Exit.then (fun a' w' => ∃ m, m < n ∧ I m a' w') Q) a w) : (Code.loop c).wp P Q a w := by
  classical
  let μ : Act → World → Nat := fun a w => if h : ∃ n, I n a w then Classical.choose (least _ h) else 0
  have hμ : ∀ a w n, I n a w → I (μ a w) a w ∧ μ a w ≤ n := by
    intro a w n h
    have hx : ∃ n, I n a w := ⟨n, h⟩
    have hs := Classical.choose_spec (least _ hx)
    have e : μ a w = Classical.choose (least _ hx) := by simp only [μ, dif_pos hx]
    rw [e]
    exact ⟨hs.1, hs.2 n h⟩
  refine wp_loop (I := fun a w => ∃ n, I n a w) μ ⟨n, h0⟩ fun a w hI => ?_
  obtain ⟨n, hn⟩ := hI
  refine wp_mono (round (μ a w) a w (hμ a w n hn).1) fun e a' w' hq => ?_
  cases e with
  | normal =>
    obtain ⟨m, hm, hI⟩ := hq
    exact ⟨⟨m, hI⟩, Nat.lt_of_le_of_lt (hμ a' w' m hI).2 hm⟩
  | _ => exact hq

def exitOf : Ex → Exit
  | .normal => .normal
  | .exit id => .exit id
  | .ret => .ret

end

end Go.Proofs.Ytabdjbkbfilhkaa.V
