/- What the functions of FnExactSameVirtual answer. No condition. -/
import Derived.Test.YtghbndlkekaipaaVFnExactSameVirtualP2
namespace Go.Proofs.Ytghbndlkekaipaa.V
open Go
set_option maxRecDepth 100000
set_option linter.unusedVariables false
set_option linter.unusedSectionVars false
set_option linter.unusedSimpArgs false
set_option maxHeartbeats 2000000
section
variable [i_laws_szType : laws_szType_O]
variable [g_laws_szType : laws_szType_G]
section
variable [i_laws_toType : laws_toType_O]
variable [g_laws_toType : laws_toType_G]
section
variable [i_spec_SameType : spec_SameType_O]
variable [g_spec_SameType : spec_SameType_G]
section
variable [i_impl_SameType : impl_SameType_O]
variable [g_impl_SameType : impl_SameType_G]
theorem slices_EqualFunc_impl_Member_impl_Member_impl_Member_impl_Member_4_h (C : List (List TC)) (A : List (List TC)) (m : Int) (i : Int) (ow : slices_EqualFunc_impl_Member_impl_Member_impl_Member_impl_Member_4_ω) : ((slices_EqualFunc_impl_Member_impl_Member_impl_Member_impl_Member_4_fin C A m i)).val = some ow → ∃ fuel, loopN slices_EqualFunc_impl_Member_impl_Member_impl_Member_impl_Member_4_st fuel (C, A, m, i) = some ow := by
  intro h
  have key : A.length = C.length → Typed tab (.slice 147) (.l A) → (∀ x y : List TC, x ∈ A → y ∈ C → impl_sameMember_c ((nth x 0).str) ((nth x 1).int) ((nth x 2).int) ((nth x 3).int) ((nth x 4).bool) ((nth x 5).bool) ((nth x 6).list) ((nth x 7).list) ((nth x 8).list) ((nth x 9).list) ((nth x 10).int) ((nth y 0).str) ((nth y 1).int) ((nth y 2).int) ((nth y 3).int) ((nth y 4).bool) ((nth y 5).bool) ((nth y 6).list) ((nth y 7).list) ((nth y 8).list) ((nth y 9).list) ((nth y 10).int) = true) → loopN slices_EqualFunc_impl_Member_impl_Member_impl_Member_impl_Member_4_st (A.length + 1) (C, A, (A.length : Int), 0) = some (if allEq slices_EqualFunc_impl_Member_impl_Member_impl_Member_impl_Member_E A C = true then .inr () else .inl ()) := by
    intro hl ht hr
    have hlen : A.length ≤ 140737488351232 := by have := typed_room ht; simp only [show (tab 147).bytes = 152 from rfl] at this; omega
    refine loopN_allEq A C slices_EqualFunc_impl_Member_impl_Member_impl_Member_impl_Member_E (fun i => (C, A, (A.length : Int), (i : Int))) _ _ hl (fun i hi => ?_) ?_ A.length 0 (by omega)
    · show (slices_EqualFunc_impl_Member_impl_Member_impl_Member_impl_Member_4_step C A (A.length : Int) (i : Int)).val = _
      unfold slices_EqualFunc_impl_Member_impl_Member_impl_Member_impl_Member_4_step
      refine Tr.t (by simp; omega) ?_
      refine Tr.t (by constructor <;> omega) ?_
      refine Tr.t (by constructor <;> omega) ?_
      refine Tr.t (hr _ _ (mem_getD hi) (mem_getD (by omega))) ?_
      rw [wrap64 (i := (i : Int) + 1) (by omega) (by omega)]
      rw [Tr.val_br]
      show (if (!(slices_EqualFunc_impl_Member_impl_Member_impl_Member_impl_Member_E (A.getD i []) (C.getD i []))) = true then _ else _) = _
      cases slices_EqualFunc_impl_Member_impl_Member_impl_Member_impl_Member_E (A.getD i []) (C.getD i []) <;> rfl
    · show (slices_EqualFunc_impl_Member_impl_Member_impl_Member_impl_Member_4_step C A (A.length : Int) (A.length : Int)).val = _
      refine Tr.n (by simp) ?_
      rfl
  simp only [slices_EqualFunc_impl_Member_impl_Member_impl_Member_impl_Member_4_fin, Told.val] at h
  cases hk : allEq slices_EqualFunc_impl_Member_impl_Member_impl_Member_impl_Member_E A C with
  | true =>
    rw [if_pos (show slices_EqualFunc_impl_Member_impl_Member_impl_Member_impl_Member_k4_1 C A m i = true from hk)] at h
    split at h
    · rename_i ho
      obtain ⟨hl, rfl, ht, rfl, hr⟩ := is_iff.1 ho
      cases h
      refine ⟨_, (key hl ht hr).trans ?_⟩
      rw [hk]; rfl
    · cases h
  | false =>
    rw [if_neg (show ¬slices_EqualFunc_impl_Member_impl_Member_impl_Member_impl_Member_k4_1 C A m i = true from by rw [show slices_EqualFunc_impl_Member_impl_Member_impl_Member_impl_Member_k4_1 C A m i = allEq slices_EqualFunc_impl_Member_impl_Member_impl_Member_impl_Member_E A C from rfl, hk]; simp)] at h
    split at h
    · rename_i ho
      obtain ⟨hl, rfl, ht, rfl, hr⟩ := is_iff.1 ho
      cases h
      refine ⟨_, (key hl ht hr).trans ?_⟩
      rw [hk]; rfl
    · cases h
theorem slices_EqualFunc_impl_Member_impl_Member_impl_Member_impl_Member_is4 : LoopIs tab FT D35 live 103 slices_EqualFunc_impl_Member_impl_Member_impl_Member_impl_Member_lo 0 4 := by
  refine loop_told (sl := slices_EqualFunc_impl_Member_impl_Member_impl_Member_impl_Member_4_sl) (step := slices_EqualFunc_impl_Member_impl_Member_impl_Member_impl_Member_4_st) (out := slices_EqualFunc_impl_Member_impl_Member_impl_Member_impl_Member_4_out) (lor := slices_EqualFunc_impl_Member_impl_Member_impl_Member_impl_Member_lo4) (fin := fun x => (slices_EqualFunc_impl_Member_impl_Member_impl_Member_impl_Member_4_fin (x.1) (x.2.1) (x.2.2.1) (x.2.2.2))) (fun _ => rfl) ?_ (fun x n => slices_EqualFunc_impl_Member_impl_Member_impl_Member_impl_Member_4_r x.1 x.2.1 x.2.2.1 x.2.2.2 n) (fun x ow => slices_EqualFunc_impl_Member_impl_Member_impl_Member_impl_Member_4_h x.1 x.2.1 x.2.2.1 x.2.2.2 ow)
  intro s t h
  unfold slices_EqualFunc_impl_Member_impl_Member_impl_Member_impl_Member_lo4 at h
  split at h
  · cases h; exact ⟨(_, _, _, _), rfl, rfl⟩
  · cases h
noncomputable def slices_EqualFunc_impl_Member_impl_Member_impl_Member_impl_Member_t (A : List (List TC)) (C : List (List TC)) : Tr (Bool) := (.ite ((!((A.length : Int) == (C.length : Int))) = true) (.ok false)
  (.ite ((slices_EqualFunc_impl_Member_impl_Member_impl_Member_impl_Member_k4_1 C A (A.length : Int) (0 : Int)) = true) (.ite ((slices_EqualFunc_impl_Member_impl_Member_impl_Member_impl_Member_o4_2 C A (A.length : Int) (0 : Int)) = true) (.ok true)
    .no)
   (.ite ((slices_EqualFunc_impl_Member_impl_Member_impl_Member_impl_Member_o4_3 C A (A.length : Int) (0 : Int)) = true) (.ok false)
    .no)))
def slices_EqualFunc_impl_Member_impl_Member_impl_Member_impl_Member_mk (p : Bool) : Res := [(false, [⟨.bool, .sh, TC.b p⟩])]
noncomputable def slices_EqualFunc_impl_Member_impl_Member_impl_Member_impl_Member_c (A : List (List TC)) (C : List (List TC)) : Bool := is (Typed tab (.slice 147) (.l A) ∧ (∀ x y : List TC, x ∈ A → y ∈ C → impl_sameMember_c ((nth x 0).str) ((nth x 1).int) ((nth x 2).int) ((nth x 3).int) ((nth x 4).bool) ((nth x 5).bool) ((nth x 6).list) ((nth x 7).list) ((nth x 8).list) ((nth x 9).list) ((nth x 10).int) ((nth y 0).str) ((nth y 1).int) ((nth y 2).int) ((nth y 3).int) ((nth y 4).bool) ((nth y 5).bool) ((nth y 6).list) ((nth y 7).list) ((nth y 8).list) ((nth y 9).list) ((nth y 10).int) = true))
noncomputable def slices_EqualFunc_impl_Member_impl_Member_impl_Member_impl_Member_v (A : List (List TC)) (C : List (List TC)) : Bool := allEq slices_EqualFunc_impl_Member_impl_Member_impl_Member_impl_Member_E A C
theorem slices_EqualFunc_impl_Member_impl_Member_impl_Member_impl_Member_l (A : List (List TC)) (C : List (List TC)) : (slices_EqualFunc_impl_Member_impl_Member_impl_Member_impl_Member_c A C) = true → (slices_EqualFunc_impl_Member_impl_Member_impl_Member_impl_Member_t A C).val = some (slices_EqualFunc_impl_Member_impl_Member_impl_Member_impl_Member_v A C) := by
  intro h
  obtain ⟨ht, hr⟩ := is_iff.1 h
  unfold slices_EqualFunc_impl_Member_impl_Member_impl_Member_impl_Member_t
  by_cases hl : A.length = C.length
  · refine Tr.n (by simp [hl]) ?_
    cases hk : allEq slices_EqualFunc_impl_Member_impl_Member_impl_Member_impl_Member_E A C with
    | true =>
      refine Tr.t (show allEq slices_EqualFunc_impl_Member_impl_Member_impl_Member_impl_Member_E A C = true from hk) ?_
      refine Tr.t (is_true ⟨hl, rfl, ht, rfl, hr⟩) ?_
      show _ = some (allEq slices_EqualFunc_impl_Member_impl_Member_impl_Member_impl_Member_E A C); rw [hk]; rfl
    | false =>
      refine Tr.n (show ¬allEq slices_EqualFunc_impl_Member_impl_Member_impl_Member_impl_Member_E A C = true from by rw [hk]; simp) ?_
      refine Tr.t (is_true ⟨hl, rfl, ht, rfl, hr⟩) ?_
      show _ = some (allEq slices_EqualFunc_impl_Member_impl_Member_impl_Member_impl_Member_E A C); rw [hk]; rfl
  · refine Tr.t (by simp; omega) ?_
    show _ = some (allEq slices_EqualFunc_impl_Member_impl_Member_impl_Member_impl_Member_E A C)
    rw [allEq_ne hl]; rfl
noncomputable def slices_EqualFunc_impl_Member_impl_Member_impl_Member_impl_Member_S : List Arg → Option (Bool × Res) := fun xs => match xs with
  | [(false, [(.slice 147, TC.l A)]), (false, [(.slice 147, TC.l C)]), (false, [(.func, TC.f 104 [])])] => some ((slices_EqualFunc_impl_Member_impl_Member_impl_Member_impl_Member_c A C), slices_EqualFunc_impl_Member_impl_Member_impl_Member_impl_Member_mk (slices_EqualFunc_impl_Member_impl_Member_impl_Member_impl_Member_v A C))
  | _ => .none
theorem slices_EqualFunc_impl_Member_impl_Member_impl_Member_impl_Member_e (A : List (List TC)) (C : List (List TC)) : runF tab FT D35 live 103 slices_EqualFunc_impl_Member_impl_Member_impl_Member_impl_Member_lo [(false, [(.slice 147, TC.l A)]), (false, [(.slice 147, TC.l C)]), (false, [(.func, TC.f 104 [])])] = (slices_EqualFunc_impl_Member_impl_Member_impl_Member_impl_Member_t A C).run fun p => some (slices_EqualFunc_impl_Member_impl_Member_impl_Member_impl_Member_mk p) := by kernel_rfl
theorem slices_EqualFunc_impl_Member_impl_Member_impl_Member_impl_Member_s : ∀ xs r, slices_EqualFunc_impl_Member_impl_Member_impl_Member_impl_Member_S xs = some (true, r) → runF tab FT D35 live 103 slices_EqualFunc_impl_Member_impl_Member_impl_Member_impl_Member_lo xs = some r := by
  intro xs r h
  unfold slices_EqualFunc_impl_Member_impl_Member_impl_Member_impl_Member_S at h
  split at h
  · simp only [Option.some.injEq, Prod.mk.injEq] at h
    obtain ⟨h1, rfl⟩ := h
    exact fun_told (slices_EqualFunc_impl_Member_impl_Member_impl_Member_impl_Member_e _ _) (slices_EqualFunc_impl_Member_impl_Member_impl_Member_impl_Member_l _ _) h1
  · cases h
noncomputable def D36 : Dt := also D35 103 slices_EqualFunc_impl_Member_impl_Member_impl_Member_impl_Member_S
theorem d36 : DOk Go.Proofs.Try.prog tab D36 := d35.also mixed_ok tab_ok names_ok (fnLoops_one (by kernel_rfl) slices_EqualFunc_impl_Member_impl_Member_impl_Member_impl_Member_is4) slices_EqualFunc_impl_Member_impl_Member_impl_Member_impl_Member_s
/-! slices_EqualFunc_impl_Type_impl_Type_impl_Type_impl_Type -/
noncomputable def slices_EqualFunc_impl_Type_impl_Type_impl_Type_impl_Type_E (x y : List TC) : Bool := impl_SameType_rv ((nth x 0).int) ((nth x 1).int) ((nth x 2).bool) ((nth x 3).bool) ((nth x 4).list) ((nth x 5).list) ((nth x 6).list) ((nth x 7).list) ((nth x 8).int) ((nth y 0).int) ((nth y 1).int) ((nth y 2).bool) ((nth y 3).bool) ((nth y 4).list) ((nth y 5).list) ((nth y 6).list) ((nth y 7).list) ((nth y 8).int)
abbrev slices_EqualFunc_impl_Type_impl_Type_impl_Type_impl_Type_4_σ := List (List TC) × List (List TC) × Int × Int
abbrev slices_EqualFunc_impl_Type_impl_Type_impl_Type_impl_Type_4_ω := (Unit) ⊕ (Unit)
noncomputable def slices_EqualFunc_impl_Type_impl_Type_impl_Type_impl_Type_4_step (C : List (List TC)) (A : List (List TC)) (m : Int) (i : Int) : Tr (slices_EqualFunc_impl_Type_impl_Type_impl_Type_impl_Type_4_σ ⊕ slices_EqualFunc_impl_Type_impl_Type_impl_Type_impl_Type_4_ω) := (.ite ((decide (i < m)) = true) (.ite ((0 : Int) ≤ i ∧ i < (A.length : Int)) (.ite ((0 : Int) ≤ i ∧ i < (C.length : Int)) (.ite ((impl_SameType_rc ((nth (row A i) 0).int) ((nth (row A i) 1).int) ((nth (row A i) 2).bool) ((nth (row A i) 3).bool) ((nth (row A i) 4).list) ((nth (row A i) 5).list) ((nth (row A i) 6).list) ((nth (row A i) 7).list) ((nth (row A i) 8).int) ((nth (row C i) 0).int) ((nth (row C i) 1).int) ((nth (row C i) 2).bool) ((nth (row C i) 3).bool) ((nth (row C i) 4).list) ((nth (row C i) 5).list) ((nth (row C i) 6).list) ((nth (row C i) 7).list) ((nth (row C i) 8).int)) = true) (.ite ((!(impl_SameType_rv ((nth (row A i) 0).int) ((nth (row A i) 1).int) ((nth (row A i) 2).bool) ((nth (row A i) 3).bool) ((nth (row A i) 4).list) ((nth (row A i) 5).list) ((nth (row A i) 6).list) ((nth (row A i) 7).list) ((nth (row A i) 8).int) ((nth (row C i) 0).int) ((nth (row C i) 1).int) ((nth (row C i) 2).bool) ((nth (row C i) 3).bool) ((nth (row C i) 4).list) ((nth (row C i) 5).list) ((nth (row C i) 6).list) ((nth (row C i) 7).list) ((nth (row C i) 8).int))) = true) (.ok (.inr (.inl ())))
      (.ok (.inl (C, A, m, (IntKind.wrap .i64 (i + (1 : Int)))))))
     .no)
    .no)
   .no)
  (.ok (.inr (.inr ()))))
noncomputable def slices_EqualFunc_impl_Type_impl_Type_impl_Type_impl_Type_4_st : slices_EqualFunc_impl_Type_impl_Type_impl_Type_impl_Type_4_σ → Tr (slices_EqualFunc_impl_Type_impl_Type_impl_Type_impl_Type_4_σ ⊕ slices_EqualFunc_impl_Type_impl_Type_impl_Type_impl_Type_4_ω) := fun x => (slices_EqualFunc_impl_Type_impl_Type_impl_Type_impl_Type_4_step (x.1) (x.2.1) (x.2.2.1) (x.2.2.2))
noncomputable def slices_EqualFunc_impl_Type_impl_Type_impl_Type_impl_Type_k4_1 (C : List (List TC)) (A : List (List TC)) (m : Int) (i : Int) : Bool := allEq slices_EqualFunc_impl_Type_impl_Type_impl_Type_impl_Type_E A C
noncomputable def slices_EqualFunc_impl_Type_impl_Type_impl_Type_impl_Type_o4_2 (C : List (List TC)) (A : List (List TC)) (m : Int) (i : Int) : Bool := is (A.length = C.length ∧ i = 0 ∧ Typed tab (.slice 55) (.l A) ∧ m = (A.length : Int) ∧ (∀ x y : List TC, x ∈ A → y ∈ C → impl_SameType_rc ((nth x 0).int) ((nth x 1).int) ((nth x 2).bool) ((nth x 3).bool) ((nth x 4).list) ((nth x 5).list) ((nth x 6).list) ((nth x 7).list) ((nth x 8).int) ((nth y 0).int) ((nth y 1).int) ((nth y 2).bool) ((nth y 3).bool) ((nth y 4).list) ((nth y 5).list) ((nth y 6).list) ((nth y 7).list) ((nth y 8).int) = true))
noncomputable def slices_EqualFunc_impl_Type_impl_Type_impl_Type_impl_Type_o4_3 (C : List (List TC)) (A : List (List TC)) (m : Int) (i : Int) : Bool := is (A.length = C.length ∧ i = 0 ∧ Typed tab (.slice 55) (.l A) ∧ m = (A.length : Int) ∧ (∀ x y : List TC, x ∈ A → y ∈ C → impl_SameType_rc ((nth x 0).int) ((nth x 1).int) ((nth x 2).bool) ((nth x 3).bool) ((nth x 4).list) ((nth x 5).list) ((nth x 6).list) ((nth x 7).list) ((nth x 8).int) ((nth y 0).int) ((nth y 1).int) ((nth y 2).bool) ((nth y 3).bool) ((nth y 4).list) ((nth y 5).list) ((nth y 6).list) ((nth y 7).list) ((nth y 8).int) = true))
noncomputable def slices_EqualFunc_impl_Type_impl_Type_impl_Type_impl_Type_4_fin (C : List (List TC)) (A : List (List TC)) (m : Int) (i : Int) : Told slices_EqualFunc_impl_Type_impl_Type_impl_Type_impl_Type_4_ω := (.br (slices_EqualFunc_impl_Type_impl_Type_impl_Type_impl_Type_k4_1 C A m i) (.leaf (slices_EqualFunc_impl_Type_impl_Type_impl_Type_impl_Type_o4_2 C A m i) (.inr ())) (.leaf (slices_EqualFunc_impl_Type_impl_Type_impl_Type_impl_Type_o4_3 C A m i) (.inl ())))
def slices_EqualFunc_impl_Type_impl_Type_impl_Type_impl_Type_4_sl (x : slices_EqualFunc_impl_Type_impl_Type_impl_Type_impl_Type_4_σ) : List Slot := [⟨.val false [⟨.slice 55, .sh, TC.l (x.1)⟩], ⟨0, 0⟩⟩, ⟨.val false [⟨.func, .sh, TC.f 72 []⟩], ⟨0, 0⟩⟩, ⟨.val false [⟨.slice 55, .sh, TC.l (x.2.1)⟩], ⟨0, 0⟩⟩, ⟨.val false [⟨.int .i64, .sh, TC.i (x.2.2.1)⟩], ⟨0, 0⟩⟩, ⟨.val false [⟨.int .i64, .sh, TC.i (x.2.2.2)⟩], ⟨0, 0⟩⟩]
def slices_EqualFunc_impl_Type_impl_Type_impl_Type_impl_Type_4_out : slices_EqualFunc_impl_Type_impl_Type_impl_Type_impl_Type_4_ω → Ex × List Slot := (Sum.elim (fun x => (.ret, [⟨.val false [⟨.bool, .sh, TC.b false⟩], ⟨0, 0⟩⟩])) (fun x => (.exit 0, [Slot.none])))
noncomputable def slices_EqualFunc_impl_Type_impl_Type_impl_Type_impl_Type_lo4 : List Slot → Option (Told (Ex × List Slot)) := fun s => match s with
  | [⟨.val false [⟨.slice 55, .sh, TC.l C⟩], ⟨0, 0⟩⟩, ⟨.val false [⟨.func, .sh, TC.f 72 []⟩], ⟨0, 0⟩⟩, ⟨.val false [⟨.slice 55, .sh, TC.l A⟩], ⟨0, 0⟩⟩, ⟨.val false [⟨.int .i64, .sh, TC.i m⟩], ⟨0, 0⟩⟩, ⟨.val false [⟨.int .i64, .sh, TC.i i⟩], ⟨0, 0⟩⟩] => some (((slices_EqualFunc_impl_Type_impl_Type_impl_Type_impl_Type_4_fin C A m i)).map slices_EqualFunc_impl_Type_impl_Type_impl_Type_impl_Type_4_out)
  | _ => .none
noncomputable def slices_EqualFunc_impl_Type_impl_Type_impl_Type_impl_Type_lo : LoopTeller := fun r s => bif Nat.beq r 4 then slices_EqualFunc_impl_Type_impl_Type_impl_Type_impl_Type_lo4 s else .none
theorem slices_EqualFunc_impl_Type_impl_Type_impl_Type_impl_Type_4_r (C : List (List TC)) (A : List (List TC)) (m : Int) (i : Int) (fuel : Nat) : rounds (rnd tab FT D36 live 105 slices_EqualFunc_impl_Type_impl_Type_impl_Type_impl_Type_lo 0 4) leave (fuel + 1) (slices_EqualFunc_impl_Type_impl_Type_impl_Type_impl_Type_4_sl (C, A, m, i)) = ((slices_EqualFunc_impl_Type_impl_Type_impl_Type_impl_Type_4_step C A m i)).run (goOn (fun s => rounds (rnd tab FT D36 live 105 slices_EqualFunc_impl_Type_impl_Type_impl_Type_impl_Type_lo 0 4) leave fuel (slices_EqualFunc_impl_Type_impl_Type_impl_Type_impl_Type_4_sl s)) fun w => some (slices_EqualFunc_impl_Type_impl_Type_impl_Type_impl_Type_4_out w)) := by kernel_rfl
theorem slices_EqualFunc_impl_Type_impl_Type_impl_Type_impl_Type_4_h (C : List (List TC)) (A : List (List TC)) (m : Int) (i : Int) (ow : slices_EqualFunc_impl_Type_impl_Type_impl_Type_impl_Type_4_ω) : ((slices_EqualFunc_impl_Type_impl_Type_impl_Type_impl_Type_4_fin C A m i)).val = some ow → ∃ fuel, loopN slices_EqualFunc_impl_Type_impl_Type_impl_Type_impl_Type_4_st fuel (C, A, m, i) = some ow := by
  intro h
  have key : A.length = C.length → Typed tab (.slice 55) (.l A) → (∀ x y : List TC, x ∈ A → y ∈ C → impl_SameType_rc ((nth x 0).int) ((nth x 1).int) ((nth x 2).bool) ((nth x 3).bool) ((nth x 4).list) ((nth x 5).list) ((nth x 6).list) ((nth x 7).list) ((nth x 8).int) ((nth y 0).int) ((nth y 1).int) ((nth y 2).bool) ((nth y 3).bool) ((nth y 4).list) ((nth y 5).list) ((nth y 6).list) ((nth y 7).list) ((nth y 8).int) = true) → loopN slices_EqualFunc_impl_Type_impl_Type_impl_Type_impl_Type_4_st (A.length + 1) (C, A, (A.length : Int), 0) = some (if allEq slices_EqualFunc_impl_Type_impl_Type_impl_Type_impl_Type_E A C = true then .inr () else .inl ()) := by
    intro hl ht hr
    have hlen : A.length ≤ 140737488351232 := by have := typed_room ht; simp only [show (tab 55).bytes = 128 from rfl] at this; omega
    refine loopN_allEq A C slices_EqualFunc_impl_Type_impl_Type_impl_Type_impl_Type_E (fun i => (C, A, (A.length : Int), (i : Int))) _ _ hl (fun i hi => ?_) ?_ A.length 0 (by omega)
    · show (slices_EqualFunc_impl_Type_impl_Type_impl_Type_impl_Type_4_step C A (A.length : Int) (i : Int)).val = _
      unfold slices_EqualFunc_impl_Type_impl_Type_impl_Type_impl_Type_4_step
      refine Tr.t (by simp; omega) ?_
      refine Tr.t (by constructor <;> omega) ?_
      refine Tr.t (by constructor <;> omega) ?_
      refine Tr.t (hr _ _ (mem_getD hi) (mem_getD (by omega))) ?_
      rw [wrap64 (i := (i : Int) + 1) (by omega) (by omega)]
      rw [Tr.val_br]
      show (if (!(slices_EqualFunc_impl_Type_impl_Type_impl_Type_impl_Type_E (A.getD i []) (C.getD i []))) = true then _ else _) = _
      cases slices_EqualFunc_impl_Type_impl_Type_impl_Type_impl_Type_E (A.getD i []) (C.getD i []) <;> rfl
    · show (slices_EqualFunc_impl_Type_impl_Type_impl_Type_impl_Type_4_step C A (A.length : Int) (A.length : Int)).val = _
      refine Tr.n (by simp) ?_
      rfl
  simp only [slices_EqualFunc_impl_Type_impl_Type_impl_Type_impl_Type_4_fin, Told.val] at h
  cases hk : allEq slices_EqualFunc_impl_Type_impl_Type_impl_Type_impl_Type_E A C with
  | true =>
    rw [if_pos (show slices_EqualFunc_impl_Type_impl_Type_impl_Type_impl_Type_k4_1 C A m i = true from hk)] at h
    split at h
    · rename_i ho
      obtain ⟨hl, rfl, ht, rfl, hr⟩ := is_iff.1 ho
      cases h
      refine ⟨_, (key hl ht hr).trans ?_⟩
      rw [hk]; rfl
    · cases h
  | false =>
    rw [if_neg (show ¬slices_EqualFunc_impl_Type_impl_Type_impl_Type_impl_Type_k4_1 C A m i = true from by rw [show slices_EqualFunc_impl_Type_impl_Type_impl_Type_impl_Type_k4_1 C A m i = allEq slices_EqualFunc_impl_Type_impl_Type_impl_Type_impl_Type_E A C from rfl, hk]; simp)] at h
    split at h
    · rename_i ho
      obtain ⟨hl, rfl, ht, rfl, hr⟩ := is_iff.1 ho
      cases h
      refine ⟨_, (key hl ht hr).trans ?_⟩
      rw [hk]; rfl
    · cases h
theorem slices_EqualFunc_impl_Type_impl_Type_impl_Type_impl_Type_is4 : LoopIs tab FT D36 live 105 slices_EqualFunc_impl_Type_impl_Type_impl_Type_impl_Type_lo 0 4 := by
  refine loop_told (sl := slices_EqualFunc_impl_Type_impl_Type_impl_Type_impl_Type_4_sl) (step := slices_EqualFunc_impl_Type_impl_Type_impl_Type_impl_Type_4_st) (out := slices_EqualFunc_impl_Type_impl_Type_impl_Type_impl_Type_4_out) (lor := slices_EqualFunc_impl_Type_impl_Type_impl_Type_impl_Type_lo4) (fin := fun x => (slices_EqualFunc_impl_Type_impl_Type_impl_Type_impl_Type_4_fin (x.1) (x.2.1) (x.2.2.1) (x.2.2.2))) (fun _ => rfl) ?_ (fun x n => slices_EqualFunc_impl_Type_impl_Type_impl_Type_impl_Type_4_r x.1 x.2.1 x.2.2.1 x.2.2.2 n) (fun x ow => slices_EqualFunc_impl_Type_impl_Type_impl_Type_impl_Type_4_h x.1 x.2.1 x.2.2.1 x.2.2.2 ow)
  intro s t h
  unfold slices_EqualFunc_impl_Type_impl_Type_impl_Type_impl_Type_lo4 at h
  split at h
  · cases h; exact ⟨(_, _, _, _), rfl, rfl⟩
  · cases h
noncomputable def slices_EqualFunc_impl_Type_impl_Type_impl_Type_impl_Type_t (A : List (List TC)) (C : List (List TC)) : Tr (Bool) := (.ite ((!((A.length : Int) == (C.length : Int))) = true) (.ok false)
  (.ite ((slices_EqualFunc_impl_Type_impl_Type_impl_Type_impl_Type_k4_1 C A (A.length : Int) (0 : Int)) = true) (.ite ((slices_EqualFunc_impl_Type_impl_Type_impl_Type_impl_Type_o4_2 C A (A.length : Int) (0 : Int)) = true) (.ok true)
    .no)
   (.ite ((slices_EqualFunc_impl_Type_impl_Type_impl_Type_impl_Type_o4_3 C A (A.length : Int) (0 : Int)) = true) (.ok false)
    .no)))
def slices_EqualFunc_impl_Type_impl_Type_impl_Type_impl_Type_mk (p : Bool) : Res := [(false, [⟨.bool, .sh, TC.b p⟩])]
noncomputable def slices_EqualFunc_impl_Type_impl_Type_impl_Type_impl_Type_c (A : List (List TC)) (C : List (List TC)) : Bool := is (Typed tab (.slice 55) (.l A) ∧ (∀ x y : List TC, x ∈ A → y ∈ C → impl_SameType_rc ((nth x 0).int) ((nth x 1).int) ((nth x 2).bool) ((nth x 3).bool) ((nth x 4).list) ((nth x 5).list) ((nth x 6).list) ((nth x 7).list) ((nth x 8).int) ((nth y 0).int) ((nth y 1).int) ((nth y 2).bool) ((nth y 3).bool) ((nth y 4).list) ((nth y 5).list) ((nth y 6).list) ((nth y 7).list) ((nth y 8).int) = true))
noncomputable def slices_EqualFunc_impl_Type_impl_Type_impl_Type_impl_Type_v (A : List (List TC)) (C : List (List TC)) : Bool := allEq slices_EqualFunc_impl_Type_impl_Type_impl_Type_impl_Type_E A C
theorem slices_EqualFunc_impl_Type_impl_Type_impl_Type_impl_Type_l (A : List (List TC)) (C : List (List TC)) : (slices_EqualFunc_impl_Type_impl_Type_impl_Type_impl_Type_c A C) = true → (slices_EqualFunc_impl_Type_impl_Type_impl_Type_impl_Type_t A C).val = some (slices_EqualFunc_impl_Type_impl_Type_impl_Type_impl_Type_v A C) := by
  intro h
  obtain ⟨ht, hr⟩ := is_iff.1 h
  unfold slices_EqualFunc_impl_Type_impl_Type_impl_Type_impl_Type_t
  by_cases hl : A.length = C.length
  · refine Tr.n (by simp [hl]) ?_
    cases hk : allEq slices_EqualFunc_impl_Type_impl_Type_impl_Type_impl_Type_E A C with
    | true =>
      refine Tr.t (show allEq slices_EqualFunc_impl_Type_impl_Type_impl_Type_impl_Type_E A C = true from hk) ?_
      refine Tr.t (is_true ⟨hl, rfl, ht, rfl, hr⟩) ?_
      show _ = some (allEq slices_EqualFunc_impl_Type_impl_Type_impl_Type_impl_Type_E A C); rw [hk]; rfl
    | false =>
      refine Tr.n (show ¬allEq slices_EqualFunc_impl_Type_impl_Type_impl_Type_impl_Type_E A C = true from by rw [hk]; simp) ?_
      refine Tr.t (is_true ⟨hl, rfl, ht, rfl, hr⟩) ?_
      show _ = some (allEq slices_EqualFunc_impl_Type_impl_Type_impl_Type_impl_Type_E A C); rw [hk]; rfl
  · refine Tr.t (by simp; omega) ?_
    show _ = some (allEq slices_EqualFunc_impl_Type_impl_Type_impl_Type_impl_Type_E A C)
    rw [allEq_ne hl]; rfl
noncomputable def slices_EqualFunc_impl_Type_impl_Type_impl_Type_impl_Type_S : List Arg → Option (Bool × Res) := fun xs => match xs with
  | [(false, [(.slice 55, TC.l A)]), (false, [(.slice 55, TC.l C)]), (false, [(.func, TC.f 72 [])])] => some ((slices_EqualFunc_impl_Type_impl_Type_impl_Type_impl_Type_c A C), slices_EqualFunc_impl_Type_impl_Type_impl_Type_impl_Type_mk (slices_EqualFunc_impl_Type_impl_Type_impl_Type_impl_Type_v A C))
  | _ => .none
theorem slices_EqualFunc_impl_Type_impl_Type_impl_Type_impl_Type_e (A : List (List TC)) (C : List (List TC)) : runF tab FT D36 live 105 slices_EqualFunc_impl_Type_impl_Type_impl_Type_impl_Type_lo [(false, [(.slice 55, TC.l A)]), (false, [(.slice 55, TC.l C)]), (false, [(.func, TC.f 72 [])])] = (slices_EqualFunc_impl_Type_impl_Type_impl_Type_impl_Type_t A C).run fun p => some (slices_EqualFunc_impl_Type_impl_Type_impl_Type_impl_Type_mk p) := by kernel_rfl
theorem slices_EqualFunc_impl_Type_impl_Type_impl_Type_impl_Type_s : ∀ xs r, slices_EqualFunc_impl_Type_impl_Type_impl_Type_impl_Type_S xs = some (true, r) → runF tab FT D36 live 105 slices_EqualFunc_impl_Type_impl_Type_impl_Type_impl_Type_lo xs = some r := by
  intro xs r h
  unfold slices_EqualFunc_impl_Type_impl_Type_impl_Type_impl_Type_S at h
  split at h
  · simp only [Option.some.injEq, Prod.mk.injEq] at h
    obtain ⟨h1, rfl⟩ := h
    exact fun_told (slices_EqualFunc_impl_Type_impl_Type_impl_Type_impl_Type_e _ _) (slices_EqualFunc_impl_Type_impl_Type_impl_Type_impl_Type_l _ _) h1
  · cases h
noncomputable def D37 : Dt := also D36 105 slices_EqualFunc_impl_Type_impl_Type_impl_Type_impl_Type_S
theorem d37 : DOk Go.Proofs.Try.prog tab D37 := d36.also mixed_ok tab_ok names_ok (fnLoops_one (by kernel_rfl) slices_EqualFunc_impl_Type_impl_Type_impl_Type_impl_Type_is4) slices_EqualFunc_impl_Type_impl_Type_impl_Type_impl_Type_s
/-! impl_SameType -/
noncomputable def impl_SameType_t (k : Int) (s : Int) (sg : Bool) (bg : Bool) (NA : List (List TC)) (NU : List (List TC)) (ME : List (List TC)) (BA : List (List TC)) (ct : Int) (k2 : Int) (s2 : Int) (sg2 : Bool) (bg2 : Bool) (NA2 : List (List TC)) (NU2 : List (List TC)) (ME2 : List (List TC)) (BA2 : List (List TC)) (ct2 : Int) : Tr (Bool) := (.ite ((k == k2) = true) (.ite ((s == s2) = true) (.ite ((sg == sg2) = true) (.ite ((bg == bg2) = true) (.ite ((ct == ct2) = true) (.ite ((slices_Equal_string_string_c NA NA2) = true) (.ite ((slices_Equal_string_string_v NA NA2) = true) (.ite ((slices_Equal_int64_int64_c NU NU2) = true) (.ite ((slices_Equal_int64_int64_v NU NU2) = true) (.ite ((slices_EqualFunc_impl_Member_impl_Member_impl_Member_impl_Member_c ME ME2) = true) (.ite ((slices_EqualFunc_impl_Member_impl_Member_impl_Member_impl_Member_v ME ME2) = true) (.ite ((slices_EqualFunc_impl_Type_impl_Type_impl_Type_impl_Type_c BA BA2) = true) (.ok (slices_EqualFunc_impl_Type_impl_Type_impl_Type_impl_Type_v BA BA2))
             .no)
            (.ok false))
           .no)
          (.ok false))
         .no)
        (.ok false))
       .no)
      (.ok false))
     (.ok false))
    (.ok false))
   (.ok false))
  (.ok false))
def impl_SameType_mk (p : Bool) : Res := [(false, [⟨.bool, .sh, TC.b p⟩])]
noncomputable def impl_SameType_c (k : Int) (s : Int) (sg : Bool) (bg : Bool) (NA : List (List TC)) (NU : List (List TC)) (ME : List (List TC)) (BA : List (List TC)) (ct : Int) (k2 : Int) (s2 : Int) (sg2 : Bool) (bg2 : Bool) (NA2 : List (List TC)) (NU2 : List (List TC)) (ME2 : List (List TC)) (BA2 : List (List TC)) (ct2 : Int) : Bool := (bif (k == k2) then (bif (s == s2) then (bif (sg == sg2) then (bif (bg == bg2) then (bif (ct == ct2) then ((slices_Equal_string_string_c NA NA2) && (bif (slices_Equal_string_string_v NA NA2) then ((slices_Equal_int64_int64_c NU NU2) && (bif (slices_Equal_int64_int64_v NU NU2) then ((slices_EqualFunc_impl_Member_impl_Member_impl_Member_impl_Member_c ME ME2) && (bif (slices_EqualFunc_impl_Member_impl_Member_impl_Member_impl_Member_v ME ME2) then ((slices_EqualFunc_impl_Type_impl_Type_impl_Type_impl_Type_c BA BA2) && true) else true)) else true)) else true)) else true) else true) else true) else true) else true)
noncomputable def impl_SameType_v (k : Int) (s : Int) (sg : Bool) (bg : Bool) (NA : List (List TC)) (NU : List (List TC)) (ME : List (List TC)) (BA : List (List TC)) (ct : Int) (k2 : Int) (s2 : Int) (sg2 : Bool) (bg2 : Bool) (NA2 : List (List TC)) (NU2 : List (List TC)) (ME2 : List (List TC)) (BA2 : List (List TC)) (ct2 : Int) : Bool := (bif (k == k2) then (bif (s == s2) then (bif (sg == sg2) then (bif (bg == bg2) then (bif (ct == ct2) then (bif (slices_Equal_string_string_v NA NA2) then (bif (slices_Equal_int64_int64_v NU NU2) then (bif (slices_EqualFunc_impl_Member_impl_Member_impl_Member_impl_Member_v ME ME2) then (slices_EqualFunc_impl_Type_impl_Type_impl_Type_impl_Type_v BA BA2) else false) else false) else false) else false) else false) else false) else false) else false)
theorem impl_SameType_l (k : Int) (s : Int) (sg : Bool) (bg : Bool) (NA : List (List TC)) (NU : List (List TC)) (ME : List (List TC)) (BA : List (List TC)) (ct : Int) (k2 : Int) (s2 : Int) (sg2 : Bool) (bg2 : Bool) (NA2 : List (List TC)) (NU2 : List (List TC)) (ME2 : List (List TC)) (BA2 : List (List TC)) (ct2 : Int) : (impl_SameType_c k s sg bg NA NU ME BA ct k2 s2 sg2 bg2 NA2 NU2 ME2 BA2 ct2) = true → (impl_SameType_t k s sg bg NA NU ME BA ct k2 s2 sg2 bg2 NA2 NU2 ME2 BA2 ct2).val = some (impl_SameType_v k s sg bg NA NU ME BA ct k2 s2 sg2 bg2 NA2 NU2 ME2 BA2 ct2) := by
  unfold impl_SameType_t impl_SameType_v impl_SameType_c
  exact fun h => (Tr.ss h (fun h => (Tr.ss h (fun h => (Tr.ss h (fun h => (Tr.ss h (fun h => (Tr.ss h (fun h => (Tr.gb h fun h => (Tr.ss h (fun h => (Tr.gb h fun h => (Tr.ss h (fun h => (Tr.gb h fun h => (Tr.ss h (fun h => (Tr.gb h fun h => rfl)) (fun h => rfl)))) (fun h => rfl)))) (fun h => rfl)))) (fun h => rfl))) (fun h => rfl))) (fun h => rfl))) (fun h => rfl))) (fun h => rfl))
noncomputable def impl_SameType_S : List Arg → Option (Bool × Res) := fun xs => match xs with
  | [(true, [(.int .i64, TC.i k), (.int .i64, TC.i s), (.bool, TC.b sg), (.bool, TC.b bg), (.slice 9, TC.l NA), (.slice 2, TC.l NU), (.slice 147, TC.l ME), (.slice 55, TC.l BA), (.int .i64, TC.i ct)]), (true, [(.int .i64, TC.i k2), (.int .i64, TC.i s2), (.bool, TC.b sg2), (.bool, TC.b bg2), (.slice 9, TC.l NA2), (.slice 2, TC.l NU2), (.slice 147, TC.l ME2), (.slice 55, TC.l BA2), (.int .i64, TC.i ct2)])] => some ((impl_SameType_c k s sg bg NA NU ME BA ct k2 s2 sg2 bg2 NA2 NU2 ME2 BA2 ct2), impl_SameType_mk (impl_SameType_v k s sg bg NA NU ME BA ct k2 s2 sg2 bg2 NA2 NU2 ME2 BA2 ct2))
  | _ => .none
theorem impl_SameType_e (k : Int) (s : Int) (sg : Bool) (bg : Bool) (NA : List (List TC)) (NU : List (List TC)) (ME : List (List TC)) (BA : List (List TC)) (ct : Int) (k2 : Int) (s2 : Int) (sg2 : Bool) (bg2 : Bool) (NA2 : List (List TC)) (NU2 : List (List TC)) (ME2 : List (List TC)) (BA2 : List (List TC)) (ct2 : Int) : runF tab FT D37 live 72 noLoops [(true, [(.int .i64, TC.i k), (.int .i64, TC.i s), (.bool, TC.b sg), (.bool, TC.b bg), (.slice 9, TC.l NA), (.slice 2, TC.l NU), (.slice 147, TC.l ME), (.slice 55, TC.l BA), (.int .i64, TC.i ct)]), (true, [(.int .i64, TC.i k2), (.int .i64, TC.i s2), (.bool, TC.b sg2), (.bool, TC.b bg2), (.slice 9, TC.l NA2), (.slice 2, TC.l NU2), (.slice 147, TC.l ME2), (.slice 55, TC.l BA2), (.int .i64, TC.i ct2)])] = (impl_SameType_t k s sg bg NA NU ME BA ct k2 s2 sg2 bg2 NA2 NU2 ME2 BA2 ct2).run fun p => some (impl_SameType_mk p) := by kernel_rfl
theorem impl_SameType_s : ∀ xs r, impl_SameType_S xs = some (true, r) → runF tab FT D37 live 72 noLoops xs = some r := by
  intro xs r h
  unfold impl_SameType_S at h
  split at h
  · simp only [Option.some.injEq, Prod.mk.injEq] at h
    obtain ⟨h1, rfl⟩ := h
    exact fun_told (impl_SameType_e _ _ _ _ _ _ _ _ _ _ _ _ _ _ _ _ _ _) (impl_SameType_l _ _ _ _ _ _ _ _ _ _ _ _ _ _ _ _ _ _) h1
  · cases h
theorem impl_SameType_nx (k : Int) (s : Int) (sg : Bool) (bg : Bool) (NA : List (List TC)) (NU : List (List TC)) (ME : List (List TC)) (BA : List (List TC)) (ct : Int) (k2 : Int) (s2 : Int) (sg2 : Bool) (bg2 : Bool) (NA2 : List (List TC)) (NU2 : List (List TC)) (ME2 : List (List TC)) (BA2 : List (List TC)) (ct2 : Int) : is (max (rowsDep ME) (rowsDep BA) < impl_SameType_O.n + 1 ∧ Typed tab (.slice 9) (.l NA) ∧ Typed tab (.slice 2) (.l NU) ∧ Typed tab (.slice 147) (.l ME) ∧ Typed tab (.slice 55) (.l BA) ∧ Typed tab (.slice 9) (.l NA2) ∧ Typed tab (.slice 2) (.l NU2) ∧ Typed tab (.slice 147) (.l ME2) ∧ Typed tab (.slice 55) (.l BA2)) = true → (impl_SameType_c k s sg bg NA NU ME BA ct k2 s2 sg2 bg2 NA2 NU2 ME2 BA2 ct2) = true ∧ (impl_SameType_v k s sg bg NA NU ME BA ct k2 s2 sg2 bg2 NA2 NU2 ME2 BA2 ct2) = sameV k s sg bg NA NU ME BA ct k2 s2 sg2 bg2 NA2 NU2 ME2 BA2 ct2 := by
  intro h
  obtain ⟨hM, a4, a5, a6, a7, b4, b5, b6, b7⟩ := is_iff.1 h
  have q6 : ∀ x y, x ∈ ME → y ∈ ME2 → impl_SameType_rc (nth x 2).int (nth x 3).int (nth x 4).bool (nth x 5).bool (nth x 6).list (nth x 7).list (nth x 8).list (nth x 9).list (nth x 10).int (nth y 2).int (nth y 3).int (nth y 4).bool (nth y 5).bool (nth y 6).list (nth y 7).list (nth y 8).list (nth y 9).list (nth y 10).int = true := fun x y hx hy => is_true ⟨by have a := dep_cell hx 8; have b := dep_cell hx 9; omega, typed_list ((typed_elem a6 hx).2 6 (by decide)), typed_list ((typed_elem a6 hx).2 7 (by decide)), typed_list ((typed_elem a6 hx).2 8 (by decide)), typed_list ((typed_elem a6 hx).2 9 (by decide)), typed_list ((typed_elem b6 hy).2 6 (by decide)), typed_list ((typed_elem b6 hy).2 7 (by decide)), typed_list ((typed_elem b6 hy).2 8 (by decide)), typed_list ((typed_elem b6 hy).2 9 (by decide))⟩
  have q7 : ∀ x y, x ∈ BA → y ∈ BA2 → impl_SameType_rc (nth x 0).int (nth x 1).int (nth x 2).bool (nth x 3).bool (nth x 4).list (nth x 5).list (nth x 6).list (nth x 7).list (nth x 8).int (nth y 0).int (nth y 1).int (nth y 2).bool (nth y 3).bool (nth y 4).list (nth y 5).list (nth y 6).list (nth y 7).list (nth y 8).int = true := fun x y hx hy => is_true ⟨by have a := dep_cell hx 6; have b := dep_cell hx 7; omega, typed_list ((typed_elem a7 hx).2 4 (by decide)), typed_list ((typed_elem a7 hx).2 5 (by decide)), typed_list ((typed_elem a7 hx).2 6 (by decide)), typed_list ((typed_elem a7 hx).2 7 (by decide)), typed_list ((typed_elem b7 hy).2 4 (by decide)), typed_list ((typed_elem b7 hy).2 5 (by decide)), typed_list ((typed_elem b7 hy).2 6 (by decide)), typed_list ((typed_elem b7 hy).2 7 (by decide))⟩
  have c4 : slices_Equal_string_string_c NA NA2 = true := is_true a4
  have c5 : slices_Equal_int64_int64_c NU NU2 = true := is_true a5
  have c6 : slices_EqualFunc_impl_Member_impl_Member_impl_Member_impl_Member_c ME ME2 = true := is_true ⟨a6, fun x y hx hy => by simp only [impl_sameMember_c, q6 x y hx hy, Bool.and_true, bif_same]⟩
  have c7 : slices_EqualFunc_impl_Type_impl_Type_impl_Type_impl_Type_c BA BA2 = true := is_true ⟨a7, q7⟩
  have v4 : slices_Equal_string_string_v NA NA2 = eqL NA NA2 := allEq_eqL (E := E_9) (fun x y hx hy => by
    constructor
    · intro h
      have hh : (nth x 0).str = (nth y 0).str := by
        simpa [E_9] using h
      have e0 := hh
      have hx' := form_9 a4 hx
      have hy' := form_9 b4 hy
      rw [hx', hy', e0]
    · rintro rfl
      simp [E_9])
  have v5 : slices_Equal_int64_int64_v NU NU2 = eqL NU NU2 := allEq_eqL (E := E_2) (fun x y hx hy => by
    constructor
    · intro h
      have hh : (nth x 0).int = (nth y 0).int := by
        simpa [E_2] using h
      have e0 := hh
      have hx' := form_2 a5 hx
      have hy' := form_2 b5 hy
      rw [hx', hy', e0]
    · rintro rfl
      simp [E_2])
  have v6 : slices_EqualFunc_impl_Member_impl_Member_impl_Member_impl_Member_v ME ME2 = eqL ME ME2 := allEq_eqL (E := slices_EqualFunc_impl_Member_impl_Member_impl_Member_impl_Member_E) (fun x y hx hy => by
    constructor
    · intro h
      have hh : (nth x 0).str = (nth y 0).str ∧ (nth x 1).int = (nth y 1).int ∧ (nth x 2).int = (nth y 2).int ∧ (nth x 3).int = (nth y 3).int ∧ (nth x 4).bool = (nth y 4).bool ∧ (nth x 5).bool = (nth y 5).bool ∧ (nth x 6).list = (nth y 6).list ∧ (nth x 7).list = (nth y 7).list ∧ (nth x 8).list = (nth y 8).list ∧ (nth x 9).list = (nth y 9).list ∧ (nth x 10).int = (nth y 10).int := by
        have h : (bif ((nth x 0).str == (nth y 0).str) then (bif ((nth x 1).int == (nth y 1).int) then sameV (nth x 2).int (nth x 3).int (nth x 4).bool (nth x 5).bool (nth x 6).list (nth x 7).list (nth x 8).list (nth x 9).list (nth x 10).int (nth y 2).int (nth y 3).int (nth y 4).bool (nth y 5).bool (nth y 6).list (nth y 7).list (nth y 8).list (nth y 9).list (nth y 10).int else false) else false) = true := h
        simp only [bif_ft, sameV, Bool.and_eq_true, beq_iff_eq, eqL_iff] at h
        obtain ⟨n, o, h⟩ := h
        exact ⟨n, o, h.1, h.2.1, h.2.2.1, h.2.2.2.1, h.2.2.2.2.2.1, h.2.2.2.2.2.2.1, h.2.2.2.2.2.2.2.1, h.2.2.2.2.2.2.2.2, h.2.2.2.2.1⟩
      obtain ⟨e0, e1, e2, e3, e4, e5, e6, e7, e8, e9, e10⟩ := hh
      have hx' := form_147 a6 hx
      have hy' := form_147 b6 hy
      rw [hx', hy', e0, e1, e2, e3, e4, e5, e6, e7, e8, e9, e10]
    · rintro rfl
      show (bif ((nth x 0).str == (nth x 0).str) then (bif ((nth x 1).int == (nth x 1).int) then sameV (nth x 2).int (nth x 3).int (nth x 4).bool (nth x 5).bool (nth x 6).list (nth x 7).list (nth x 8).list (nth x 9).list (nth x 10).int (nth x 2).int (nth x 3).int (nth x 4).bool (nth x 5).bool (nth x 6).list (nth x 7).list (nth x 8).list (nth x 9).list (nth x 10).int else false) else false) = true
      simp [sameV, eqL_refl])
  have v7 : slices_EqualFunc_impl_Type_impl_Type_impl_Type_impl_Type_v BA BA2 = eqL BA BA2 := allEq_eqL (E := slices_EqualFunc_impl_Type_impl_Type_impl_Type_impl_Type_E) (fun x y hx hy => by
    constructor
    · intro h
      have hh : (nth x 0).int = (nth y 0).int ∧ (nth x 1).int = (nth y 1).int ∧ (nth x 2).bool = (nth y 2).bool ∧ (nth x 3).bool = (nth y 3).bool ∧ (nth x 4).list = (nth y 4).list ∧ (nth x 5).list = (nth y 5).list ∧ (nth x 6).list = (nth y 6).list ∧ (nth x 7).list = (nth y 7).list ∧ (nth x 8).int = (nth y 8).int := by
        have h : sameV (nth x 0).int (nth x 1).int (nth x 2).bool (nth x 3).bool (nth x 4).list (nth x 5).list (nth x 6).list (nth x 7).list (nth x 8).int (nth y 0).int (nth y 1).int (nth y 2).bool (nth y 3).bool (nth y 4).list (nth y 5).list (nth y 6).list (nth y 7).list (nth y 8).int = true := h
        simp only [sameV, Bool.and_eq_true, beq_iff_eq, eqL_iff] at h
        exact ⟨h.1, h.2.1, h.2.2.1, h.2.2.2.1, h.2.2.2.2.2.1, h.2.2.2.2.2.2.1, h.2.2.2.2.2.2.2.1, h.2.2.2.2.2.2.2.2, h.2.2.2.2.1⟩
      obtain ⟨e0, e1, e2, e3, e4, e5, e6, e7, e8⟩ := hh
      have hx' := form_55 a7 hx
      have hy' := form_55 b7 hy
      rw [hx', hy', e0, e1, e2, e3, e4, e5, e6, e7, e8]
    · rintro rfl
      show sameV (nth x 0).int (nth x 1).int (nth x 2).bool (nth x 3).bool (nth x 4).list (nth x 5).list (nth x 6).list (nth x 7).list (nth x 8).int (nth x 0).int (nth x 1).int (nth x 2).bool (nth x 3).bool (nth x 4).list (nth x 5).list (nth x 6).list (nth x 7).list (nth x 8).int = true
      simp [sameV, eqL_refl])
  constructor
  · unfold impl_SameType_c
    simp only [c4, c5, c6, c7, Bool.true_and, Bool.and_true, bif_same]
  · unfold impl_SameType_v sameV
    rw [v4, v5, v6, v7]
    simp only [bif_ft]
theorem impl_SameType_nxr (k : Int) (s : Int) (sg : Bool) (bg : Bool) (NA : List (List TC)) (NU : List (List TC)) (ME : List (List TC)) (BA : List (List TC)) (ct : Int) (k2 : Int) (s2 : Int) (sg2 : Bool) (bg2 : Bool) (NA2 : List (List TC)) (NU2 : List (List TC)) (ME2 : List (List TC)) (BA2 : List (List TC)) (ct2 : Int) : impl_SameType_rc (i_impl_SameType := ⟨impl_SameType_O.n + 1⟩) k s sg bg NA NU ME BA ct k2 s2 sg2 bg2 NA2 NU2 ME2 BA2 ct2 = true → (impl_SameType_c k s sg bg NA NU ME BA ct k2 s2 sg2 bg2 NA2 NU2 ME2 BA2 ct2) = true ∧ (impl_SameType_v k s sg bg NA NU ME BA ct k2 s2 sg2 bg2 NA2 NU2 ME2 BA2 ct2) = (impl_SameType_rv k s sg bg NA NU ME BA ct k2 s2 sg2 bg2 NA2 NU2 ME2 BA2 ct2) := fun h => impl_SameType_nx k s sg bg NA NU ME BA ct k2 s2 sg2 bg2 NA2 NU2 ME2 BA2 ct2 h
theorem impl_SameType_rs : ∀ xs r, impl_SameType_rS (i_impl_SameType := ⟨impl_SameType_O.n + 1⟩) xs = some (true, r) → runF tab FT D37 live 72 noLoops xs = some r := by
  intro xs r h
  unfold impl_SameType_rS at h
  split at h
  · simp only [Option.some.injEq, Prod.mk.injEq] at h
    obtain ⟨h1, rfl⟩ := h
    have hx := impl_SameType_nxr _ _ _ _ _ _ _ _ _ _ _ _ _ _ _ _ _ _ h1
    have ht := fun_told (impl_SameType_e _ _ _ _ _ _ _ _ _ _ _ _ _ _ _ _ _ _) (impl_SameType_l _ _ _ _ _ _ _ _ _ _ _ _ _ _ _ _ _ _) hx.1
    rw [hx.2] at ht
    exact ht
  · cases h
theorem impl_SameType_step : impl_SameType_G (i_impl_SameType := ⟨impl_SameType_O.n + 1⟩) := by
  have h := DOk.also2 (S := impl_SameType_rS (i_impl_SameType := ⟨impl_SameType_O.n + 1⟩)) mixed_ok tab_ok names_ok d33 d37 noLoops_ok impl_SameType_rs
  refine impl_SameType_G.mk (i_impl_SameType := ⟨impl_SameType_O.n + 1⟩) ?_
  exact h
/-! impl_Selection_lists -/
noncomputable def impl_Selection_lists_t (a0 : Int) (a1 : List (List TC)) (a2 : List (List TC)) (a3 : List (List TC)) (a4 : List (List TC)) (a5 : List (List TC)) : Tr (List (List TC)) := .ok ([[TC.l a1], [TC.l a2], [TC.l a3], [TC.l a4]])
def impl_Selection_lists_mk (p : List (List TC)) : Res := [(false, [⟨.slice 41, .own false, TC.l p⟩])]
noncomputable def impl_Selection_lists_c (a0 : Int) (a1 : List (List TC)) (a2 : List (List TC)) (a3 : List (List TC)) (a4 : List (List TC)) (a5 : List (List TC)) : Bool := true
noncomputable def impl_Selection_lists_v (a0 : Int) (a1 : List (List TC)) (a2 : List (List TC)) (a3 : List (List TC)) (a4 : List (List TC)) (a5 : List (List TC)) : List (List TC) := [[TC.l a1], [TC.l a2], [TC.l a3], [TC.l a4]]
theorem impl_Selection_lists_l (a0 : Int) (a1 : List (List TC)) (a2 : List (List TC)) (a3 : List (List TC)) (a4 : List (List TC)) (a5 : List (List TC)) : (impl_Selection_lists_c a0 a1 a2 a3 a4 a5) = true → (impl_Selection_lists_t a0 a1 a2 a3 a4 a5).val = some (impl_Selection_lists_v a0 a1 a2 a3 a4 a5) := by
  intro h
  skip
  unfold impl_Selection_lists_t impl_Selection_lists_v
  exact rfl
noncomputable def impl_Selection_lists_S : List Arg → Option (Bool × Res) := fun xs => match xs with
  | [(true, [(.int .i64, TC.i a0), (.slice 2, TC.l a1), (.slice 2, TC.l a2), (.slice 2, TC.l a3), (.slice 2, TC.l a4), (.slice 193, TC.l a5)])] => some (true, impl_Selection_lists_mk (impl_Selection_lists_v a0 a1 a2 a3 a4 a5))
  | _ => .none
theorem impl_Selection_lists_e (a0 : Int) (a1 : List (List TC)) (a2 : List (List TC)) (a3 : List (List TC)) (a4 : List (List TC)) (a5 : List (List TC)) : runF tab FT D37 live 143 noLoops [(true, [(.int .i64, TC.i a0), (.slice 2, TC.l a1), (.slice 2, TC.l a2), (.slice 2, TC.l a3), (.slice 2, TC.l a4), (.slice 193, TC.l a5)])] = (impl_Selection_lists_t a0 a1 a2 a3 a4 a5).run fun p => some (impl_Selection_lists_mk p) := by kernel_rfl
theorem impl_Selection_lists_s : ∀ xs r, impl_Selection_lists_S xs = some (true, r) → runF tab FT D37 live 143 noLoops xs = some r := by
  intro xs r h
  unfold impl_Selection_lists_S at h
  split at h
  · simp only [Option.some.injEq, Prod.mk.injEq] at h
    obtain ⟨h1, rfl⟩ := h
    exact fun_told (impl_Selection_lists_e _ _ _ _ _ _) (impl_Selection_lists_l _ _ _ _ _ _) rfl
  · cases h
noncomputable def D38 : Dt := also D37 143 impl_Selection_lists_S
theorem d38 : DOk Go.Proofs.Try.prog tab D38 := d37.also mixed_ok tab_ok names_ok noLoops_ok impl_Selection_lists_s
/-! slices_EqualFunc_int64_int64_int64_int64 -/
noncomputable def slices_EqualFunc_int64_int64_int64_int64_E (x y : List TC) : Bool := slices_Equal_int64_int64_v ((nth x 0).list) ((nth y 0).list)
abbrev slices_EqualFunc_int64_int64_int64_int64_4_σ := List (List TC) × List (List TC) × Int × Int
abbrev slices_EqualFunc_int64_int64_int64_int64_4_ω := (Unit) ⊕ (Unit)
noncomputable def slices_EqualFunc_int64_int64_int64_int64_4_step (C : List (List TC)) (A : List (List TC)) (m : Int) (i : Int) : Tr (slices_EqualFunc_int64_int64_int64_int64_4_σ ⊕ slices_EqualFunc_int64_int64_int64_int64_4_ω) := (.ite ((decide (i < m)) = true) (.ite ((0 : Int) ≤ i ∧ i < (A.length : Int)) (.ite ((0 : Int) ≤ i ∧ i < (C.length : Int)) (.ite ((slices_Equal_int64_int64_c ((nth (row A i) 0).list) ((nth (row C i) 0).list)) = true) (.ite ((!(slices_Equal_int64_int64_v ((nth (row A i) 0).list) ((nth (row C i) 0).list))) = true) (.ok (.inr (.inl ())))
      (.ok (.inl (C, A, m, (IntKind.wrap .i64 (i + (1 : Int)))))))
     .no)
    .no)
   .no)
  (.ok (.inr (.inr ()))))
noncomputable def slices_EqualFunc_int64_int64_int64_int64_4_st : slices_EqualFunc_int64_int64_int64_int64_4_σ → Tr (slices_EqualFunc_int64_int64_int64_int64_4_σ ⊕ slices_EqualFunc_int64_int64_int64_int64_4_ω) := fun x => (slices_EqualFunc_int64_int64_int64_int64_4_step (x.1) (x.2.1) (x.2.2.1) (x.2.2.2))
noncomputable def slices_EqualFunc_int64_int64_int64_int64_k4_1 (C : List (List TC)) (A : List (List TC)) (m : Int) (i : Int) : Bool := allEq slices_EqualFunc_int64_int64_int64_int64_E A C
noncomputable def slices_EqualFunc_int64_int64_int64_int64_o4_2 (C : List (List TC)) (A : List (List TC)) (m : Int) (i : Int) : Bool := is (A.length = C.length ∧ i = 0 ∧ Typed tab (.slice 41) (.l A) ∧ m = (A.length : Int) ∧ (∀ x y : List TC, x ∈ A → y ∈ C → slices_Equal_int64_int64_c ((nth x 0).list) ((nth y 0).list) = true))
noncomputable def slices_EqualFunc_int64_int64_int64_int64_o4_3 (C : List (List TC)) (A : List (List TC)) (m : Int) (i : Int) : Bool := is (A.length = C.length ∧ i = 0 ∧ Typed tab (.slice 41) (.l A) ∧ m = (A.length : Int) ∧ (∀ x y : List TC, x ∈ A → y ∈ C → slices_Equal_int64_int64_c ((nth x 0).list) ((nth y 0).list) = true))
noncomputable def slices_EqualFunc_int64_int64_int64_int64_4_fin (C : List (List TC)) (A : List (List TC)) (m : Int) (i : Int) : Told slices_EqualFunc_int64_int64_int64_int64_4_ω := (.br (slices_EqualFunc_int64_int64_int64_int64_k4_1 C A m i) (.leaf (slices_EqualFunc_int64_int64_int64_int64_o4_2 C A m i) (.inr ())) (.leaf (slices_EqualFunc_int64_int64_int64_int64_o4_3 C A m i) (.inl ())))
def slices_EqualFunc_int64_int64_int64_int64_4_sl (x : slices_EqualFunc_int64_int64_int64_int64_4_σ) : List Slot := [⟨.val false [⟨.slice 41, .sh, TC.l (x.1)⟩], ⟨0, 0⟩⟩, ⟨.val false [⟨.func, .sh, TC.f 74 []⟩], ⟨0, 0⟩⟩, ⟨.val false [⟨.slice 41, .sh, TC.l (x.2.1)⟩], ⟨0, 0⟩⟩, ⟨.val false [⟨.int .i64, .sh, TC.i (x.2.2.1)⟩], ⟨0, 0⟩⟩, ⟨.val false [⟨.int .i64, .sh, TC.i (x.2.2.2)⟩], ⟨0, 0⟩⟩]
def slices_EqualFunc_int64_int64_int64_int64_4_out : slices_EqualFunc_int64_int64_int64_int64_4_ω → Ex × List Slot := (Sum.elim (fun x => (.ret, [⟨.val false [⟨.bool, .sh, TC.b false⟩], ⟨0, 0⟩⟩])) (fun x => (.exit 0, [Slot.none])))
noncomputable def slices_EqualFunc_int64_int64_int64_int64_lo4 : List Slot → Option (Told (Ex × List Slot)) := fun s => match s with
  | [⟨.val false [⟨.slice 41, .sh, TC.l C⟩], ⟨0, 0⟩⟩, ⟨.val false [⟨.func, .sh, TC.f 74 []⟩], ⟨0, 0⟩⟩, ⟨.val false [⟨.slice 41, .sh, TC.l A⟩], ⟨0, 0⟩⟩, ⟨.val false [⟨.int .i64, .sh, TC.i m⟩], ⟨0, 0⟩⟩, ⟨.val false [⟨.int .i64, .sh, TC.i i⟩], ⟨0, 0⟩⟩] => some (((slices_EqualFunc_int64_int64_int64_int64_4_fin C A m i)).map slices_EqualFunc_int64_int64_int64_int64_4_out)
  | _ => .none
noncomputable def slices_EqualFunc_int64_int64_int64_int64_lo : LoopTeller := fun r s => bif Nat.beq r 4 then slices_EqualFunc_int64_int64_int64_int64_lo4 s else .none
theorem slices_EqualFunc_int64_int64_int64_int64_4_r (C : List (List TC)) (A : List (List TC)) (m : Int) (i : Int) (fuel : Nat) : rounds (rnd tab FT D38 live 142 slices_EqualFunc_int64_int64_int64_int64_lo 0 4) leave (fuel + 1) (slices_EqualFunc_int64_int64_int64_int64_4_sl (C, A, m, i)) = ((slices_EqualFunc_int64_int64_int64_int64_4_step C A m i)).run (goOn (fun s => rounds (rnd tab FT D38 live 142 slices_EqualFunc_int64_int64_int64_int64_lo 0 4) leave fuel (slices_EqualFunc_int64_int64_int64_int64_4_sl s)) fun w => some (slices_EqualFunc_int64_int64_int64_int64_4_out w)) := by kernel_rfl
theorem slices_EqualFunc_int64_int64_int64_int64_4_h (C : List (List TC)) (A : List (List TC)) (m : Int) (i : Int) (ow : slices_EqualFunc_int64_int64_int64_int64_4_ω) : ((slices_EqualFunc_int64_int64_int64_int64_4_fin C A m i)).val = some ow → ∃ fuel, loopN slices_EqualFunc_int64_int64_int64_int64_4_st fuel (C, A, m, i) = some ow := by
  intro h
  have key : A.length = C.length → Typed tab (.slice 41) (.l A) → (∀ x y : List TC, x ∈ A → y ∈ C → slices_Equal_int64_int64_c ((nth x 0).list) ((nth y 0).list) = true) → loopN slices_EqualFunc_int64_int64_int64_int64_4_st (A.length + 1) (C, A, (A.length : Int), 0) = some (if allEq slices_EqualFunc_int64_int64_int64_int64_E A C = true then .inr () else .inl ()) := by
    intro hl ht hr
    have hlen : A.length ≤ 140737488351232 := by have := typed_room ht; simp only [show (tab 41).bytes = 24 from rfl] at this; omega
    refine loopN_allEq A C slices_EqualFunc_int64_int64_int64_int64_E (fun i => (C, A, (A.length : Int), (i : Int))) _ _ hl (fun i hi => ?_) ?_ A.length 0 (by omega)
    · show (slices_EqualFunc_int64_int64_int64_int64_4_step C A (A.length : Int) (i : Int)).val = _
      unfold slices_EqualFunc_int64_int64_int64_int64_4_step
      refine Tr.t (by simp; omega) ?_
      refine Tr.t (by constructor <;> omega) ?_
      refine Tr.t (by constructor <;> omega) ?_
      refine Tr.t (hr _ _ (mem_getD hi) (mem_getD (by omega))) ?_
      rw [wrap64 (i := (i : Int) + 1) (by omega) (by omega)]
      rw [Tr.val_br]
      show (if (!(slices_EqualFunc_int64_int64_int64_int64_E (A.getD i []) (C.getD i []))) = true then _ else _) = _
      cases slices_EqualFunc_int64_int64_int64_int64_E (A.getD i []) (C.getD i []) <;> rfl
    · show (slices_EqualFunc_int64_int64_int64_int64_4_step C A (A.length : Int) (A.length : Int)).val = _
      refine Tr.n (by simp) ?_
      rfl
  simp only [slices_EqualFunc_int64_int64_int64_int64_4_fin, Told.val] at h
  cases hk : allEq slices_EqualFunc_int64_int64_int64_int64_E A C with
  | true =>
    rw [if_pos (show slices_EqualFunc_int64_int64_int64_int64_k4_1 C A m i = true from hk)] at h
    split at h
    · rename_i ho
      obtain ⟨hl, rfl, ht, rfl, hr⟩ := is_iff.1 ho
      cases h
      refine ⟨_, (key hl ht hr).trans ?_⟩
      rw [hk]; rfl
    · cases h
  | false =>
    rw [if_neg (show ¬slices_EqualFunc_int64_int64_int64_int64_k4_1 C A m i = true from by rw [show slices_EqualFunc_int64_int64_int64_int64_k4_1 C A m i = allEq slices_EqualFunc_int64_int64_int64_int64_E A C from rfl, hk]; simp)] at h
    split at h
    · rename_i ho
      obtain ⟨hl, rfl, ht, rfl, hr⟩ := is_iff.1 ho
      cases h
      refine ⟨_, (key hl ht hr).trans ?_⟩
      rw [hk]; rfl
    · cases h
theorem slices_EqualFunc_int64_int64_int64_int64_is4 : LoopIs tab FT D38 live 142 slices_EqualFunc_int64_int64_int64_int64_lo 0 4 := by
  refine loop_told (sl := slices_EqualFunc_int64_int64_int64_int64_4_sl) (step := slices_EqualFunc_int64_int64_int64_int64_4_st) (out := slices_EqualFunc_int64_int64_int64_int64_4_out) (lor := slices_EqualFunc_int64_int64_int64_int64_lo4) (fin := fun x => (slices_EqualFunc_int64_int64_int64_int64_4_fin (x.1) (x.2.1) (x.2.2.1) (x.2.2.2))) (fun _ => rfl) ?_ (fun x n => slices_EqualFunc_int64_int64_int64_int64_4_r x.1 x.2.1 x.2.2.1 x.2.2.2 n) (fun x ow => slices_EqualFunc_int64_int64_int64_int64_4_h x.1 x.2.1 x.2.2.1 x.2.2.2 ow)
  intro s t h
  unfold slices_EqualFunc_int64_int64_int64_int64_lo4 at h
  split at h
  · cases h; exact ⟨(_, _, _, _), rfl, rfl⟩
  · cases h
noncomputable def slices_EqualFunc_int64_int64_int64_int64_t (A : List (List TC)) (C : List (List TC)) : Tr (Bool) := (.ite ((!((A.length : Int) == (C.length : Int))) = true) (.ok false)
  (.ite ((slices_EqualFunc_int64_int64_int64_int64_k4_1 C A (A.length : Int) (0 : Int)) = true) (.ite ((slices_EqualFunc_int64_int64_int64_int64_o4_2 C A (A.length : Int) (0 : Int)) = true) (.ok true)
    .no)
   (.ite ((slices_EqualFunc_int64_int64_int64_int64_o4_3 C A (A.length : Int) (0 : Int)) = true) (.ok false)
    .no)))
def slices_EqualFunc_int64_int64_int64_int64_mk (p : Bool) : Res := [(false, [⟨.bool, .sh, TC.b p⟩])]
noncomputable def slices_EqualFunc_int64_int64_int64_int64_c (A : List (List TC)) (C : List (List TC)) : Bool := is (Typed tab (.slice 41) (.l A) ∧ (∀ x y : List TC, x ∈ A → y ∈ C → slices_Equal_int64_int64_c ((nth x 0).list) ((nth y 0).list) = true))
noncomputable def slices_EqualFunc_int64_int64_int64_int64_v (A : List (List TC)) (C : List (List TC)) : Bool := allEq slices_EqualFunc_int64_int64_int64_int64_E A C
theorem slices_EqualFunc_int64_int64_int64_int64_l (A : List (List TC)) (C : List (List TC)) : (slices_EqualFunc_int64_int64_int64_int64_c A C) = true → (slices_EqualFunc_int64_int64_int64_int64_t A C).val = some (slices_EqualFunc_int64_int64_int64_int64_v A C) := by
  intro h
  obtain ⟨ht, hr⟩ := is_iff.1 h
  unfold slices_EqualFunc_int64_int64_int64_int64_t
  by_cases hl : A.length = C.length
  · refine Tr.n (by simp [hl]) ?_
    cases hk : allEq slices_EqualFunc_int64_int64_int64_int64_E A C with
    | true =>
      refine Tr.t (show allEq slices_EqualFunc_int64_int64_int64_int64_E A C = true from hk) ?_
      refine Tr.t (is_true ⟨hl, rfl, ht, rfl, hr⟩) ?_
      show _ = some (allEq slices_EqualFunc_int64_int64_int64_int64_E A C); rw [hk]; rfl
    | false =>
      refine Tr.n (show ¬allEq slices_EqualFunc_int64_int64_int64_int64_E A C = true from by rw [hk]; simp) ?_
      refine Tr.t (is_true ⟨hl, rfl, ht, rfl, hr⟩) ?_
      show _ = some (allEq slices_EqualFunc_int64_int64_int64_int64_E A C); rw [hk]; rfl
  · refine Tr.t (by simp; omega) ?_
    show _ = some (allEq slices_EqualFunc_int64_int64_int64_int64_E A C)
    rw [allEq_ne hl]; rfl
noncomputable def slices_EqualFunc_int64_int64_int64_int64_S : List Arg → Option (Bool × Res) := fun xs => match xs with
  | [(false, [(.slice 41, TC.l A)]), (false, [(.slice 41, TC.l C)]), (false, [(.func, TC.f 74 [])])] => some ((slices_EqualFunc_int64_int64_int64_int64_c A C), slices_EqualFunc_int64_int64_int64_int64_mk (slices_EqualFunc_int64_int64_int64_int64_v A C))
  | _ => .none
theorem slices_EqualFunc_int64_int64_int64_int64_e (A : List (List TC)) (C : List (List TC)) : runF tab FT D38 live 142 slices_EqualFunc_int64_int64_int64_int64_lo [(false, [(.slice 41, TC.l A)]), (false, [(.slice 41, TC.l C)]), (false, [(.func, TC.f 74 [])])] = (slices_EqualFunc_int64_int64_int64_int64_t A C).run fun p => some (slices_EqualFunc_int64_int64_int64_int64_mk p) := by kernel_rfl
theorem slices_EqualFunc_int64_int64_int64_int64_s : ∀ xs r, slices_EqualFunc_int64_int64_int64_int64_S xs = some (true, r) → runF tab FT D38 live 142 slices_EqualFunc_int64_int64_int64_int64_lo xs = some r := by
  intro xs r h
  unfold slices_EqualFunc_int64_int64_int64_int64_S at h
  split at h
  · simp only [Option.some.injEq, Prod.mk.injEq] at h
    obtain ⟨h1, rfl⟩ := h
    exact fun_told (slices_EqualFunc_int64_int64_int64_int64_e _ _) (slices_EqualFunc_int64_int64_int64_int64_l _ _) h1
  · cases h
noncomputable def D39 : Dt := also D38 142 slices_EqualFunc_int64_int64_int64_int64_S
theorem d39 : DOk Go.Proofs.Try.prog tab D39 := d38.also mixed_ok tab_ok names_ok (fnLoops_one (by kernel_rfl) slices_EqualFunc_int64_int64_int64_int64_is4) slices_EqualFunc_int64_int64_int64_int64_s
/-! impl_samePoint -/
noncomputable def impl_samePoint_t (a0 : List (List TC)) (a1 : List (List TC)) : Tr (Bool) := (.ite ((slices_Equal_int64_int64_c a0 a1) = true) (.ok (slices_Equal_int64_int64_v a0 a1))
  .no)
def impl_samePoint_mk (p : Bool) : Res := [(false, [⟨.bool, .sh, TC.b p⟩])]
noncomputable def impl_samePoint_c (a0 : List (List TC)) (a1 : List (List TC)) : Bool := (slices_Equal_int64_int64_c a0 a1)
noncomputable def impl_samePoint_v (a0 : List (List TC)) (a1 : List (List TC)) : Bool := (slices_Equal_int64_int64_v a0 a1)
theorem impl_samePoint_l (a0 : List (List TC)) (a1 : List (List TC)) : (impl_samePoint_c a0 a1) = true → (impl_samePoint_t a0 a1).val = some (impl_samePoint_v a0 a1) := by
  intro h
  have hc0 : (slices_Equal_int64_int64_c a0 a1) = true := h
  unfold impl_samePoint_t
  exact (Tr.t hc0 rfl)
noncomputable def impl_samePoint_S : List Arg → Option (Bool × Res) := fun xs => match xs with
  | [(true, [(.slice 2, TC.l a0)]), (true, [(.slice 2, TC.l a1)])] => some ((impl_samePoint_c a0 a1), impl_samePoint_mk (impl_samePoint_v a0 a1))
  | _ => .none
theorem impl_samePoint_e (a0 : List (List TC)) (a1 : List (List TC)) : runF tab FT D39 live 145 noLoops [(true, [(.slice 2, TC.l a0)]), (true, [(.slice 2, TC.l a1)])] = (impl_samePoint_t a0 a1).run fun p => some (impl_samePoint_mk p) := by kernel_rfl
theorem impl_samePoint_s : ∀ xs r, impl_samePoint_S xs = some (true, r) → runF tab FT D39 live 145 noLoops xs = some r := by
  intro xs r h
  unfold impl_samePoint_S at h
  split at h
  · simp only [Option.some.injEq, Prod.mk.injEq] at h
    obtain ⟨h1, rfl⟩ := h
    exact fun_told (impl_samePoint_e _ _) (impl_samePoint_l _ _) h1
  · cases h
noncomputable def D40 : Dt := also D39 145 impl_samePoint_S
theorem d40 : DOk Go.Proofs.Try.prog tab D40 := d39.also mixed_ok tab_ok names_ok noLoops_ok impl_samePoint_s
/-! slices_EqualFunc_impl_Point_impl_Point_impl_Point_impl_Point -/
noncomputable def slices_EqualFunc_impl_Point_impl_Point_impl_Point_impl_Point_E (x y : List TC) : Bool := impl_samePoint_v ((nth x 0).list) ((nth y 0).list)
abbrev slices_EqualFunc_impl_Point_impl_Point_impl_Point_impl_Point_4_σ := List (List TC) × List (List TC) × Int × Int
abbrev slices_EqualFunc_impl_Point_impl_Point_impl_Point_impl_Point_4_ω := (Unit) ⊕ (Unit)
noncomputable def slices_EqualFunc_impl_Point_impl_Point_impl_Point_impl_Point_4_step (C : List (List TC)) (A : List (List TC)) (m : Int) (i : Int) : Tr (slices_EqualFunc_impl_Point_impl_Point_impl_Point_impl_Point_4_σ ⊕ slices_EqualFunc_impl_Point_impl_Point_impl_Point_impl_Point_4_ω) := (.ite ((decide (i < m)) = true) (.ite ((0 : Int) ≤ i ∧ i < (A.length : Int)) (.ite ((0 : Int) ≤ i ∧ i < (C.length : Int)) (.ite ((impl_samePoint_c ((nth (row A i) 0).list) ((nth (row C i) 0).list)) = true) (.ite ((!(impl_samePoint_v ((nth (row A i) 0).list) ((nth (row C i) 0).list))) = true) (.ok (.inr (.inl ())))
      (.ok (.inl (C, A, m, (IntKind.wrap .i64 (i + (1 : Int)))))))
     .no)
    .no)
   .no)
  (.ok (.inr (.inr ()))))
noncomputable def slices_EqualFunc_impl_Point_impl_Point_impl_Point_impl_Point_4_st : slices_EqualFunc_impl_Point_impl_Point_impl_Point_impl_Point_4_σ → Tr (slices_EqualFunc_impl_Point_impl_Point_impl_Point_impl_Point_4_σ ⊕ slices_EqualFunc_impl_Point_impl_Point_impl_Point_impl_Point_4_ω) := fun x => (slices_EqualFunc_impl_Point_impl_Point_impl_Point_impl_Point_4_step (x.1) (x.2.1) (x.2.2.1) (x.2.2.2))
noncomputable def slices_EqualFunc_impl_Point_impl_Point_impl_Point_impl_Point_k4_1 (C : List (List TC)) (A : List (List TC)) (m : Int) (i : Int) : Bool := allEq slices_EqualFunc_impl_Point_impl_Point_impl_Point_impl_Point_E A C
noncomputable def slices_EqualFunc_impl_Point_impl_Point_impl_Point_impl_Point_o4_2 (C : List (List TC)) (A : List (List TC)) (m : Int) (i : Int) : Bool := is (A.length = C.length ∧ i = 0 ∧ Typed tab (.slice 193) (.l A) ∧ m = (A.length : Int) ∧ (∀ x y : List TC, x ∈ A → y ∈ C → impl_samePoint_c ((nth x 0).list) ((nth y 0).list) = true))
noncomputable def slices_EqualFunc_impl_Point_impl_Point_impl_Point_impl_Point_o4_3 (C : List (List TC)) (A : List (List TC)) (m : Int) (i : Int) : Bool := is (A.length = C.length ∧ i = 0 ∧ Typed tab (.slice 193) (.l A) ∧ m = (A.length : Int) ∧ (∀ x y : List TC, x ∈ A → y ∈ C → impl_samePoint_c ((nth x 0).list) ((nth y 0).list) = true))
noncomputable def slices_EqualFunc_impl_Point_impl_Point_impl_Point_impl_Point_4_fin (C : List (List TC)) (A : List (List TC)) (m : Int) (i : Int) : Told slices_EqualFunc_impl_Point_impl_Point_impl_Point_impl_Point_4_ω := (.br (slices_EqualFunc_impl_Point_impl_Point_impl_Point_impl_Point_k4_1 C A m i) (.leaf (slices_EqualFunc_impl_Point_impl_Point_impl_Point_impl_Point_o4_2 C A m i) (.inr ())) (.leaf (slices_EqualFunc_impl_Point_impl_Point_impl_Point_impl_Point_o4_3 C A m i) (.inl ())))
def slices_EqualFunc_impl_Point_impl_Point_impl_Point_impl_Point_4_sl (x : slices_EqualFunc_impl_Point_impl_Point_impl_Point_impl_Point_4_σ) : List Slot := [⟨.val false [⟨.slice 193, .sh, TC.l (x.1)⟩], ⟨0, 0⟩⟩, ⟨.val false [⟨.func, .sh, TC.f 145 []⟩], ⟨0, 0⟩⟩, ⟨.val false [⟨.slice 193, .sh, TC.l (x.2.1)⟩], ⟨0, 0⟩⟩, ⟨.val false [⟨.int .i64, .sh, TC.i (x.2.2.1)⟩], ⟨0, 0⟩⟩, ⟨.val false [⟨.int .i64, .sh, TC.i (x.2.2.2)⟩], ⟨0, 0⟩⟩]
def slices_EqualFunc_impl_Point_impl_Point_impl_Point_impl_Point_4_out : slices_EqualFunc_impl_Point_impl_Point_impl_Point_impl_Point_4_ω → Ex × List Slot := (Sum.elim (fun x => (.ret, [⟨.val false [⟨.bool, .sh, TC.b false⟩], ⟨0, 0⟩⟩])) (fun x => (.exit 0, [Slot.none])))
noncomputable def slices_EqualFunc_impl_Point_impl_Point_impl_Point_impl_Point_lo4 : List Slot → Option (Told (Ex × List Slot)) := fun s => match s with
  | [⟨.val false [⟨.slice 193, .sh, TC.l C⟩], ⟨0, 0⟩⟩, ⟨.val false [⟨.func, .sh, TC.f 145 []⟩], ⟨0, 0⟩⟩, ⟨.val false [⟨.slice 193, .sh, TC.l A⟩], ⟨0, 0⟩⟩, ⟨.val false [⟨.int .i64, .sh, TC.i m⟩], ⟨0, 0⟩⟩, ⟨.val false [⟨.int .i64, .sh, TC.i i⟩], ⟨0, 0⟩⟩] => some (((slices_EqualFunc_impl_Point_impl_Point_impl_Point_impl_Point_4_fin C A m i)).map slices_EqualFunc_impl_Point_impl_Point_impl_Point_impl_Point_4_out)
  | _ => .none
noncomputable def slices_EqualFunc_impl_Point_impl_Point_impl_Point_impl_Point_lo : LoopTeller := fun r s => bif Nat.beq r 4 then slices_EqualFunc_impl_Point_impl_Point_impl_Point_impl_Point_lo4 s else .none
theorem slices_EqualFunc_impl_Point_impl_Point_impl_Point_impl_Point_4_r (C : List (List TC)) (A : List (List TC)) (m : Int) (i : Int) (fuel : Nat) : rounds (rnd tab FT D40 live 144 slices_EqualFunc_impl_Point_impl_Point_impl_Point_impl_Point_lo 0 4) leave (fuel + 1) (slices_EqualFunc_impl_Point_impl_Point_impl_Point_impl_Point_4_sl (C, A, m, i)) = ((slices_EqualFunc_impl_Point_impl_Point_impl_Point_impl_Point_4_step C A m i)).run (goOn (fun s => rounds (rnd tab FT D40 live 144 slices_EqualFunc_impl_Point_impl_Point_impl_Point_impl_Point_lo 0 4) leave fuel (slices_EqualFunc_impl_Point_impl_Point_impl_Point_impl_Point_4_sl s)) fun w => some (slices_EqualFunc_impl_Point_impl_Point_impl_Point_impl_Point_4_out w)) := by kernel_rfl
theorem slices_EqualFunc_impl_Point_impl_Point_impl_Point_impl_Point_4_h (C : List (List TC)) (A : List (List TC)) (m : Int) (i : Int) (ow : slices_EqualFunc_impl_Point_impl_Point_impl_Point_impl_Point_4_ω) : ((slices_EqualFunc_impl_Point_impl_Point_impl_Point_impl_Point_4_fin C A m i)).val = some ow → ∃ fuel, loopN slices_EqualFunc_impl_Point_impl_Point_impl_Point_impl_Point_4_st fuel (C, A, m, i) = some ow := by
  intro h
  have key : A.length = C.length → Typed tab (.slice 193) (.l A) → (∀ x y : List TC, x ∈ A → y ∈ C → impl_samePoint_c ((nth x 0).list) ((nth y 0).list) = true) → loopN slices_EqualFunc_impl_Point_impl_Point_impl_Point_impl_Point_4_st (A.length + 1) (C, A, (A.length : Int), 0) = some (if allEq slices_EqualFunc_impl_Point_impl_Point_impl_Point_impl_Point_E A C = true then .inr () else .inl ()) := by
    intro hl ht hr
    have hlen : A.length ≤ 140737488351232 := by have := typed_room ht; simp only [show (tab 193).bytes = 24 from rfl] at this; omega
    refine loopN_allEq A C slices_EqualFunc_impl_Point_impl_Point_impl_Point_impl_Point_E (fun i => (C, A, (A.length : Int), (i : Int))) _ _ hl (fun i hi => ?_) ?_ A.length 0 (by omega)
    · show (slices_EqualFunc_impl_Point_impl_Point_impl_Point_impl_Point_4_step C A (A.length : Int) (i : Int)).val = _
      unfold slices_EqualFunc_impl_Point_impl_Point_impl_Point_impl_Point_4_step
      refine Tr.t (by simp; omega) ?_
      refine Tr.t (by constructor <;> omega) ?_
      refine Tr.t (by constructor <;> omega) ?_
      refine Tr.t (hr _ _ (mem_getD hi) (mem_getD (by omega))) ?_
      rw [wrap64 (i := (i : Int) + 1) (by omega) (by omega)]
      rw [Tr.val_br]
      show (if (!(slices_EqualFunc_impl_Point_impl_Point_impl_Point_impl_Point_E (A.getD i []) (C.getD i []))) = true then _ else _) = _
      cases slices_EqualFunc_impl_Point_impl_Point_impl_Point_impl_Point_E (A.getD i []) (C.getD i []) <;> rfl
    · show (slices_EqualFunc_impl_Point_impl_Point_impl_Point_impl_Point_4_step C A (A.length : Int) (A.length : Int)).val = _
      refine Tr.n (by simp) ?_
      rfl
  simp only [slices_EqualFunc_impl_Point_impl_Point_impl_Point_impl_Point_4_fin, Told.val] at h
  cases hk : allEq slices_EqualFunc_impl_Point_impl_Point_impl_Point_impl_Point_E A C with
  | true =>
    rw [if_pos (show slices_EqualFunc_impl_Point_impl_Point_impl_Point_impl_Point_k4_1 C A m i = true from hk)] at h
    split at h
    · rename_i ho
      obtain ⟨hl, rfl, ht, rfl, hr⟩ := is_iff.1 ho
      cases h
      refine ⟨_, (key hl ht hr).trans ?_⟩
      rw [hk]; rfl
    · cases h
  | false =>
    rw [if_neg (show ¬slices_EqualFunc_impl_Point_impl_Point_impl_Point_impl_Point_k4_1 C A m i = true from by rw [show slices_EqualFunc_impl_Point_impl_Point_impl_Point_impl_Point_k4_1 C A m i = allEq slices_EqualFunc_impl_Point_impl_Point_impl_Point_impl_Point_E A C from rfl, hk]; simp)] at h
    split at h
    · rename_i ho
      obtain ⟨hl, rfl, ht, rfl, hr⟩ := is_iff.1 ho
      cases h
      refine ⟨_, (key hl ht hr).trans ?_⟩
      rw [hk]; rfl
    · cases h
theorem slices_EqualFunc_impl_Point_impl_Point_impl_Point_impl_Point_is4 : LoopIs tab FT D40 live 144 slices_EqualFunc_impl_Point_impl_Point_impl_Point_impl_Point_lo 0 4 := by
  refine loop_told (sl := slices_EqualFunc_impl_Point_impl_Point_impl_Point_impl_Point_4_sl) (step := slices_EqualFunc_impl_Point_impl_Point_impl_Point_impl_Point_4_st) (out := slices_EqualFunc_impl_Point_impl_Point_impl_Point_impl_Point_4_out) (lor := slices_EqualFunc_impl_Point_impl_Point_impl_Point_impl_Point_lo4) (fin := fun x => (slices_EqualFunc_impl_Point_impl_Point_impl_Point_impl_Point_4_fin (x.1) (x.2.1) (x.2.2.1) (x.2.2.2))) (fun _ => rfl) ?_ (fun x n => slices_EqualFunc_impl_Point_impl_Point_impl_Point_impl_Point_4_r x.1 x.2.1 x.2.2.1 x.2.2.2 n) (fun x ow => slices_EqualFunc_impl_Point_impl_Point_impl_Point_impl_Point_4_h x.1 x.2.1 x.2.2.1 x.2.2.2 ow)
  intro s t h
  unfold slices_EqualFunc_impl_Point_impl_Point_impl_Point_impl_Point_lo4 at h
  split at h
  · cases h; exact ⟨(_, _, _, _), rfl, rfl⟩
  · cases h
noncomputable def slices_EqualFunc_impl_Point_impl_Point_impl_Point_impl_Point_t (A : List (List TC)) (C : List (List TC)) : Tr (Bool) := (.ite ((!((A.length : Int) == (C.length : Int))) = true) (.ok false)
  (.ite ((slices_EqualFunc_impl_Point_impl_Point_impl_Point_impl_Point_k4_1 C A (A.length : Int) (0 : Int)) = true) (.ite ((slices_EqualFunc_impl_Point_impl_Point_impl_Point_impl_Point_o4_2 C A (A.length : Int) (0 : Int)) = true) (.ok true)
    .no)
   (.ite ((slices_EqualFunc_impl_Point_impl_Point_impl_Point_impl_Point_o4_3 C A (A.length : Int) (0 : Int)) = true) (.ok false)
    .no)))
def slices_EqualFunc_impl_Point_impl_Point_impl_Point_impl_Point_mk (p : Bool) : Res := [(false, [⟨.bool, .sh, TC.b p⟩])]
noncomputable def slices_EqualFunc_impl_Point_impl_Point_impl_Point_impl_Point_c (A : List (List TC)) (C : List (List TC)) : Bool := is (Typed tab (.slice 193) (.l A) ∧ (∀ x y : List TC, x ∈ A → y ∈ C → impl_samePoint_c ((nth x 0).list) ((nth y 0).list) = true))
noncomputable def slices_EqualFunc_impl_Point_impl_Point_impl_Point_impl_Point_v (A : List (List TC)) (C : List (List TC)) : Bool := allEq slices_EqualFunc_impl_Point_impl_Point_impl_Point_impl_Point_E A C
theorem slices_EqualFunc_impl_Point_impl_Point_impl_Point_impl_Point_l (A : List (List TC)) (C : List (List TC)) : (slices_EqualFunc_impl_Point_impl_Point_impl_Point_impl_Point_c A C) = true → (slices_EqualFunc_impl_Point_impl_Point_impl_Point_impl_Point_t A C).val = some (slices_EqualFunc_impl_Point_impl_Point_impl_Point_impl_Point_v A C) := by
  intro h
  obtain ⟨ht, hr⟩ := is_iff.1 h
  unfold slices_EqualFunc_impl_Point_impl_Point_impl_Point_impl_Point_t
  by_cases hl : A.length = C.length
  · refine Tr.n (by simp [hl]) ?_
    cases hk : allEq slices_EqualFunc_impl_Point_impl_Point_impl_Point_impl_Point_E A C with
    | true =>
      refine Tr.t (show allEq slices_EqualFunc_impl_Point_impl_Point_impl_Point_impl_Point_E A C = true from hk) ?_
      refine Tr.t (is_true ⟨hl, rfl, ht, rfl, hr⟩) ?_
      show _ = some (allEq slices_EqualFunc_impl_Point_impl_Point_impl_Point_impl_Point_E A C); rw [hk]; rfl
    | false =>
      refine Tr.n (show ¬allEq slices_EqualFunc_impl_Point_impl_Point_impl_Point_impl_Point_E A C = true from by rw [hk]; simp) ?_
      refine Tr.t (is_true ⟨hl, rfl, ht, rfl, hr⟩) ?_
      show _ = some (allEq slices_EqualFunc_impl_Point_impl_Point_impl_Point_impl_Point_E A C); rw [hk]; rfl
  · refine Tr.t (by simp; omega) ?_
    show _ = some (allEq slices_EqualFunc_impl_Point_impl_Point_impl_Point_impl_Point_E A C)
    rw [allEq_ne hl]; rfl
noncomputable def slices_EqualFunc_impl_Point_impl_Point_impl_Point_impl_Point_S : List Arg → Option (Bool × Res) := fun xs => match xs with
  | [(false, [(.slice 193, TC.l A)]), (false, [(.slice 193, TC.l C)]), (false, [(.func, TC.f 145 [])])] => some ((slices_EqualFunc_impl_Point_impl_Point_impl_Point_impl_Point_c A C), slices_EqualFunc_impl_Point_impl_Point_impl_Point_impl_Point_mk (slices_EqualFunc_impl_Point_impl_Point_impl_Point_impl_Point_v A C))
  | _ => .none
theorem slices_EqualFunc_impl_Point_impl_Point_impl_Point_impl_Point_e (A : List (List TC)) (C : List (List TC)) : runF tab FT D40 live 144 slices_EqualFunc_impl_Point_impl_Point_impl_Point_impl_Point_lo [(false, [(.slice 193, TC.l A)]), (false, [(.slice 193, TC.l C)]), (false, [(.func, TC.f 145 [])])] = (slices_EqualFunc_impl_Point_impl_Point_impl_Point_impl_Point_t A C).run fun p => some (slices_EqualFunc_impl_Point_impl_Point_impl_Point_impl_Point_mk p) := by kernel_rfl
theorem slices_EqualFunc_impl_Point_impl_Point_impl_Point_impl_Point_s : ∀ xs r, slices_EqualFunc_impl_Point_impl_Point_impl_Point_impl_Point_S xs = some (true, r) → runF tab FT D40 live 144 slices_EqualFunc_impl_Point_impl_Point_impl_Point_impl_Point_lo xs = some r := by
  intro xs r h
  unfold slices_EqualFunc_impl_Point_impl_Point_impl_Point_impl_Point_S at h
  split at h
  · simp only [Option.some.injEq, Prod.mk.injEq] at h
    obtain ⟨h1, rfl⟩ := h
    exact fun_told (slices_EqualFunc_impl_Point_impl_Point_impl_Point_impl_Point_e _ _) (slices_EqualFunc_impl_Point_impl_Point_impl_Point_impl_Point_l _ _) h1
  · cases h
noncomputable def D41 : Dt := also D40 144 slices_EqualFunc_impl_Point_impl_Point_impl_Point_impl_Point_S
theorem d41 : DOk Go.Proofs.Try.prog tab D41 := d40.also mixed_ok tab_ok names_ok (fnLoops_one (by kernel_rfl) slices_EqualFunc_impl_Point_impl_Point_impl_Point_impl_Point_is4) slices_EqualFunc_impl_Point_impl_Point_impl_Point_impl_Point_s
/-! impl_SameSelection -/
noncomputable def impl_SameSelection_t (sk : Int) (A : List (List TC)) (B : List (List TC)) (C : List (List TC)) (Q : List (List TC)) (P : List (List TC)) (sk2 : Int) (A2 : List (List TC)) (B2 : List (List TC)) (C2 : List (List TC)) (Q2 : List (List TC)) (P2 : List (List TC)) : Tr (Bool) := (.ite ((sk == sk2) = true) (.ite ((slices_EqualFunc_int64_int64_int64_int64_c [[TC.l A], [TC.l B], [TC.l C], [TC.l Q]] [[TC.l A2], [TC.l B2], [TC.l C2], [TC.l Q2]]) = true) (.ite ((slices_EqualFunc_int64_int64_int64_int64_v [[TC.l A], [TC.l B], [TC.l C], [TC.l Q]] [[TC.l A2], [TC.l B2], [TC.l C2], [TC.l Q2]]) = true) (.ite ((slices_EqualFunc_impl_Point_impl_Point_impl_Point_impl_Point_c P P2) = true) (.ok (slices_EqualFunc_impl_Point_impl_Point_impl_Point_impl_Point_v P P2))
     .no)
    (.ok false))
   .no)
  (.ok false))
def impl_SameSelection_mk (p : Bool) : Res := [(false, [⟨.bool, .sh, TC.b p⟩])]
noncomputable def impl_SameSelection_c (sk : Int) (A : List (List TC)) (B : List (List TC)) (C : List (List TC)) (Q : List (List TC)) (P : List (List TC)) (sk2 : Int) (A2 : List (List TC)) (B2 : List (List TC)) (C2 : List (List TC)) (Q2 : List (List TC)) (P2 : List (List TC)) : Bool := (bif (sk == sk2) then ((slices_EqualFunc_int64_int64_int64_int64_c [[TC.l A], [TC.l B], [TC.l C], [TC.l Q]] [[TC.l A2], [TC.l B2], [TC.l C2], [TC.l Q2]]) && (bif (slices_EqualFunc_int64_int64_int64_int64_v [[TC.l A], [TC.l B], [TC.l C], [TC.l Q]] [[TC.l A2], [TC.l B2], [TC.l C2], [TC.l Q2]]) then ((slices_EqualFunc_impl_Point_impl_Point_impl_Point_impl_Point_c P P2) && true) else true)) else true)
noncomputable def impl_SameSelection_v (sk : Int) (A : List (List TC)) (B : List (List TC)) (C : List (List TC)) (Q : List (List TC)) (P : List (List TC)) (sk2 : Int) (A2 : List (List TC)) (B2 : List (List TC)) (C2 : List (List TC)) (Q2 : List (List TC)) (P2 : List (List TC)) : Bool := (bif (sk == sk2) then (bif (slices_EqualFunc_int64_int64_int64_int64_v [[TC.l A], [TC.l B], [TC.l C], [TC.l Q]] [[TC.l A2], [TC.l B2], [TC.l C2], [TC.l Q2]]) then (slices_EqualFunc_impl_Point_impl_Point_impl_Point_impl_Point_v P P2) else false) else false)
theorem impl_SameSelection_l (sk : Int) (A : List (List TC)) (B : List (List TC)) (C : List (List TC)) (Q : List (List TC)) (P : List (List TC)) (sk2 : Int) (A2 : List (List TC)) (B2 : List (List TC)) (C2 : List (List TC)) (Q2 : List (List TC)) (P2 : List (List TC)) : (impl_SameSelection_c sk A B C Q P sk2 A2 B2 C2 Q2 P2) = true → (impl_SameSelection_t sk A B C Q P sk2 A2 B2 C2 Q2 P2).val = some (impl_SameSelection_v sk A B C Q P sk2 A2 B2 C2 Q2 P2) := by
  unfold impl_SameSelection_t impl_SameSelection_v impl_SameSelection_c
  exact fun h => (Tr.ss h (fun h => (Tr.gb h fun h => (Tr.ss h (fun h => (Tr.gb h fun h => rfl)) (fun h => rfl)))) (fun h => rfl))
noncomputable def impl_SameSelection_S : List Arg → Option (Bool × Res) := fun xs => match xs with
  | [(true, [(.int .i64, TC.i sk), (.slice 2, TC.l A), (.slice 2, TC.l B), (.slice 2, TC.l C), (.slice 2, TC.l Q), (.slice 193, TC.l P)]), (true, [(.int .i64, TC.i sk2), (.slice 2, TC.l A2), (.slice 2, TC.l B2), (.slice 2, TC.l C2), (.slice 2, TC.l Q2), (.slice 193, TC.l P2)])] => some ((impl_SameSelection_c sk A B C Q P sk2 A2 B2 C2 Q2 P2), impl_SameSelection_mk (impl_SameSelection_v sk A B C Q P sk2 A2 B2 C2 Q2 P2))
  | _ => .none
theorem impl_SameSelection_e (sk : Int) (A : List (List TC)) (B : List (List TC)) (C : List (List TC)) (Q : List (List TC)) (P : List (List TC)) (sk2 : Int) (A2 : List (List TC)) (B2 : List (List TC)) (C2 : List (List TC)) (Q2 : List (List TC)) (P2 : List (List TC)) : runF tab FT D41 live 112 noLoops [(true, [(.int .i64, TC.i sk), (.slice 2, TC.l A), (.slice 2, TC.l B), (.slice 2, TC.l C), (.slice 2, TC.l Q), (.slice 193, TC.l P)]), (true, [(.int .i64, TC.i sk2), (.slice 2, TC.l A2), (.slice 2, TC.l B2), (.slice 2, TC.l C2), (.slice 2, TC.l Q2), (.slice 193, TC.l P2)])] = (impl_SameSelection_t sk A B C Q P sk2 A2 B2 C2 Q2 P2).run fun p => some (impl_SameSelection_mk p) := by kernel_rfl
theorem impl_SameSelection_s : ∀ xs r, impl_SameSelection_S xs = some (true, r) → runF tab FT D41 live 112 noLoops xs = some r := by
  intro xs r h
  unfold impl_SameSelection_S at h
  split at h
  · simp only [Option.some.injEq, Prod.mk.injEq] at h
    obtain ⟨h1, rfl⟩ := h
    exact fun_told (impl_SameSelection_e _ _ _ _ _ _ _ _ _ _ _ _) (impl_SameSelection_l _ _ _ _ _ _ _ _ _ _ _ _) h1
  · cases h
noncomputable def D42 : Dt := also D41 112 impl_SameSelection_S
theorem d42 : DOk Go.Proofs.Try.prog tab D42 := d41.also mixed_ok tab_ok names_ok noLoops_ok impl_SameSelection_s

theorem sel_lists {A B C Q : List (List TC)} (tA : Typed tab (.slice 2) (.l A)) (tB : Typed tab (.slice 2) (.l B)) (tC : Typed tab (.slice 2) (.l C)) (tQ : Typed tab (.slice 2) (.l Q)) : Typed tab (.slice 41) (.l [[TC.l A], [TC.l B], [TC.l C], [TC.l Q]]) := by
  refine .slice _ _ (by show 4 * 24 ≤ 140737488351232; omega) (by show 4 ≤ maxLen; unfold maxLen; omega) (fun x hx => ?_) (fun x hx k hk => ?_)
  · simp only [List.mem_cons, List.not_mem_nil, or_false] at hx
    rcases hx with rfl | rfl | rfl | rfl <;> rfl
  · have hk : k = 0 := by have : k < 1 := hk; omega
    subst hk
    simp only [List.mem_cons, List.not_mem_nil, or_false] at hx
    rcases hx with rfl | rfl | rfl | rfl <;> assumption
theorem impl_SameSelection_cc {sk sk2 : Int} {A B C Q P A2 B2 C2 Q2 P2 : List (List TC)} (tA : Typed tab (.slice 2) (.l A)) (tB : Typed tab (.slice 2) (.l B)) (tC : Typed tab (.slice 2) (.l C)) (tQ : Typed tab (.slice 2) (.l Q)) (tP : Typed tab (.slice 193) (.l P)) : impl_SameSelection_c sk A B C Q P sk2 A2 B2 C2 Q2 P2 = true := by
  have e1 : slices_EqualFunc_int64_int64_int64_int64_c [[TC.l A], [TC.l B], [TC.l C], [TC.l Q]] [[TC.l A2], [TC.l B2], [TC.l C2], [TC.l Q2]] = true := is_true ⟨sel_lists tA tB tC tQ, fun x y hx hy => by
    simp only [List.mem_cons, List.not_mem_nil, or_false] at hx
    rcases hx with rfl | rfl | rfl | rfl <;> exact is_true (by assumption)⟩
  have e2 : slices_EqualFunc_impl_Point_impl_Point_impl_Point_impl_Point_c P P2 = true := is_true ⟨tP, fun x y hx hy => is_true (typed_list ((typed_elem tP hx).2 0 (by decide)))⟩
  unfold impl_SameSelection_c
  first | (simp only [e1, e2, Bool.true_and, Bool.and_true, bif_same]; done) | (simp [e1, e2, is_iff, bif_same])
theorem impl_SameSelection_q {sk sk2 : Int} {A B C Q P A2 B2 C2 Q2 P2 : List (List TC)} (tA : Typed tab (.slice 2) (.l A)) (tB : Typed tab (.slice 2) (.l B)) (tC : Typed tab (.slice 2) (.l C)) (tQ : Typed tab (.slice 2) (.l Q)) (tP : Typed tab (.slice 193) (.l P)) (tA2 : Typed tab (.slice 2) (.l A2)) (tB2 : Typed tab (.slice 2) (.l B2)) (tC2 : Typed tab (.slice 2) (.l C2)) (tQ2 : Typed tab (.slice 2) (.l Q2)) (tP2 : Typed tab (.slice 193) (.l P2)) : impl_SameSelection_v sk A B C Q P sk2 A2 B2 C2 Q2 P2 = selV sk A B C Q P sk2 A2 B2 C2 Q2 P2 := by
  unfold impl_SameSelection_v selV
  rw [show slices_EqualFunc_int64_int64_int64_int64_v [[TC.l A], [TC.l B], [TC.l C], [TC.l Q]] [[TC.l A2], [TC.l B2], [TC.l C2], [TC.l Q2]] = (allEq E_2 A A2 && (allEq E_2 B B2 && (allEq E_2 C C2 && (allEq E_2 Q Q2 && true)))) from rfl, l00_eqL tA tA2, l00_eqL tB tB2, l00_eqL tC tC2, l00_eqL tQ tQ2, show slices_EqualFunc_impl_Point_impl_Point_impl_Point_impl_Point_v P P2 = eqL P P2 from pts_eqL (E := slices_EqualFunc_impl_Point_impl_Point_impl_Point_impl_Point_E) (fun _ _ => rfl) tP tP2]
  simp only [bif_ft, Bool.and_true, Bool.and_assoc]
/-! impl_sameMapping -/
noncomputable def impl_sameMapping_t (a0 : List UInt8) (a1 : Int) (a2 : List (List TC)) (a3 : List (List TC)) (a4 : List (List TC)) (a5 : List (List TC)) (a6 : List (List TC)) (a7 : Int) (a8 : List (List TC)) (a9 : List (List TC)) (a10 : List (List TC)) (a11 : List (List TC)) (a12 : List (List TC)) (a13 : List UInt8) (a14 : Int) (a15 : List (List TC)) (a16 : List (List TC)) (a17 : List (List TC)) (a18 : List (List TC)) (a19 : List (List TC)) (a20 : Int) (a21 : List (List TC)) (a22 : List (List TC)) (a23 : List (List TC)) (a24 : List (List TC)) (a25 : List (List TC)) : Tr (Bool) := (.ite ((a0 == a13) = true) (.ite ((impl_SameSelection_c a1 a2 a3 a4 a5 a6 a14 a15 a16 a17 a18 a19) = true) (.ite ((impl_SameSelection_v a1 a2 a3 a4 a5 a6 a14 a15 a16 a17 a18 a19) = true) (.ite ((impl_SameSelection_c a7 a8 a9 a10 a11 a12 a20 a21 a22 a23 a24 a25) = true) (.ok (impl_SameSelection_v a7 a8 a9 a10 a11 a12 a20 a21 a22 a23 a24 a25))
     .no)
    (.ok false))
   .no)
  (.ok false))
def impl_sameMapping_mk (p : Bool) : Res := [(false, [⟨.bool, .sh, TC.b p⟩])]
noncomputable def impl_sameMapping_c (a0 : List UInt8) (a1 : Int) (a2 : List (List TC)) (a3 : List (List TC)) (a4 : List (List TC)) (a5 : List (List TC)) (a6 : List (List TC)) (a7 : Int) (a8 : List (List TC)) (a9 : List (List TC)) (a10 : List (List TC)) (a11 : List (List TC)) (a12 : List (List TC)) (a13 : List UInt8) (a14 : Int) (a15 : List (List TC)) (a16 : List (List TC)) (a17 : List (List TC)) (a18 : List (List TC)) (a19 : List (List TC)) (a20 : Int) (a21 : List (List TC)) (a22 : List (List TC)) (a23 : List (List TC)) (a24 : List (List TC)) (a25 : List (List TC)) : Bool := is (((impl_SameSelection_c a1 a2 a3 a4 a5 a6 a14 a15 a16 a17 a18 a19) = true) ∧ ((impl_SameSelection_c a7 a8 a9 a10 a11 a12 a20 a21 a22 a23 a24 a25) = true))
noncomputable def impl_sameMapping_v (a0 : List UInt8) (a1 : Int) (a2 : List (List TC)) (a3 : List (List TC)) (a4 : List (List TC)) (a5 : List (List TC)) (a6 : List (List TC)) (a7 : Int) (a8 : List (List TC)) (a9 : List (List TC)) (a10 : List (List TC)) (a11 : List (List TC)) (a12 : List (List TC)) (a13 : List UInt8) (a14 : Int) (a15 : List (List TC)) (a16 : List (List TC)) (a17 : List (List TC)) (a18 : List (List TC)) (a19 : List (List TC)) (a20 : Int) (a21 : List (List TC)) (a22 : List (List TC)) (a23 : List (List TC)) (a24 : List (List TC)) (a25 : List (List TC)) : Bool := (bif (a0 == a13) then (bif (impl_SameSelection_v a1 a2 a3 a4 a5 a6 a14 a15 a16 a17 a18 a19) then (impl_SameSelection_v a7 a8 a9 a10 a11 a12 a20 a21 a22 a23 a24 a25) else false) else false)
theorem impl_sameMapping_l (a0 : List UInt8) (a1 : Int) (a2 : List (List TC)) (a3 : List (List TC)) (a4 : List (List TC)) (a5 : List (List TC)) (a6 : List (List TC)) (a7 : Int) (a8 : List (List TC)) (a9 : List (List TC)) (a10 : List (List TC)) (a11 : List (List TC)) (a12 : List (List TC)) (a13 : List UInt8) (a14 : Int) (a15 : List (List TC)) (a16 : List (List TC)) (a17 : List (List TC)) (a18 : List (List TC)) (a19 : List (List TC)) (a20 : Int) (a21 : List (List TC)) (a22 : List (List TC)) (a23 : List (List TC)) (a24 : List (List TC)) (a25 : List (List TC)) : (impl_sameMapping_c a0 a1 a2 a3 a4 a5 a6 a7 a8 a9 a10 a11 a12 a13 a14 a15 a16 a17 a18 a19 a20 a21 a22 a23 a24 a25) = true → (impl_sameMapping_t a0 a1 a2 a3 a4 a5 a6 a7 a8 a9 a10 a11 a12 a13 a14 a15 a16 a17 a18 a19 a20 a21 a22 a23 a24 a25).val = some (impl_sameMapping_v a0 a1 a2 a3 a4 a5 a6 a7 a8 a9 a10 a11 a12 a13 a14 a15 a16 a17 a18 a19 a20 a21 a22 a23 a24 a25) := by
  intro h
  obtain ⟨g0, g1⟩ := is_iff.1 h
  unfold impl_sameMapping_t impl_sameMapping_v
  exact (Tr.s (Tr.t g0 (Tr.s (Tr.t g1 rfl) rfl)) rfl)
noncomputable def impl_sameMapping_S : List Arg → Option (Bool × Res) := fun xs => match xs with
  | [(true, [(.str, TC.s a0), (.int .i64, TC.i a1), (.slice 2, TC.l a2), (.slice 2, TC.l a3), (.slice 2, TC.l a4), (.slice 2, TC.l a5), (.slice 193, TC.l a6), (.int .i64, TC.i a7), (.slice 2, TC.l a8), (.slice 2, TC.l a9), (.slice 2, TC.l a10), (.slice 2, TC.l a11), (.slice 193, TC.l a12)]), (true, [(.str, TC.s a13), (.int .i64, TC.i a14), (.slice 2, TC.l a15), (.slice 2, TC.l a16), (.slice 2, TC.l a17), (.slice 2, TC.l a18), (.slice 193, TC.l a19), (.int .i64, TC.i a20), (.slice 2, TC.l a21), (.slice 2, TC.l a22), (.slice 2, TC.l a23), (.slice 2, TC.l a24), (.slice 193, TC.l a25)])] => some ((impl_sameMapping_c a0 a1 a2 a3 a4 a5 a6 a7 a8 a9 a10 a11 a12 a13 a14 a15 a16 a17 a18 a19 a20 a21 a22 a23 a24 a25), impl_sameMapping_mk (impl_sameMapping_v a0 a1 a2 a3 a4 a5 a6 a7 a8 a9 a10 a11 a12 a13 a14 a15 a16 a17 a18 a19 a20 a21 a22 a23 a24 a25))
  | _ => .none
theorem impl_sameMapping_e (a0 : List UInt8) (a1 : Int) (a2 : List (List TC)) (a3 : List (List TC)) (a4 : List (List TC)) (a5 : List (List TC)) (a6 : List (List TC)) (a7 : Int) (a8 : List (List TC)) (a9 : List (List TC)) (a10 : List (List TC)) (a11 : List (List TC)) (a12 : List (List TC)) (a13 : List UInt8) (a14 : Int) (a15 : List (List TC)) (a16 : List (List TC)) (a17 : List (List TC)) (a18 : List (List TC)) (a19 : List (List TC)) (a20 : Int) (a21 : List (List TC)) (a22 : List (List TC)) (a23 : List (List TC)) (a24 : List (List TC)) (a25 : List (List TC)) : runF tab FT D42 live 85 noLoops [(true, [(.str, TC.s a0), (.int .i64, TC.i a1), (.slice 2, TC.l a2), (.slice 2, TC.l a3), (.slice 2, TC.l a4), (.slice 2, TC.l a5), (.slice 193, TC.l a6), (.int .i64, TC.i a7), (.slice 2, TC.l a8), (.slice 2, TC.l a9), (.slice 2, TC.l a10), (.slice 2, TC.l a11), (.slice 193, TC.l a12)]), (true, [(.str, TC.s a13), (.int .i64, TC.i a14), (.slice 2, TC.l a15), (.slice 2, TC.l a16), (.slice 2, TC.l a17), (.slice 2, TC.l a18), (.slice 193, TC.l a19), (.int .i64, TC.i a20), (.slice 2, TC.l a21), (.slice 2, TC.l a22), (.slice 2, TC.l a23), (.slice 2, TC.l a24), (.slice 193, TC.l a25)])] = (impl_sameMapping_t a0 a1 a2 a3 a4 a5 a6 a7 a8 a9 a10 a11 a12 a13 a14 a15 a16 a17 a18 a19 a20 a21 a22 a23 a24 a25).run fun p => some (impl_sameMapping_mk p) := by kernel_rfl
theorem impl_sameMapping_s : ∀ xs r, impl_sameMapping_S xs = some (true, r) → runF tab FT D42 live 85 noLoops xs = some r := by
  intro xs r h
  unfold impl_sameMapping_S at h
  split at h
  · simp only [Option.some.injEq, Prod.mk.injEq] at h
    obtain ⟨h1, rfl⟩ := h
    exact fun_told (impl_sameMapping_e _ _ _ _ _ _ _ _ _ _ _ _ _ _ _ _ _ _ _ _ _ _ _ _ _ _) (impl_sameMapping_l _ _ _ _ _ _ _ _ _ _ _ _ _ _ _ _ _ _ _ _ _ _ _ _ _ _) h1
  · cases h
noncomputable def D43 : Dt := also D42 85 impl_sameMapping_S
theorem d43 : DOk Go.Proofs.Try.prog tab D43 := d42.also mixed_ok tab_ok names_ok noLoops_ok impl_sameMapping_s
/-! slices_EqualFunc_impl_Mapping_impl_Mapping_impl_Mapping_impl_Mapping -/
noncomputable def slices_EqualFunc_impl_Mapping_impl_Mapping_impl_Mapping_impl_Mapping_E (x y : List TC) : Bool := impl_sameMapping_v ((nth x 0).str) ((nth x 1).int) ((nth x 2).list) ((nth x 3).list) ((nth x 4).list) ((nth x 5).list) ((nth x 6).list) ((nth x 7).int) ((nth x 8).list) ((nth x 9).list) ((nth x 10).list) ((nth x 11).list) ((nth x 12).list) ((nth y 0).str) ((nth y 1).int) ((nth y 2).list) ((nth y 3).list) ((nth y 4).list) ((nth y 5).list) ((nth y 6).list) ((nth y 7).int) ((nth y 8).list) ((nth y 9).list) ((nth y 10).list) ((nth y 11).list) ((nth y 12).list)
abbrev slices_EqualFunc_impl_Mapping_impl_Mapping_impl_Mapping_impl_Mapping_4_σ := List (List TC) × List (List TC) × Int × Int
abbrev slices_EqualFunc_impl_Mapping_impl_Mapping_impl_Mapping_impl_Mapping_4_ω := (Unit) ⊕ (Unit)
noncomputable def slices_EqualFunc_impl_Mapping_impl_Mapping_impl_Mapping_impl_Mapping_4_step (C : List (List TC)) (A : List (List TC)) (m : Int) (i : Int) : Tr (slices_EqualFunc_impl_Mapping_impl_Mapping_impl_Mapping_impl_Mapping_4_σ ⊕ slices_EqualFunc_impl_Mapping_impl_Mapping_impl_Mapping_impl_Mapping_4_ω) := (.ite ((decide (i < m)) = true) (.ite ((0 : Int) ≤ i ∧ i < (A.length : Int)) (.ite ((0 : Int) ≤ i ∧ i < (C.length : Int)) (.ite ((impl_sameMapping_c ((nth (row A i) 0).str) ((nth (row A i) 1).int) ((nth (row A i) 2).list) ((nth (row A i) 3).list) ((nth (row A i) 4).list) ((nth (row A i) 5).list) ((nth (row A i) 6).list) ((nth (row A i) 7).int) ((nth (row A i) 8).list) ((nth (row A i) 9).list) ((nth (row A i) 10).list) ((nth (row A i) 11).list) ((nth (row A i) 12).list) ((nth (row C i) 0).str) ((nth (row C i) 1).int) ((nth (row C i) 2).list) ((nth (row C i) 3).list) ((nth (row C i) 4).list) ((nth (row C i) 5).list) ((nth (row C i) 6).list) ((nth (row C i) 7).int) ((nth (row C i) 8).list) ((nth (row C i) 9).list) ((nth (row C i) 10).list) ((nth (row C i) 11).list) ((nth (row C i) 12).list)) = true) (.ite ((!(impl_sameMapping_v ((nth (row A i) 0).str) ((nth (row A i) 1).int) ((nth (row A i) 2).list) ((nth (row A i) 3).list) ((nth (row A i) 4).list) ((nth (row A i) 5).list) ((nth (row A i) 6).list) ((nth (row A i) 7).int) ((nth (row A i) 8).list) ((nth (row A i) 9).list) ((nth (row A i) 10).list) ((nth (row A i) 11).list) ((nth (row A i) 12).list) ((nth (row C i) 0).str) ((nth (row C i) 1).int) ((nth (row C i) 2).list) ((nth (row C i) 3).list) ((nth (row C i) 4).list) ((nth (row C i) 5).list) ((nth (row C i) 6).list) ((nth (row C i) 7).int) ((nth (row C i) 8).list) ((nth (row C i) 9).list) ((nth (row C i) 10).list) ((nth (row C i) 11).list) ((nth (row C i) 12).list))) = true) (.ok (.inr (.inl ())))
      (.ok (.inl (C, A, m, (IntKind.wrap .i64 (i + (1 : Int)))))))
     .no)
    .no)
   .no)
  (.ok (.inr (.inr ()))))
noncomputable def slices_EqualFunc_impl_Mapping_impl_Mapping_impl_Mapping_impl_Mapping_4_st : slices_EqualFunc_impl_Mapping_impl_Mapping_impl_Mapping_impl_Mapping_4_σ → Tr (slices_EqualFunc_impl_Mapping_impl_Mapping_impl_Mapping_impl_Mapping_4_σ ⊕ slices_EqualFunc_impl_Mapping_impl_Mapping_impl_Mapping_impl_Mapping_4_ω) := fun x => (slices_EqualFunc_impl_Mapping_impl_Mapping_impl_Mapping_impl_Mapping_4_step (x.1) (x.2.1) (x.2.2.1) (x.2.2.2))
noncomputable def slices_EqualFunc_impl_Mapping_impl_Mapping_impl_Mapping_impl_Mapping_k4_1 (C : List (List TC)) (A : List (List TC)) (m : Int) (i : Int) : Bool := allEq slices_EqualFunc_impl_Mapping_impl_Mapping_impl_Mapping_impl_Mapping_E A C
noncomputable def slices_EqualFunc_impl_Mapping_impl_Mapping_impl_Mapping_impl_Mapping_o4_2 (C : List (List TC)) (A : List (List TC)) (m : Int) (i : Int) : Bool := is (A.length = C.length ∧ i = 0 ∧ Typed tab (.slice 128) (.l A) ∧ m = (A.length : Int) ∧ (∀ x y : List TC, x ∈ A → y ∈ C → impl_sameMapping_c ((nth x 0).str) ((nth x 1).int) ((nth x 2).list) ((nth x 3).list) ((nth x 4).list) ((nth x 5).list) ((nth x 6).list) ((nth x 7).int) ((nth x 8).list) ((nth x 9).list) ((nth x 10).list) ((nth x 11).list) ((nth x 12).list) ((nth y 0).str) ((nth y 1).int) ((nth y 2).list) ((nth y 3).list) ((nth y 4).list) ((nth y 5).list) ((nth y 6).list) ((nth y 7).int) ((nth y 8).list) ((nth y 9).list) ((nth y 10).list) ((nth y 11).list) ((nth y 12).list) = true))
noncomputable def slices_EqualFunc_impl_Mapping_impl_Mapping_impl_Mapping_impl_Mapping_o4_3 (C : List (List TC)) (A : List (List TC)) (m : Int) (i : Int) : Bool := is (A.length = C.length ∧ i = 0 ∧ Typed tab (.slice 128) (.l A) ∧ m = (A.length : Int) ∧ (∀ x y : List TC, x ∈ A → y ∈ C → impl_sameMapping_c ((nth x 0).str) ((nth x 1).int) ((nth x 2).list) ((nth x 3).list) ((nth x 4).list) ((nth x 5).list) ((nth x 6).list) ((nth x 7).int) ((nth x 8).list) ((nth x 9).list) ((nth x 10).list) ((nth x 11).list) ((nth x 12).list) ((nth y 0).str) ((nth y 1).int) ((nth y 2).list) ((nth y 3).list) ((nth y 4).list) ((nth y 5).list) ((nth y 6).list) ((nth y 7).int) ((nth y 8).list) ((nth y 9).list) ((nth y 10).list) ((nth y 11).list) ((nth y 12).list) = true))
noncomputable def slices_EqualFunc_impl_Mapping_impl_Mapping_impl_Mapping_impl_Mapping_4_fin (C : List (List TC)) (A : List (List TC)) (m : Int) (i : Int) : Told slices_EqualFunc_impl_Mapping_impl_Mapping_impl_Mapping_impl_Mapping_4_ω := (.br (slices_EqualFunc_impl_Mapping_impl_Mapping_impl_Mapping_impl_Mapping_k4_1 C A m i) (.leaf (slices_EqualFunc_impl_Mapping_impl_Mapping_impl_Mapping_impl_Mapping_o4_2 C A m i) (.inr ())) (.leaf (slices_EqualFunc_impl_Mapping_impl_Mapping_impl_Mapping_impl_Mapping_o4_3 C A m i) (.inl ())))
def slices_EqualFunc_impl_Mapping_impl_Mapping_impl_Mapping_impl_Mapping_4_sl (x : slices_EqualFunc_impl_Mapping_impl_Mapping_impl_Mapping_impl_Mapping_4_σ) : List Slot := [⟨.val false [⟨.slice 128, .sh, TC.l (x.1)⟩], ⟨0, 0⟩⟩, ⟨.val false [⟨.func, .sh, TC.f 85 []⟩], ⟨0, 0⟩⟩, ⟨.val false [⟨.slice 128, .sh, TC.l (x.2.1)⟩], ⟨0, 0⟩⟩, ⟨.val false [⟨.int .i64, .sh, TC.i (x.2.2.1)⟩], ⟨0, 0⟩⟩, ⟨.val false [⟨.int .i64, .sh, TC.i (x.2.2.2)⟩], ⟨0, 0⟩⟩]
def slices_EqualFunc_impl_Mapping_impl_Mapping_impl_Mapping_impl_Mapping_4_out : slices_EqualFunc_impl_Mapping_impl_Mapping_impl_Mapping_impl_Mapping_4_ω → Ex × List Slot := (Sum.elim (fun x => (.ret, [⟨.val false [⟨.bool, .sh, TC.b false⟩], ⟨0, 0⟩⟩])) (fun x => (.exit 0, [Slot.none])))
noncomputable def slices_EqualFunc_impl_Mapping_impl_Mapping_impl_Mapping_impl_Mapping_lo4 : List Slot → Option (Told (Ex × List Slot)) := fun s => match s with
  | [⟨.val false [⟨.slice 128, .sh, TC.l C⟩], ⟨0, 0⟩⟩, ⟨.val false [⟨.func, .sh, TC.f 85 []⟩], ⟨0, 0⟩⟩, ⟨.val false [⟨.slice 128, .sh, TC.l A⟩], ⟨0, 0⟩⟩, ⟨.val false [⟨.int .i64, .sh, TC.i m⟩], ⟨0, 0⟩⟩, ⟨.val false [⟨.int .i64, .sh, TC.i i⟩], ⟨0, 0⟩⟩] => some (((slices_EqualFunc_impl_Mapping_impl_Mapping_impl_Mapping_impl_Mapping_4_fin C A m i)).map slices_EqualFunc_impl_Mapping_impl_Mapping_impl_Mapping_impl_Mapping_4_out)
  | _ => .none
noncomputable def slices_EqualFunc_impl_Mapping_impl_Mapping_impl_Mapping_impl_Mapping_lo : LoopTeller := fun r s => bif Nat.beq r 4 then slices_EqualFunc_impl_Mapping_impl_Mapping_impl_Mapping_impl_Mapping_lo4 s else .none
theorem slices_EqualFunc_impl_Mapping_impl_Mapping_impl_Mapping_impl_Mapping_4_r (C : List (List TC)) (A : List (List TC)) (m : Int) (i : Int) (fuel : Nat) : rounds (rnd tab FT D43 live 84 slices_EqualFunc_impl_Mapping_impl_Mapping_impl_Mapping_impl_Mapping_lo 0 4) leave (fuel + 1) (slices_EqualFunc_impl_Mapping_impl_Mapping_impl_Mapping_impl_Mapping_4_sl (C, A, m, i)) = ((slices_EqualFunc_impl_Mapping_impl_Mapping_impl_Mapping_impl_Mapping_4_step C A m i)).run (goOn (fun s => rounds (rnd tab FT D43 live 84 slices_EqualFunc_impl_Mapping_impl_Mapping_impl_Mapping_impl_Mapping_lo 0 4) leave fuel (slices_EqualFunc_impl_Mapping_impl_Mapping_impl_Mapping_impl_Mapping_4_sl s)) fun w => some (slices_EqualFunc_impl_Mapping_impl_Mapping_impl_Mapping_impl_Mapping_4_out w)) := by kernel_rfl
theorem slices_EqualFunc_impl_Mapping_impl_Mapping_impl_Mapping_impl_Mapping_4_h (C : List (List TC)) (A : List (List TC)) (m : Int) (i : Int) (ow : slices_EqualFunc_impl_Mapping_impl_Mapping_impl_Mapping_impl_Mapping_4_ω) : ((slices_EqualFunc_impl_Mapping_impl_Mapping_impl_Mapping_impl_Mapping_4_fin C A m i)).val = some ow → ∃ fuel, loopN slices_EqualFunc_impl_Mapping_impl_Mapping_impl_Mapping_impl_Mapping_4_st fuel (C, A, m, i) = some ow := by
  intro h
  have key : A.length = C.length → Typed tab (.slice 128) (.l A) → (∀ x y : List TC, x ∈ A → y ∈ C → impl_sameMapping_c ((nth x 0).str) ((nth x 1).int) ((nth x 2).list) ((nth x 3).list) ((nth x 4).list) ((nth x 5).list) ((nth x 6).list) ((nth x 7).int) ((nth x 8).list) ((nth x 9).list) ((nth x 10).list) ((nth x 11).list) ((nth x 12).list) ((nth y 0).str) ((nth y 1).int) ((nth y 2).list) ((nth y 3).list) ((nth y 4).list) ((nth y 5).list) ((nth y 6).list) ((nth y 7).int) ((nth y 8).list) ((nth y 9).list) ((nth y 10).list) ((nth y 11).list) ((nth y 12).list) = true) → loopN slices_EqualFunc_impl_Mapping_impl_Mapping_impl_Mapping_impl_Mapping_4_st (A.length + 1) (C, A, (A.length : Int), 0) = some (if allEq slices_EqualFunc_impl_Mapping_impl_Mapping_impl_Mapping_impl_Mapping_E A C = true then .inr () else .inl ()) := by
    intro hl ht hr
    have hlen : A.length ≤ 140737488351232 := by have := typed_room ht; simp only [show (tab 128).bytes = 272 from rfl] at this; omega
    refine loopN_allEq A C slices_EqualFunc_impl_Mapping_impl_Mapping_impl_Mapping_impl_Mapping_E (fun i => (C, A, (A.length : Int), (i : Int))) _ _ hl (fun i hi => ?_) ?_ A.length 0 (by omega)
    · show (slices_EqualFunc_impl_Mapping_impl_Mapping_impl_Mapping_impl_Mapping_4_step C A (A.length : Int) (i : Int)).val = _
      unfold slices_EqualFunc_impl_Mapping_impl_Mapping_impl_Mapping_impl_Mapping_4_step
      refine Tr.t (by simp; omega) ?_
      refine Tr.t (by constructor <;> omega) ?_
      refine Tr.t (by constructor <;> omega) ?_
      refine Tr.t (hr _ _ (mem_getD hi) (mem_getD (by omega))) ?_
      rw [wrap64 (i := (i : Int) + 1) (by omega) (by omega)]
      rw [Tr.val_br]
      show (if (!(slices_EqualFunc_impl_Mapping_impl_Mapping_impl_Mapping_impl_Mapping_E (A.getD i []) (C.getD i []))) = true then _ else _) = _
      cases slices_EqualFunc_impl_Mapping_impl_Mapping_impl_Mapping_impl_Mapping_E (A.getD i []) (C.getD i []) <;> rfl
    · show (slices_EqualFunc_impl_Mapping_impl_Mapping_impl_Mapping_impl_Mapping_4_step C A (A.length : Int) (A.length : Int)).val = _
      refine Tr.n (by simp) ?_
      rfl
  simp only [slices_EqualFunc_impl_Mapping_impl_Mapping_impl_Mapping_impl_Mapping_4_fin, Told.val] at h
  cases hk : allEq slices_EqualFunc_impl_Mapping_impl_Mapping_impl_Mapping_impl_Mapping_E A C with
  | true =>
    rw [if_pos (show slices_EqualFunc_impl_Mapping_impl_Mapping_impl_Mapping_impl_Mapping_k4_1 C A m i = true from hk)] at h
    split at h
    · rename_i ho
      obtain ⟨hl, rfl, ht, rfl, hr⟩ := is_iff.1 ho
      cases h
      refine ⟨_, (key hl ht hr).trans ?_⟩
      rw [hk]; rfl
    · cases h
  | false =>
    rw [if_neg (show ¬slices_EqualFunc_impl_Mapping_impl_Mapping_impl_Mapping_impl_Mapping_k4_1 C A m i = true from by rw [show slices_EqualFunc_impl_Mapping_impl_Mapping_impl_Mapping_impl_Mapping_k4_1 C A m i = allEq slices_EqualFunc_impl_Mapping_impl_Mapping_impl_Mapping_impl_Mapping_E A C from rfl, hk]; simp)] at h
    split at h
    · rename_i ho
      obtain ⟨hl, rfl, ht, rfl, hr⟩ := is_iff.1 ho
      cases h
      refine ⟨_, (key hl ht hr).trans ?_⟩
      rw [hk]; rfl
    · cases h
theorem slices_EqualFunc_impl_Mapping_impl_Mapping_impl_Mapping_impl_Mapping_is4 : LoopIs tab FT D43 live 84 slices_EqualFunc_impl_Mapping_impl_Mapping_impl_Mapping_impl_Mapping_lo 0 4 := by
  refine loop_told (sl := slices_EqualFunc_impl_Mapping_impl_Mapping_impl_Mapping_impl_Mapping_4_sl) (step := slices_EqualFunc_impl_Mapping_impl_Mapping_impl_Mapping_impl_Mapping_4_st) (out := slices_EqualFunc_impl_Mapping_impl_Mapping_impl_Mapping_impl_Mapping_4_out) (lor := slices_EqualFunc_impl_Mapping_impl_Mapping_impl_Mapping_impl_Mapping_lo4) (fin := fun x => (slices_EqualFunc_impl_Mapping_impl_Mapping_impl_Mapping_impl_Mapping_4_fin (x.1) (x.2.1) (x.2.2.1) (x.2.2.2))) (fun _ => rfl) ?_ (fun x n => slices_EqualFunc_impl_Mapping_impl_Mapping_impl_Mapping_impl_Mapping_4_r x.1 x.2.1 x.2.2.1 x.2.2.2 n) (fun x ow => slices_EqualFunc_impl_Mapping_impl_Mapping_impl_Mapping_impl_Mapping_4_h x.1 x.2.1 x.2.2.1 x.2.2.2 ow)
  intro s t h
  unfold slices_EqualFunc_impl_Mapping_impl_Mapping_impl_Mapping_impl_Mapping_lo4 at h
  split at h
  · cases h; exact ⟨(_, _, _, _), rfl, rfl⟩
  · cases h
noncomputable def slices_EqualFunc_impl_Mapping_impl_Mapping_impl_Mapping_impl_Mapping_t (A : List (List TC)) (C : List (List TC)) : Tr (Bool) := (.ite ((!((A.length : Int) == (C.length : Int))) = true) (.ok false)
  (.ite ((slices_EqualFunc_impl_Mapping_impl_Mapping_impl_Mapping_impl_Mapping_k4_1 C A (A.length : Int) (0 : Int)) = true) (.ite ((slices_EqualFunc_impl_Mapping_impl_Mapping_impl_Mapping_impl_Mapping_o4_2 C A (A.length : Int) (0 : Int)) = true) (.ok true)
    .no)
   (.ite ((slices_EqualFunc_impl_Mapping_impl_Mapping_impl_Mapping_impl_Mapping_o4_3 C A (A.length : Int) (0 : Int)) = true) (.ok false)
    .no)))
def slices_EqualFunc_impl_Mapping_impl_Mapping_impl_Mapping_impl_Mapping_mk (p : Bool) : Res := [(false, [⟨.bool, .sh, TC.b p⟩])]
noncomputable def slices_EqualFunc_impl_Mapping_impl_Mapping_impl_Mapping_impl_Mapping_c (A : List (List TC)) (C : List (List TC)) : Bool := is (Typed tab (.slice 128) (.l A) ∧ (∀ x y : List TC, x ∈ A → y ∈ C → impl_sameMapping_c ((nth x 0).str) ((nth x 1).int) ((nth x 2).list) ((nth x 3).list) ((nth x 4).list) ((nth x 5).list) ((nth x 6).list) ((nth x 7).int) ((nth x 8).list) ((nth x 9).list) ((nth x 10).list) ((nth x 11).list) ((nth x 12).list) ((nth y 0).str) ((nth y 1).int) ((nth y 2).list) ((nth y 3).list) ((nth y 4).list) ((nth y 5).list) ((nth y 6).list) ((nth y 7).int) ((nth y 8).list) ((nth y 9).list) ((nth y 10).list) ((nth y 11).list) ((nth y 12).list) = true))
noncomputable def slices_EqualFunc_impl_Mapping_impl_Mapping_impl_Mapping_impl_Mapping_v (A : List (List TC)) (C : List (List TC)) : Bool := allEq slices_EqualFunc_impl_Mapping_impl_Mapping_impl_Mapping_impl_Mapping_E A C
theorem slices_EqualFunc_impl_Mapping_impl_Mapping_impl_Mapping_impl_Mapping_l (A : List (List TC)) (C : List (List TC)) : (slices_EqualFunc_impl_Mapping_impl_Mapping_impl_Mapping_impl_Mapping_c A C) = true → (slices_EqualFunc_impl_Mapping_impl_Mapping_impl_Mapping_impl_Mapping_t A C).val = some (slices_EqualFunc_impl_Mapping_impl_Mapping_impl_Mapping_impl_Mapping_v A C) := by
  intro h
  obtain ⟨ht, hr⟩ := is_iff.1 h
  unfold slices_EqualFunc_impl_Mapping_impl_Mapping_impl_Mapping_impl_Mapping_t
  by_cases hl : A.length = C.length
  · refine Tr.n (by simp [hl]) ?_
    cases hk : allEq slices_EqualFunc_impl_Mapping_impl_Mapping_impl_Mapping_impl_Mapping_E A C with
    | true =>
      refine Tr.t (show allEq slices_EqualFunc_impl_Mapping_impl_Mapping_impl_Mapping_impl_Mapping_E A C = true from hk) ?_
      refine Tr.t (is_true ⟨hl, rfl, ht, rfl, hr⟩) ?_
      show _ = some (allEq slices_EqualFunc_impl_Mapping_impl_Mapping_impl_Mapping_impl_Mapping_E A C); rw [hk]; rfl
    | false =>
      refine Tr.n (show ¬allEq slices_EqualFunc_impl_Mapping_impl_Mapping_impl_Mapping_impl_Mapping_E A C = true from by rw [hk]; simp) ?_
      refine Tr.t (is_true ⟨hl, rfl, ht, rfl, hr⟩) ?_
      show _ = some (allEq slices_EqualFunc_impl_Mapping_impl_Mapping_impl_Mapping_impl_Mapping_E A C); rw [hk]; rfl
  · refine Tr.t (by simp; omega) ?_
    show _ = some (allEq slices_EqualFunc_impl_Mapping_impl_Mapping_impl_Mapping_impl_Mapping_E A C)
    rw [allEq_ne hl]; rfl
noncomputable def slices_EqualFunc_impl_Mapping_impl_Mapping_impl_Mapping_impl_Mapping_S : List Arg → Option (Bool × Res) := fun xs => match xs with
  | [(false, [(.slice 128, TC.l A)]), (false, [(.slice 128, TC.l C)]), (false, [(.func, TC.f 85 [])])] => some ((slices_EqualFunc_impl_Mapping_impl_Mapping_impl_Mapping_impl_Mapping_c A C), slices_EqualFunc_impl_Mapping_impl_Mapping_impl_Mapping_impl_Mapping_mk (slices_EqualFunc_impl_Mapping_impl_Mapping_impl_Mapping_impl_Mapping_v A C))
  | _ => .none
theorem slices_EqualFunc_impl_Mapping_impl_Mapping_impl_Mapping_impl_Mapping_e (A : List (List TC)) (C : List (List TC)) : runF tab FT D43 live 84 slices_EqualFunc_impl_Mapping_impl_Mapping_impl_Mapping_impl_Mapping_lo [(false, [(.slice 128, TC.l A)]), (false, [(.slice 128, TC.l C)]), (false, [(.func, TC.f 85 [])])] = (slices_EqualFunc_impl_Mapping_impl_Mapping_impl_Mapping_impl_Mapping_t A C).run fun p => some (slices_EqualFunc_impl_Mapping_impl_Mapping_impl_Mapping_impl_Mapping_mk p) := by kernel_rfl
theorem slices_EqualFunc_impl_Mapping_impl_Mapping_impl_Mapping_impl_Mapping_s : ∀ xs r, slices_EqualFunc_impl_Mapping_impl_Mapping_impl_Mapping_impl_Mapping_S xs = some (true, r) → runF tab FT D43 live 84 slices_EqualFunc_impl_Mapping_impl_Mapping_impl_Mapping_impl_Mapping_lo xs = some r := by
  intro xs r h
  unfold slices_EqualFunc_impl_Mapping_impl_Mapping_impl_Mapping_impl_Mapping_S at h
  split at h
  · simp only [Option.some.injEq, Prod.mk.injEq] at h
    obtain ⟨h1, rfl⟩ := h
    exact fun_told (slices_EqualFunc_impl_Mapping_impl_Mapping_impl_Mapping_impl_Mapping_e _ _) (slices_EqualFunc_impl_Mapping_impl_Mapping_impl_Mapping_impl_Mapping_l _ _) h1
  · cases h
noncomputable def D44 : Dt := also D43 84 slices_EqualFunc_impl_Mapping_impl_Mapping_impl_Mapping_impl_Mapping_S
theorem d44 : DOk Go.Proofs.Try.prog tab D44 := d43.also mixed_ok tab_ok names_ok (fnLoops_one (by kernel_rfl) slices_EqualFunc_impl_Mapping_impl_Mapping_impl_Mapping_impl_Mapping_is4) slices_EqualFunc_impl_Mapping_impl_Mapping_impl_Mapping_impl_Mapping_s
/-! impl_SameVirtual -/
noncomputable def impl_SameVirtual_t (k : Int) (s : Int) (sg : Bool) (bg : Bool) (NA : List (List TC)) (NU : List (List TC)) (ME : List (List TC)) (BA : List (List TC)) (ct : Int) (DI : List (List TC)) (FI : List UInt8) (MA : List (List TC)) (k2 : Int) (s2 : Int) (sg2 : Bool) (bg2 : Bool) (NA2 : List (List TC)) (NU2 : List (List TC)) (ME2 : List (List TC)) (BA2 : List (List TC)) (ct2 : Int) (DI2 : List (List TC)) (FI2 : List UInt8) (MA2 : List (List TC)) : Tr (Bool) := (.ite ((impl_SameType_rc k s sg bg NA NU ME BA ct k2 s2 sg2 bg2 NA2 NU2 ME2 BA2 ct2) = true) (.ite ((impl_SameType_rv k s sg bg NA NU ME BA ct k2 s2 sg2 bg2 NA2 NU2 ME2 BA2 ct2) = true) (.ite ((slices_Equal_int64_int64_c DI DI2) = true) (.ite ((slices_Equal_int64_int64_v DI DI2) = true) (.ite ((FI == FI2) = true) (.ite ((slices_EqualFunc_impl_Mapping_impl_Mapping_impl_Mapping_impl_Mapping_c MA MA2) = true) (.ok (slices_EqualFunc_impl_Mapping_impl_Mapping_impl_Mapping_impl_Mapping_v MA MA2))
       .no)
      (.ok false))
     (.ok false))
    .no)
   (.ok false))
  .no)
def impl_SameVirtual_mk (p : Bool) : Res := [(false, [⟨.bool, .sh, TC.b p⟩])]
noncomputable def impl_SameVirtual_c (k : Int) (s : Int) (sg : Bool) (bg : Bool) (NA : List (List TC)) (NU : List (List TC)) (ME : List (List TC)) (BA : List (List TC)) (ct : Int) (DI : List (List TC)) (FI : List UInt8) (MA : List (List TC)) (k2 : Int) (s2 : Int) (sg2 : Bool) (bg2 : Bool) (NA2 : List (List TC)) (NU2 : List (List TC)) (ME2 : List (List TC)) (BA2 : List (List TC)) (ct2 : Int) (DI2 : List (List TC)) (FI2 : List UInt8) (MA2 : List (List TC)) : Bool := ((impl_SameType_rc k s sg bg NA NU ME BA ct k2 s2 sg2 bg2 NA2 NU2 ME2 BA2 ct2) && (bif (impl_SameType_rv k s sg bg NA NU ME BA ct k2 s2 sg2 bg2 NA2 NU2 ME2 BA2 ct2) then ((slices_Equal_int64_int64_c DI DI2) && (bif (slices_Equal_int64_int64_v DI DI2) then (bif (FI == FI2) then ((slices_EqualFunc_impl_Mapping_impl_Mapping_impl_Mapping_impl_Mapping_c MA MA2) && true) else true) else true)) else true))
noncomputable def impl_SameVirtual_v (k : Int) (s : Int) (sg : Bool) (bg : Bool) (NA : List (List TC)) (NU : List (List TC)) (ME : List (List TC)) (BA : List (List TC)) (ct : Int) (DI : List (List TC)) (FI : List UInt8) (MA : List (List TC)) (k2 : Int) (s2 : Int) (sg2 : Bool) (bg2 : Bool) (NA2 : List (List TC)) (NU2 : List (List TC)) (ME2 : List (List TC)) (BA2 : List (List TC)) (ct2 : Int) (DI2 : List (List TC)) (FI2 : List UInt8) (MA2 : List (List TC)) : Bool := (bif (impl_SameType_rv k s sg bg NA NU ME BA ct k2 s2 sg2 bg2 NA2 NU2 ME2 BA2 ct2) then (bif (slices_Equal_int64_int64_v DI DI2) then (bif (FI == FI2) then (slices_EqualFunc_impl_Mapping_impl_Mapping_impl_Mapping_impl_Mapping_v MA MA2) else false) else false) else false)
theorem impl_SameVirtual_l (k : Int) (s : Int) (sg : Bool) (bg : Bool) (NA : List (List TC)) (NU : List (List TC)) (ME : List (List TC)) (BA : List (List TC)) (ct : Int) (DI : List (List TC)) (FI : List UInt8) (MA : List (List TC)) (k2 : Int) (s2 : Int) (sg2 : Bool) (bg2 : Bool) (NA2 : List (List TC)) (NU2 : List (List TC)) (ME2 : List (List TC)) (BA2 : List (List TC)) (ct2 : Int) (DI2 : List (List TC)) (FI2 : List UInt8) (MA2 : List (List TC)) : (impl_SameVirtual_c k s sg bg NA NU ME BA ct DI FI MA k2 s2 sg2 bg2 NA2 NU2 ME2 BA2 ct2 DI2 FI2 MA2) = true → (impl_SameVirtual_t k s sg bg NA NU ME BA ct DI FI MA k2 s2 sg2 bg2 NA2 NU2 ME2 BA2 ct2 DI2 FI2 MA2).val = some (impl_SameVirtual_v k s sg bg NA NU ME BA ct DI FI MA k2 s2 sg2 bg2 NA2 NU2 ME2 BA2 ct2 DI2 FI2 MA2) := by
  unfold impl_SameVirtual_t impl_SameVirtual_v impl_SameVirtual_c
  exact fun h => (Tr.gb h fun h => (Tr.ss h (fun h => (Tr.gb h fun h => (Tr.ss h (fun h => (Tr.ss h (fun h => (Tr.gb h fun h => rfl)) (fun h => rfl))) (fun h => rfl)))) (fun h => rfl)))
noncomputable def impl_SameVirtual_S : List Arg → Option (Bool × Res) := fun xs => match xs with
  | [(true, [(.int .i64, TC.i k), (.int .i64, TC.i s), (.bool, TC.b sg), (.bool, TC.b bg), (.slice 9, TC.l NA), (.slice 2, TC.l NU), (.slice 147, TC.l ME), (.slice 55, TC.l BA), (.int .i64, TC.i ct), (.slice 2, TC.l DI), (.str, TC.s FI), (.slice 128, TC.l MA)]), (true, [(.int .i64, TC.i k2), (.int .i64, TC.i s2), (.bool, TC.b sg2), (.bool, TC.b bg2), (.slice 9, TC.l NA2), (.slice 2, TC.l NU2), (.slice 147, TC.l ME2), (.slice 55, TC.l BA2), (.int .i64, TC.i ct2), (.slice 2, TC.l DI2), (.str, TC.s FI2), (.slice 128, TC.l MA2)])] => some ((impl_SameVirtual_c k s sg bg NA NU ME BA ct DI FI MA k2 s2 sg2 bg2 NA2 NU2 ME2 BA2 ct2 DI2 FI2 MA2), impl_SameVirtual_mk (impl_SameVirtual_v k s sg bg NA NU ME BA ct DI FI MA k2 s2 sg2 bg2 NA2 NU2 ME2 BA2 ct2 DI2 FI2 MA2))
  | _ => .none
theorem impl_SameVirtual_e (k : Int) (s : Int) (sg : Bool) (bg : Bool) (NA : List (List TC)) (NU : List (List TC)) (ME : List (List TC)) (BA : List (List TC)) (ct : Int) (DI : List (List TC)) (FI : List UInt8) (MA : List (List TC)) (k2 : Int) (s2 : Int) (sg2 : Bool) (bg2 : Bool) (NA2 : List (List TC)) (NU2 : List (List TC)) (ME2 : List (List TC)) (BA2 : List (List TC)) (ct2 : Int) (DI2 : List (List TC)) (FI2 : List UInt8) (MA2 : List (List TC)) : runF tab FT D44 live 35 noLoops [(true, [(.int .i64, TC.i k), (.int .i64, TC.i s), (.bool, TC.b sg), (.bool, TC.b bg), (.slice 9, TC.l NA), (.slice 2, TC.l NU), (.slice 147, TC.l ME), (.slice 55, TC.l BA), (.int .i64, TC.i ct), (.slice 2, TC.l DI), (.str, TC.s FI), (.slice 128, TC.l MA)]), (true, [(.int .i64, TC.i k2), (.int .i64, TC.i s2), (.bool, TC.b sg2), (.bool, TC.b bg2), (.slice 9, TC.l NA2), (.slice 2, TC.l NU2), (.slice 147, TC.l ME2), (.slice 55, TC.l BA2), (.int .i64, TC.i ct2), (.slice 2, TC.l DI2), (.str, TC.s FI2), (.slice 128, TC.l MA2)])] = (impl_SameVirtual_t k s sg bg NA NU ME BA ct DI FI MA k2 s2 sg2 bg2 NA2 NU2 ME2 BA2 ct2 DI2 FI2 MA2).run fun p => some (impl_SameVirtual_mk p) := by kernel_rfl
theorem impl_SameVirtual_s : ∀ xs r, impl_SameVirtual_S xs = some (true, r) → runF tab FT D44 live 35 noLoops xs = some r := by
  intro xs r h
  unfold impl_SameVirtual_S at h
  split at h
  · simp only [Option.some.injEq, Prod.mk.injEq] at h
    obtain ⟨h1, rfl⟩ := h
    exact fun_told (impl_SameVirtual_e _ _ _ _ _ _ _ _ _ _ _ _ _ _ _ _ _ _ _ _ _ _ _ _) (impl_SameVirtual_l _ _ _ _ _ _ _ _ _ _ _ _ _ _ _ _ _ _ _ _ _ _ _ _) h1
  · cases h
noncomputable def D45 : Dt := also D44 35 impl_SameVirtual_S
theorem d45 : DOk Go.Proofs.Try.prog tab D45 := d44.also mixed_ok tab_ok names_ok noLoops_ok impl_SameVirtual_s
theorem impl_SameVirtual_cc {k s : Int} {sg bg : Bool} {NA NU ME BA : List (List TC)} {ct : Int} {DI : List (List TC)} {FI : List UInt8} {MA : List (List TC)} {k2 s2 : Int} {sg2 bg2 : Bool} {NA2 NU2 ME2 BA2 : List (List TC)} {ct2 : Int} {DI2 : List (List TC)} {FI2 : List UInt8} {MA2 : List (List TC)} (si : impl_SameType_rc k s sg bg NA NU ME BA ct k2 s2 sg2 bg2 NA2 NU2 ME2 BA2 ct2 = true) (tD : Typed tab (.slice 2) (.l DI)) (tM : Typed tab (.slice 128) (.l MA)) : impl_SameVirtual_c k s sg bg NA NU ME BA ct DI FI MA k2 s2 sg2 bg2 NA2 NU2 ME2 BA2 ct2 DI2 FI2 MA2 = true := by
  have c1 : slices_Equal_int64_int64_c DI DI2 = true := is_true tD
  have c2 : slices_EqualFunc_impl_Mapping_impl_Mapping_impl_Mapping_impl_Mapping_c MA MA2 = true := is_true ⟨tM, fun x y hx hy => by
    unfold impl_sameMapping_c
    simp [is_iff, bif_same, impl_SameSelection_cc (typed_list ((typed_elem tM hx).2 2 (by decide))) (typed_list ((typed_elem tM hx).2 3 (by decide))) (typed_list ((typed_elem tM hx).2 4 (by decide))) (typed_list ((typed_elem tM hx).2 5 (by decide))) (typed_list ((typed_elem tM hx).2 6 (by decide))), impl_SameSelection_cc (typed_list ((typed_elem tM hx).2 8 (by decide))) (typed_list ((typed_elem tM hx).2 9 (by decide))) (typed_list ((typed_elem tM hx).2 10 (by decide))) (typed_list ((typed_elem tM hx).2 11 (by decide))) (typed_list ((typed_elem tM hx).2 12 (by decide)))]⟩
  unfold impl_SameVirtual_c
  simp only [si, c1, c2, Bool.true_and, Bool.and_true, bif_same]
theorem impl_SameVirtual_q {k s : Int} {sg bg : Bool} {NA NU ME BA : List (List TC)} {ct : Int} {DI : List (List TC)} {FI : List UInt8} {MA : List (List TC)} {k2 s2 : Int} {sg2 bg2 : Bool} {NA2 NU2 ME2 BA2 : List (List TC)} {ct2 : Int} {DI2 : List (List TC)} {FI2 : List UInt8} {MA2 : List (List TC)} (tD : Typed tab (.slice 2) (.l DI)) (tD2 : Typed tab (.slice 2) (.l DI2)) (tM : Typed tab (.slice 128) (.l MA)) (tM2 : Typed tab (.slice 128) (.l MA2)) : impl_SameVirtual_v k s sg bg NA NU ME BA ct DI FI MA k2 s2 sg2 bg2 NA2 NU2 ME2 BA2 ct2 DI2 FI2 MA2 = (sameV k s sg bg NA NU ME BA ct k2 s2 sg2 bg2 NA2 NU2 ME2 BA2 ct2 && (eqL DI DI2 && ((FI == FI2) && eqL MA MA2))) := by
  unfold impl_SameVirtual_v
  rw [show impl_SameType_rv k s sg bg NA NU ME BA ct k2 s2 sg2 bg2 NA2 NU2 ME2 BA2 ct2 = sameV k s sg bg NA NU ME BA ct k2 s2 sg2 bg2 NA2 NU2 ME2 BA2 ct2 from rfl, show slices_Equal_int64_int64_v DI DI2 = eqL DI DI2 from l00_eqL tD tD2, show slices_EqualFunc_impl_Mapping_impl_Mapping_impl_Mapping_impl_Mapping_v MA MA2 = eqL MA MA2 from allEq_eqL (E := slices_EqualFunc_impl_Mapping_impl_Mapping_impl_Mapping_impl_Mapping_E) (fun x y hx hy => by
    constructor
    · intro h
      have hh : (nth x 0).str = (nth y 0).str ∧ (nth x 1).int = (nth y 1).int ∧ (nth x 2).list = (nth y 2).list ∧ (nth x 3).list = (nth y 3).list ∧ (nth x 4).list = (nth y 4).list ∧ (nth x 5).list = (nth y 5).list ∧ (nth x 6).list = (nth y 6).list ∧ (nth x 7).int = (nth y 7).int ∧ (nth x 8).list = (nth y 8).list ∧ (nth x 9).list = (nth y 9).list ∧ (nth x 10).list = (nth y 10).list ∧ (nth x 11).list = (nth y 11).list ∧ (nth x 12).list = (nth y 12).list := by
        have h : (bif ((nth x 0).str == (nth y 0).str) then (bif impl_SameSelection_v (nth x 1).int (nth x 2).list (nth x 3).list (nth x 4).list (nth x 5).list (nth x 6).list (nth y 1).int (nth y 2).list (nth y 3).list (nth y 4).list (nth y 5).list (nth y 6).list then impl_SameSelection_v (nth x 7).int (nth x 8).list (nth x 9).list (nth x 10).list (nth x 11).list (nth x 12).list (nth y 7).int (nth y 8).list (nth y 9).list (nth y 10).list (nth y 11).list (nth y 12).list else false) else false) = true := h
        simp only [bif_ft, Bool.and_eq_true] at h
        obtain ⟨p, h1, h2⟩ := h
        rw [impl_SameSelection_q (typed_list ((typed_elem tM hx).2 2 (by decide))) (typed_list ((typed_elem tM hx).2 3 (by decide))) (typed_list ((typed_elem tM hx).2 4 (by decide))) (typed_list ((typed_elem tM hx).2 5 (by decide))) (typed_list ((typed_elem tM hx).2 6 (by decide))) (typed_list ((typed_elem tM2 hy).2 2 (by decide))) (typed_list ((typed_elem tM2 hy).2 3 (by decide))) (typed_list ((typed_elem tM2 hy).2 4 (by decide))) (typed_list ((typed_elem tM2 hy).2 5 (by decide))) (typed_list ((typed_elem tM2 hy).2 6 (by decide)))] at h1
        rw [impl_SameSelection_q (typed_list ((typed_elem tM hx).2 8 (by decide))) (typed_list ((typed_elem tM hx).2 9 (by decide))) (typed_list ((typed_elem tM hx).2 10 (by decide))) (typed_list ((typed_elem tM hx).2 11 (by decide))) (typed_list ((typed_elem tM hx).2 12 (by decide))) (typed_list ((typed_elem tM2 hy).2 8 (by decide))) (typed_list ((typed_elem tM2 hy).2 9 (by decide))) (typed_list ((typed_elem tM2 hy).2 10 (by decide))) (typed_list ((typed_elem tM2 hy).2 11 (by decide))) (typed_list ((typed_elem tM2 hy).2 12 (by decide)))] at h2
        simp only [selV, Bool.and_eq_true, beq_iff_eq, eqL_iff] at p h1 h2
        exact ⟨p, h1.1, h1.2.1, h1.2.2.1, h1.2.2.2.1, h1.2.2.2.2.1, h1.2.2.2.2.2, h2.1, h2.2.1, h2.2.2.1, h2.2.2.2.1, h2.2.2.2.2.1, h2.2.2.2.2.2⟩
      obtain ⟨e0, e1, e2, e3, e4, e5, e6, e7, e8, e9, e10, e11, e12⟩ := hh
      have hx' := form_128 tM hx
      have hy' := form_128 tM2 hy
      rw [hx', hy', e0, e1, e2, e3, e4, e5, e6, e7, e8, e9, e10, e11, e12]
    · rintro rfl
      show (bif ((nth x 0).str == (nth x 0).str) then (bif impl_SameSelection_v (nth x 1).int (nth x 2).list (nth x 3).list (nth x 4).list (nth x 5).list (nth x 6).list (nth x 1).int (nth x 2).list (nth x 3).list (nth x 4).list (nth x 5).list (nth x 6).list then impl_SameSelection_v (nth x 7).int (nth x 8).list (nth x 9).list (nth x 10).list (nth x 11).list (nth x 12).list (nth x 7).int (nth x 8).list (nth x 9).list (nth x 10).list (nth x 11).list (nth x 12).list else false) else false) = true
      rw [impl_SameSelection_q (typed_list ((typed_elem tM hx).2 2 (by decide))) (typed_list ((typed_elem tM hx).2 3 (by decide))) (typed_list ((typed_elem tM hx).2 4 (by decide))) (typed_list ((typed_elem tM hx).2 5 (by decide))) (typed_list ((typed_elem tM hx).2 6 (by decide))) (typed_list ((typed_elem tM2 hy).2 2 (by decide))) (typed_list ((typed_elem tM2 hy).2 3 (by decide))) (typed_list ((typed_elem tM2 hy).2 4 (by decide))) (typed_list ((typed_elem tM2 hy).2 5 (by decide))) (typed_list ((typed_elem tM2 hy).2 6 (by decide))), impl_SameSelection_q (typed_list ((typed_elem tM hx).2 8 (by decide))) (typed_list ((typed_elem tM hx).2 9 (by decide))) (typed_list ((typed_elem tM hx).2 10 (by decide))) (typed_list ((typed_elem tM hx).2 11 (by decide))) (typed_list ((typed_elem tM hx).2 12 (by decide))) (typed_list ((typed_elem tM2 hy).2 8 (by decide))) (typed_list ((typed_elem tM2 hy).2 9 (by decide))) (typed_list ((typed_elem tM2 hy).2 10 (by decide))) (typed_list ((typed_elem tM2 hy).2 11 (by decide))) (typed_list ((typed_elem tM2 hy).2 12 (by decide)))]
      simp [selV, eqL_refl])]
  simp only [bif_ft]
/-! laws_eqStringS -/
abbrev laws_eqStringS_4_σ := List (List TC) × List (List TC) × Int
abbrev laws_eqStringS_4_ω := (Unit) ⊕ (Unit)
noncomputable def laws_eqStringS_4_step (A : List (List TC)) (C : List (List TC)) (i : Int) : Tr (laws_eqStringS_4_σ ⊕ laws_eqStringS_4_ω) := (.ite ((decide (i < (A.length : Int))) = true) (.ite ((0 : Int) ≤ i ∧ i < (A.length : Int)) (.ite ((0 : Int) ≤ i ∧ i < (C.length : Int)) (.ite ((!((nth (row A i) 0).str == (nth (row C i) 0).str)) = true) (.ok (.inr (.inl ())))
     (.ok (.inl (A, C, (IntKind.wrap .i64 (i + (1 : Int)))))))
    .no)
   .no)
  (.ok (.inr (.inr ()))))
noncomputable def laws_eqStringS_4_st : laws_eqStringS_4_σ → Tr (laws_eqStringS_4_σ ⊕ laws_eqStringS_4_ω) := fun x => (laws_eqStringS_4_step (x.1) (x.2.1) (x.2.2))
noncomputable def laws_eqStringS_o4_1 (A : List (List TC)) (C : List (List TC)) (i : Int) : Bool := is (A = C ∧ Typed tab (.slice 9) (.l A) ∧ i = 0)
noncomputable def laws_eqStringS_4_fin (A : List (List TC)) (C : List (List TC)) (i : Int) : Told laws_eqStringS_4_ω := (.leaf (laws_eqStringS_o4_1 A C i) (.inr ()))
def laws_eqStringS_4_sl (x : laws_eqStringS_4_σ) : List Slot := [⟨.val false [⟨.slice 9, .sh, TC.l (x.1)⟩], ⟨0, 0⟩⟩, ⟨.val false [⟨.slice 9, .sh, TC.l (x.2.1)⟩], ⟨0, 0⟩⟩, ⟨.val false [⟨.int .i64, .sh, TC.i (x.2.2)⟩], ⟨0, 0⟩⟩]
def laws_eqStringS_4_out : laws_eqStringS_4_ω → Ex × List Slot := (Sum.elim (fun x => (.ret, [⟨.val false [⟨.bool, .sh, TC.b false⟩], ⟨0, 0⟩⟩])) (fun x => (.exit 0, [Slot.none])))
noncomputable def laws_eqStringS_lo4 : List Slot → Option (Told (Ex × List Slot)) := fun s => match s with
  | [⟨.val false [⟨.slice 9, .sh, TC.l A⟩], ⟨0, 0⟩⟩, ⟨.val false [⟨.slice 9, .sh, TC.l C⟩], ⟨0, 0⟩⟩, ⟨.val false [⟨.int .i64, .sh, TC.i i⟩], ⟨0, 0⟩⟩] => some (((laws_eqStringS_4_fin A C i)).map laws_eqStringS_4_out)
  | _ => .none
noncomputable def laws_eqStringS_lo : LoopTeller := fun r s => bif Nat.beq r 4 then laws_eqStringS_lo4 s else .none
theorem laws_eqStringS_4_r (A : List (List TC)) (C : List (List TC)) (i : Int) (fuel : Nat) : rounds (rnd tab FT D45 live 18 laws_eqStringS_lo 0 4) leave (fuel + 1) (laws_eqStringS_4_sl (A, C, i)) = ((laws_eqStringS_4_step A C i)).run (goOn (fun s => rounds (rnd tab FT D45 live 18 laws_eqStringS_lo 0 4) leave fuel (laws_eqStringS_4_sl s)) fun w => some (laws_eqStringS_4_out w)) := by kernel_rfl
theorem laws_eqStringS_4_h (A : List (List TC)) (C : List (List TC)) (i : Int) (ow : laws_eqStringS_4_ω) : ((laws_eqStringS_4_fin A C i)).val = some ow → ∃ fuel, loopN laws_eqStringS_4_st fuel (A, C, i) = some ow := by
  intro h
  refine auto_leaf (R := Sum.inr ()) (fun ho => ?_) h
  obtain ⟨rfl, ht, rfl⟩ := is_iff.1 ho
  have hlen : A.length ≤ 140737488351232 := by have := typed_room ht; simp only [show (tab 9).bytes = 16 from rfl] at this; omega
  refine ⟨_, loopN_run (N := A.length) (fun i => (A, A, (i : Int))) (fun i hi => ?_) ?_ A.length 0 (by omega)⟩
  · have c0 : Typed tab (.str) (.s (nth (A.getD i []) 0).str) := typed_s (typed_cell ht (A.getD i []) (mem_getD hi) 0 (by decide))
    show (laws_eqStringS_4_step A A (i : Int)).val = _
    unfold laws_eqStringS_4_step
    refine Tr.t (by simp; omega) ?_
    refine Tr.t (by first | omega | (constructor <;> omega)) ?_
    refine Tr.t (by first | omega | (constructor <;> omega)) ?_
    refine Tr.n (by simp [impl_SameType_rv, laws_szType_rv, laws_toType_rv, spec_SameType_rv]) ?_
    rw [Tr.val_ok, wrap64 (i := (i : Int) + 1) (by omega) (by omega)]; rfl
  · show (laws_eqStringS_4_step A A (A.length : Int)).val = _
    refine Tr.n (by simp) ?_
    rfl
theorem laws_eqStringS_is4 : LoopIs tab FT D45 live 18 laws_eqStringS_lo 0 4 := by
  refine loop_told (sl := laws_eqStringS_4_sl) (step := laws_eqStringS_4_st) (out := laws_eqStringS_4_out) (lor := laws_eqStringS_lo4) (fin := fun x => (laws_eqStringS_4_fin (x.1) (x.2.1) (x.2.2))) (fun _ => rfl) ?_ (fun x n => laws_eqStringS_4_r x.1 x.2.1 x.2.2 n) (fun x ow => laws_eqStringS_4_h x.1 x.2.1 x.2.2 ow)
  intro s t h
  unfold laws_eqStringS_lo4 at h
  split at h
  · cases h; exact ⟨(_, _, _), rfl, rfl⟩
  · cases h
noncomputable def laws_eqStringS_t (A : List (List TC)) (C : List (List TC)) : Tr (Bool) := (.ite ((!((A.length : Int) == (C.length : Int))) = true) (.ok false)
  (.ite ((laws_eqStringS_o4_1 A C (0 : Int)) = true) (.ok true)
   .no))
def laws_eqStringS_mk (p : Bool) : Res := [(false, [⟨.bool, .sh, TC.b p⟩])]
noncomputable def laws_eqStringS_c (A : List (List TC)) (C : List (List TC)) : Bool := is (A = C ∧ Typed tab (.slice 9) (.l A))
noncomputable def laws_eqStringS_v (A : List (List TC)) (C : List (List TC)) : Bool := true
theorem laws_eqStringS_l (A : List (List TC)) (C : List (List TC)) : (laws_eqStringS_c A C) = true → (laws_eqStringS_t A C).val = some (laws_eqStringS_v A C) := by
  intro h
  obtain ⟨rfl, ht⟩ := is_iff.1 h
  unfold laws_eqStringS_t
  refine Tr.n (by simp) ?_
  refine Tr.t (is_true ⟨rfl, ht, rfl⟩) ?_
  rfl
noncomputable def laws_eqStringS_S : List Arg → Option (Bool × Res) := fun xs => match xs with
  | [(false, [(.slice 9, TC.l A)]), (false, [(.slice 9, TC.l C)])] => some ((laws_eqStringS_c A C), laws_eqStringS_mk (laws_eqStringS_v A C))
  | _ => .none
theorem laws_eqStringS_e (A : List (List TC)) (C : List (List TC)) : runF tab FT D45 live 18 laws_eqStringS_lo [(false, [(.slice 9, TC.l A)]), (false, [(.slice 9, TC.l C)])] = (laws_eqStringS_t A C).run fun p => some (laws_eqStringS_mk p) := by kernel_rfl
theorem laws_eqStringS_s : ∀ xs r, laws_eqStringS_S xs = some (true, r) → runF tab FT D45 live 18 laws_eqStringS_lo xs = some r := by
  intro xs r h
  unfold laws_eqStringS_S at h
  split at h
  · simp only [Option.some.injEq, Prod.mk.injEq] at h
    obtain ⟨h1, rfl⟩ := h
    exact fun_told (laws_eqStringS_e _ _) (laws_eqStringS_l _ _) h1
  · cases h
noncomputable def D46 : Dt := also D45 18 laws_eqStringS_S
theorem d46 : DOk Go.Proofs.Try.prog tab D46 := d45.also mixed_ok tab_ok names_ok (fnLoops_one (by kernel_rfl) laws_eqStringS_is4) laws_eqStringS_s
/-! laws_eqInt64S -/
abbrev laws_eqInt64S_4_σ := List (List TC) × List (List TC) × Int
abbrev laws_eqInt64S_4_ω := (Unit) ⊕ (Unit)
noncomputable def laws_eqInt64S_4_step (A : List (List TC)) (C : List (List TC)) (i : Int) : Tr (laws_eqInt64S_4_σ ⊕ laws_eqInt64S_4_ω) := (.ite ((decide (i < (A.length : Int))) = true) (.ite ((0 : Int) ≤ i ∧ i < (A.length : Int)) (.ite ((0 : Int) ≤ i ∧ i < (C.length : Int)) (.ite ((!((nth (row A i) 0).int == (nth (row C i) 0).int)) = true) (.ok (.inr (.inl ())))
     (.ok (.inl (A, C, (IntKind.wrap .i64 (i + (1 : Int)))))))
    .no)
   .no)
  (.ok (.inr (.inr ()))))
noncomputable def laws_eqInt64S_4_st : laws_eqInt64S_4_σ → Tr (laws_eqInt64S_4_σ ⊕ laws_eqInt64S_4_ω) := fun x => (laws_eqInt64S_4_step (x.1) (x.2.1) (x.2.2))
noncomputable def laws_eqInt64S_o4_1 (A : List (List TC)) (C : List (List TC)) (i : Int) : Bool := is (A = C ∧ Typed tab (.slice 2) (.l A) ∧ i = 0)
noncomputable def laws_eqInt64S_4_fin (A : List (List TC)) (C : List (List TC)) (i : Int) : Told laws_eqInt64S_4_ω := (.leaf (laws_eqInt64S_o4_1 A C i) (.inr ()))
def laws_eqInt64S_4_sl (x : laws_eqInt64S_4_σ) : List Slot := [⟨.val false [⟨.slice 2, .sh, TC.l (x.1)⟩], ⟨0, 0⟩⟩, ⟨.val false [⟨.slice 2, .sh, TC.l (x.2.1)⟩], ⟨0, 0⟩⟩, ⟨.val false [⟨.int .i64, .sh, TC.i (x.2.2)⟩], ⟨0, 0⟩⟩]
def laws_eqInt64S_4_out : laws_eqInt64S_4_ω → Ex × List Slot := (Sum.elim (fun x => (.ret, [⟨.val false [⟨.bool, .sh, TC.b false⟩], ⟨0, 0⟩⟩])) (fun x => (.exit 0, [Slot.none])))
noncomputable def laws_eqInt64S_lo4 : List Slot → Option (Told (Ex × List Slot)) := fun s => match s with
  | [⟨.val false [⟨.slice 2, .sh, TC.l A⟩], ⟨0, 0⟩⟩, ⟨.val false [⟨.slice 2, .sh, TC.l C⟩], ⟨0, 0⟩⟩, ⟨.val false [⟨.int .i64, .sh, TC.i i⟩], ⟨0, 0⟩⟩] => some (((laws_eqInt64S_4_fin A C i)).map laws_eqInt64S_4_out)
  | _ => .none
noncomputable def laws_eqInt64S_lo : LoopTeller := fun r s => bif Nat.beq r 4 then laws_eqInt64S_lo4 s else .none
theorem laws_eqInt64S_4_r (A : List (List TC)) (C : List (List TC)) (i : Int) (fuel : Nat) : rounds (rnd tab FT D46 live 78 laws_eqInt64S_lo 0 4) leave (fuel + 1) (laws_eqInt64S_4_sl (A, C, i)) = ((laws_eqInt64S_4_step A C i)).run (goOn (fun s => rounds (rnd tab FT D46 live 78 laws_eqInt64S_lo 0 4) leave fuel (laws_eqInt64S_4_sl s)) fun w => some (laws_eqInt64S_4_out w)) := by kernel_rfl
theorem laws_eqInt64S_4_h (A : List (List TC)) (C : List (List TC)) (i : Int) (ow : laws_eqInt64S_4_ω) : ((laws_eqInt64S_4_fin A C i)).val = some ow → ∃ fuel, loopN laws_eqInt64S_4_st fuel (A, C, i) = some ow := by
  intro h
  refine auto_leaf (R := Sum.inr ()) (fun ho => ?_) h
  obtain ⟨rfl, ht, rfl⟩ := is_iff.1 ho
  have hlen : A.length ≤ 140737488351232 := by have := typed_room ht; simp only [show (tab 2).bytes = 8 from rfl] at this; omega
  refine ⟨_, loopN_run (N := A.length) (fun i => (A, A, (i : Int))) (fun i hi => ?_) ?_ A.length 0 (by omega)⟩
  · skip
    show (laws_eqInt64S_4_step A A (i : Int)).val = _
    unfold laws_eqInt64S_4_step
    refine Tr.t (by simp; omega) ?_
    refine Tr.t (by first | omega | (constructor <;> omega)) ?_
    refine Tr.t (by first | omega | (constructor <;> omega)) ?_
    refine Tr.n (by simp [impl_SameType_rv, laws_szType_rv, laws_toType_rv, spec_SameType_rv]) ?_
    rw [Tr.val_ok, wrap64 (i := (i : Int) + 1) (by omega) (by omega)]; rfl
  · show (laws_eqInt64S_4_step A A (A.length : Int)).val = _
    refine Tr.n (by simp) ?_
    rfl
theorem laws_eqInt64S_is4 : LoopIs tab FT D46 live 78 laws_eqInt64S_lo 0 4 := by
  refine loop_told (sl := laws_eqInt64S_4_sl) (step := laws_eqInt64S_4_st) (out := laws_eqInt64S_4_out) (lor := laws_eqInt64S_lo4) (fin := fun x => (laws_eqInt64S_4_fin (x.1) (x.2.1) (x.2.2))) (fun _ => rfl) ?_ (fun x n => laws_eqInt64S_4_r x.1 x.2.1 x.2.2 n) (fun x ow => laws_eqInt64S_4_h x.1 x.2.1 x.2.2 ow)
  intro s t h
  unfold laws_eqInt64S_lo4 at h
  split at h
  · cases h; exact ⟨(_, _, _), rfl, rfl⟩
  · cases h
noncomputable def laws_eqInt64S_t (A : List (List TC)) (C : List (List TC)) : Tr (Bool) := (.ite ((!((A.length : Int) == (C.length : Int))) = true) (.ok false)
  (.ite ((laws_eqInt64S_o4_1 A C (0 : Int)) = true) (.ok true)
   .no))
def laws_eqInt64S_mk (p : Bool) : Res := [(false, [⟨.bool, .sh, TC.b p⟩])]
noncomputable def laws_eqInt64S_c (A : List (List TC)) (C : List (List TC)) : Bool := is (A = C ∧ Typed tab (.slice 2) (.l A))
noncomputable def laws_eqInt64S_v (A : List (List TC)) (C : List (List TC)) : Bool := true
theorem laws_eqInt64S_l (A : List (List TC)) (C : List (List TC)) : (laws_eqInt64S_c A C) = true → (laws_eqInt64S_t A C).val = some (laws_eqInt64S_v A C) := by
  intro h
  obtain ⟨rfl, ht⟩ := is_iff.1 h
  unfold laws_eqInt64S_t
  refine Tr.n (by simp) ?_
  refine Tr.t (is_true ⟨rfl, ht, rfl⟩) ?_
  rfl
noncomputable def laws_eqInt64S_S : List Arg → Option (Bool × Res) := fun xs => match xs with
  | [(false, [(.slice 2, TC.l A)]), (false, [(.slice 2, TC.l C)])] => some ((laws_eqInt64S_c A C), laws_eqInt64S_mk (laws_eqInt64S_v A C))
  | _ => .none
theorem laws_eqInt64S_e (A : List (List TC)) (C : List (List TC)) : runF tab FT D46 live 78 laws_eqInt64S_lo [(false, [(.slice 2, TC.l A)]), (false, [(.slice 2, TC.l C)])] = (laws_eqInt64S_t A C).run fun p => some (laws_eqInt64S_mk p) := by kernel_rfl
theorem laws_eqInt64S_s : ∀ xs r, laws_eqInt64S_S xs = some (true, r) → runF tab FT D46 live 78 laws_eqInt64S_lo xs = some r := by
  intro xs r h
  unfold laws_eqInt64S_S at h
  split at h
  · simp only [Option.some.injEq, Prod.mk.injEq] at h
    obtain ⟨h1, rfl⟩ := h
    exact fun_told (laws_eqInt64S_e _ _) (laws_eqInt64S_l _ _) h1
  · cases h
noncomputable def D47 : Dt := also D46 78 laws_eqInt64S_S
theorem d47 : DOk Go.Proofs.Try.prog tab D47 := d46.also mixed_ok tab_ok names_ok (fnLoops_one (by kernel_rfl) laws_eqInt64S_is4) laws_eqInt64S_s
/-! laws_eqType calls itself -/
section
class laws_eqType_O where n : Nat
variable [i_laws_eqType : laws_eqType_O]
noncomputable def laws_eqType_rc (x0 : Int) (x1 : Int) (x2 : Bool) (x3 : Bool) (x4 : List (List TC)) (x5 : List (List TC)) (x6 : List (List TC)) (x7 : List (List TC)) (x8 : Int) (y0 : Int) (y1 : Int) (y2 : Bool) (y3 : Bool) (y4 : List (List TC)) (y5 : List (List TC)) (y6 : List (List TC)) (y7 : List (List TC)) (y8 : Int) : Bool := is (max (rowsDep x6) (rowsDep x7) < laws_eqType_O.n ∧ x0 = y0 ∧ x1 = y1 ∧ x2 = y2 ∧ x3 = y3 ∧ x4 = y4 ∧ x5 = y5 ∧ x6 = y6 ∧ x7 = y7 ∧ x8 = y8 ∧ Typed tab (.slice 9) (.l x4) ∧ Typed tab (.slice 2) (.l x5) ∧ Typed tab (.slice 147) (.l x6) ∧ Typed tab (.slice 55) (.l x7))
noncomputable def laws_eqType_rv (x0 : Int) (x1 : Int) (x2 : Bool) (x3 : Bool) (x4 : List (List TC)) (x5 : List (List TC)) (x6 : List (List TC)) (x7 : List (List TC)) (x8 : Int) (y0 : Int) (y1 : Int) (y2 : Bool) (y3 : Bool) (y4 : List (List TC)) (y5 : List (List TC)) (y6 : List (List TC)) (y7 : List (List TC)) (y8 : Int) : Bool := true
def laws_eqType_rmk (p : Bool) : Res := [(false, [⟨.bool, .sh, TC.b p⟩])]
noncomputable def laws_eqType_rS : List Arg → Option (Bool × Res) := fun xs => match xs with
  | [(true, [(.int .i64, TC.i x0), (.int .i64, TC.i x1), (.bool, TC.b x2), (.bool, TC.b x3), (.slice 9, TC.l x4), (.slice 2, TC.l x5), (.slice 147, TC.l x6), (.slice 55, TC.l x7), (.int .i64, TC.i x8)]), (true, [(.int .i64, TC.i y0), (.int .i64, TC.i y1), (.bool, TC.b y2), (.bool, TC.b y3), (.slice 9, TC.l y4), (.slice 2, TC.l y5), (.slice 147, TC.l y6), (.slice 55, TC.l y7), (.int .i64, TC.i y8)])] => some ((laws_eqType_rc x0 x1 x2 x3 x4 x5 x6 x7 x8 y0 y1 y2 y3 y4 y5 y6 y7 y8), laws_eqType_rmk (laws_eqType_rv x0 x1 x2 x3 x4 x5 x6 x7 x8 y0 y1 y2 y3 y4 y5 y6 y7 y8))
  | _ => .none
noncomputable def D48 : Dt := also D47 76 laws_eqType_rS
class laws_eqType_G : Prop where ok : DOk Go.Proofs.Try.prog tab D48
variable [g_laws_eqType : laws_eqType_G]
theorem d48 : DOk Go.Proofs.Try.prog tab D48 := laws_eqType_G.ok
/-! laws_eqMember -/
noncomputable def laws_eqMember_t (x0 : List UInt8) (x1 : Int) (x2 : Int) (x3 : Int) (x4 : Bool) (x5 : Bool) (x6 : List (List TC)) (x7 : List (List TC)) (x8 : List (List TC)) (x9 : List (List TC)) (x10 : Int) (y0 : List UInt8) (y1 : Int) (y2 : Int) (y3 : Int) (y4 : Bool) (y5 : Bool) (y6 : List (List TC)) (y7 : List (List TC)) (y8 : List (List TC)) (y9 : List (List TC)) (y10 : Int) : Tr (Bool) := (.ite ((!(x0 == y0)) = true) (.ok false)
  (.ite ((!(x1 == y1)) = true) (.ok false)
   (.ite ((laws_eqType_rc x2 x3 x4 x5 x6 x7 x8 x9 x10 y2 y3 y4 y5 y6 y7 y8 y9 y10) = true) (.ite ((!(laws_eqType_rv x2 x3 x4 x5 x6 x7 x8 x9 x10 y2 y3 y4 y5 y6 y7 y8 y9 y10)) = true) (.ok false)
     (.ok true))
    .no)))
def laws_eqMember_mk (p : Bool) : Res := [(false, [⟨.bool, .sh, TC.b p⟩])]
noncomputable def laws_eqMember_c (x0 : List UInt8) (x1 : Int) (x2 : Int) (x3 : Int) (x4 : Bool) (x5 : Bool) (x6 : List (List TC)) (x7 : List (List TC)) (x8 : List (List TC)) (x9 : List (List TC)) (x10 : Int) (y0 : List UInt8) (y1 : Int) (y2 : Int) (y3 : Int) (y4 : Bool) (y5 : Bool) (y6 : List (List TC)) (y7 : List (List TC)) (y8 : List (List TC)) (y9 : List (List TC)) (y10 : Int) : Bool := (bif (!(x0 == y0)) then true else (bif (!(x1 == y1)) then true else ((laws_eqType_rc x2 x3 x4 x5 x6 x7 x8 x9 x10 y2 y3 y4 y5 y6 y7 y8 y9 y10) && (bif (!(laws_eqType_rv x2 x3 x4 x5 x6 x7 x8 x9 x10 y2 y3 y4 y5 y6 y7 y8 y9 y10)) then true else true))))
noncomputable def laws_eqMember_v (x0 : List UInt8) (x1 : Int) (x2 : Int) (x3 : Int) (x4 : Bool) (x5 : Bool) (x6 : List (List TC)) (x7 : List (List TC)) (x8 : List (List TC)) (x9 : List (List TC)) (x10 : Int) (y0 : List UInt8) (y1 : Int) (y2 : Int) (y3 : Int) (y4 : Bool) (y5 : Bool) (y6 : List (List TC)) (y7 : List (List TC)) (y8 : List (List TC)) (y9 : List (List TC)) (y10 : Int) : Bool := (bif (!(x0 == y0)) then false else (bif (!(x1 == y1)) then false else (bif (!(laws_eqType_rv x2 x3 x4 x5 x6 x7 x8 x9 x10 y2 y3 y4 y5 y6 y7 y8 y9 y10)) then false else true)))
theorem laws_eqMember_l (x0 : List UInt8) (x1 : Int) (x2 : Int) (x3 : Int) (x4 : Bool) (x5 : Bool) (x6 : List (List TC)) (x7 : List (List TC)) (x8 : List (List TC)) (x9 : List (List TC)) (x10 : Int) (y0 : List UInt8) (y1 : Int) (y2 : Int) (y3 : Int) (y4 : Bool) (y5 : Bool) (y6 : List (List TC)) (y7 : List (List TC)) (y8 : List (List TC)) (y9 : List (List TC)) (y10 : Int) : (laws_eqMember_c x0 x1 x2 x3 x4 x5 x6 x7 x8 x9 x10 y0 y1 y2 y3 y4 y5 y6 y7 y8 y9 y10) = true → (laws_eqMember_t x0 x1 x2 x3 x4 x5 x6 x7 x8 x9 x10 y0 y1 y2 y3 y4 y5 y6 y7 y8 y9 y10).val = some (laws_eqMember_v x0 x1 x2 x3 x4 x5 x6 x7 x8 x9 x10 y0 y1 y2 y3 y4 y5 y6 y7 y8 y9 y10) := by
  unfold laws_eqMember_t laws_eqMember_v laws_eqMember_c
  exact fun h => (Tr.ss h (fun h => rfl) (fun h => (Tr.ss h (fun h => rfl) (fun h => (Tr.gb h fun h => (Tr.ss h (fun h => rfl) (fun h => rfl)))))))
noncomputable def laws_eqMember_S : List Arg → Option (Bool × Res) := fun xs => match xs with
  | [(true, [(.str, TC.s x0), (.int .i64, TC.i x1), (.int .i64, TC.i x2), (.int .i64, TC.i x3), (.bool, TC.b x4), (.bool, TC.b x5), (.slice 9, TC.l x6), (.slice 2, TC.l x7), (.slice 147, TC.l x8), (.slice 55, TC.l x9), (.int .i64, TC.i x10)]), (true, [(.str, TC.s y0), (.int .i64, TC.i y1), (.int .i64, TC.i y2), (.int .i64, TC.i y3), (.bool, TC.b y4), (.bool, TC.b y5), (.slice 9, TC.l y6), (.slice 2, TC.l y7), (.slice 147, TC.l y8), (.slice 55, TC.l y9), (.int .i64, TC.i y10)])] => some ((laws_eqMember_c x0 x1 x2 x3 x4 x5 x6 x7 x8 x9 x10 y0 y1 y2 y3 y4 y5 y6 y7 y8 y9 y10), laws_eqMember_mk (laws_eqMember_v x0 x1 x2 x3 x4 x5 x6 x7 x8 x9 x10 y0 y1 y2 y3 y4 y5 y6 y7 y8 y9 y10))
  | _ => .none
theorem laws_eqMember_e (x0 : List UInt8) (x1 : Int) (x2 : Int) (x3 : Int) (x4 : Bool) (x5 : Bool) (x6 : List (List TC)) (x7 : List (List TC)) (x8 : List (List TC)) (x9 : List (List TC)) (x10 : Int) (y0 : List UInt8) (y1 : Int) (y2 : Int) (y3 : Int) (y4 : Bool) (y5 : Bool) (y6 : List (List TC)) (y7 : List (List TC)) (y8 : List (List TC)) (y9 : List (List TC)) (y10 : Int) : runF tab FT D48 live 139 noLoops [(true, [(.str, TC.s x0), (.int .i64, TC.i x1), (.int .i64, TC.i x2), (.int .i64, TC.i x3), (.bool, TC.b x4), (.bool, TC.b x5), (.slice 9, TC.l x6), (.slice 2, TC.l x7), (.slice 147, TC.l x8), (.slice 55, TC.l x9), (.int .i64, TC.i x10)]), (true, [(.str, TC.s y0), (.int .i64, TC.i y1), (.int .i64, TC.i y2), (.int .i64, TC.i y3), (.bool, TC.b y4), (.bool, TC.b y5), (.slice 9, TC.l y6), (.slice 2, TC.l y7), (.slice 147, TC.l y8), (.slice 55, TC.l y9), (.int .i64, TC.i y10)])] = (laws_eqMember_t x0 x1 x2 x3 x4 x5 x6 x7 x8 x9 x10 y0 y1 y2 y3 y4 y5 y6 y7 y8 y9 y10).run fun p => some (laws_eqMember_mk p) := by kernel_rfl
theorem laws_eqMember_s : ∀ xs r, laws_eqMember_S xs = some (true, r) → runF tab FT D48 live 139 noLoops xs = some r := by
  intro xs r h
  unfold laws_eqMember_S at h
  split at h
  · simp only [Option.some.injEq, Prod.mk.injEq] at h
    obtain ⟨h1, rfl⟩ := h
    exact fun_told (laws_eqMember_e _ _ _ _ _ _ _ _ _ _ _ _ _ _ _ _ _ _ _ _ _ _) (laws_eqMember_l _ _ _ _ _ _ _ _ _ _ _ _ _ _ _ _ _ _ _ _ _ _) h1
  · cases h
noncomputable def D49 : Dt := also D48 139 laws_eqMember_S
theorem d49 : DOk Go.Proofs.Try.prog tab D49 := d48.also mixed_ok tab_ok names_ok noLoops_ok laws_eqMember_s
theorem laws_eqMember_cc {x0 : List UInt8} {x1 : Int} {x2 : Int} {x3 : Int} {x4 : Bool} {x5 : Bool} {x6 : List (List TC)} {x7 : List (List TC)} {x8 : List (List TC)} {x9 : List (List TC)} {x10 : Int} (h0 : (laws_eqType_rc x2 x3 x4 x5 x6 x7 x8 x9 x10 x2 x3 x4 x5 x6 x7 x8 x9 x10) = true) : (laws_eqMember_c x0 x1 x2 x3 x4 x5 x6 x7 x8 x9 x10 x0 x1 x2 x3 x4 x5 x6 x7 x8 x9 x10) = true := by
  unfold laws_eqMember_c
  simp [h0, laws_szType_rv, laws_toType_rv, spec_SameType_rv, impl_SameType_rv, laws_eqType_rv]
/-! laws_eqMemberS -/
abbrev laws_eqMemberS_4_σ := List (List TC) × List (List TC) × Int
abbrev laws_eqMemberS_4_ω := (Unit) ⊕ (Unit)
noncomputable def laws_eqMemberS_4_step (A : List (List TC)) (C : List (List TC)) (i : Int) : Tr (laws_eqMemberS_4_σ ⊕ laws_eqMemberS_4_ω) := (.ite ((decide (i < (A.length : Int))) = true) (.ite ((0 : Int) ≤ i ∧ i < (A.length : Int)) (.ite ((0 : Int) ≤ i ∧ i < (C.length : Int)) (.ite ((laws_eqMember_c ((nth (row A i) 0).str) ((nth (row A i) 1).int) ((nth (row A i) 2).int) ((nth (row A i) 3).int) ((nth (row A i) 4).bool) ((nth (row A i) 5).bool) ((nth (row A i) 6).list) ((nth (row A i) 7).list) ((nth (row A i) 8).list) ((nth (row A i) 9).list) ((nth (row A i) 10).int) ((nth (row C i) 0).str) ((nth (row C i) 1).int) ((nth (row C i) 2).int) ((nth (row C i) 3).int) ((nth (row C i) 4).bool) ((nth (row C i) 5).bool) ((nth (row C i) 6).list) ((nth (row C i) 7).list) ((nth (row C i) 8).list) ((nth (row C i) 9).list) ((nth (row C i) 10).int)) = true) (.ite ((!(laws_eqMember_v ((nth (row A i) 0).str) ((nth (row A i) 1).int) ((nth (row A i) 2).int) ((nth (row A i) 3).int) ((nth (row A i) 4).bool) ((nth (row A i) 5).bool) ((nth (row A i) 6).list) ((nth (row A i) 7).list) ((nth (row A i) 8).list) ((nth (row A i) 9).list) ((nth (row A i) 10).int) ((nth (row C i) 0).str) ((nth (row C i) 1).int) ((nth (row C i) 2).int) ((nth (row C i) 3).int) ((nth (row C i) 4).bool) ((nth (row C i) 5).bool) ((nth (row C i) 6).list) ((nth (row C i) 7).list) ((nth (row C i) 8).list) ((nth (row C i) 9).list) ((nth (row C i) 10).int))) = true) (.ok (.inr (.inl ())))
      (.ok (.inl (A, C, (IntKind.wrap .i64 (i + (1 : Int)))))))
     .no)
    .no)
   .no)
  (.ok (.inr (.inr ()))))
noncomputable def laws_eqMemberS_4_st : laws_eqMemberS_4_σ → Tr (laws_eqMemberS_4_σ ⊕ laws_eqMemberS_4_ω) := fun x => (laws_eqMemberS_4_step (x.1) (x.2.1) (x.2.2))
noncomputable def laws_eqMemberS_o4_1 (A : List (List TC)) (C : List (List TC)) (i : Int) : Bool := is (A = C ∧ Typed tab (.slice 147) (.l A) ∧ (∀ x : List TC, x ∈ A → (laws_eqMember_c ((nth x 0).str) ((nth x 1).int) ((nth x 2).int) ((nth x 3).int) ((nth x 4).bool) ((nth x 5).bool) ((nth x 6).list) ((nth x 7).list) ((nth x 8).list) ((nth x 9).list) ((nth x 10).int) ((nth x 0).str) ((nth x 1).int) ((nth x 2).int) ((nth x 3).int) ((nth x 4).bool) ((nth x 5).bool) ((nth x 6).list) ((nth x 7).list) ((nth x 8).list) ((nth x 9).list) ((nth x 10).int)) = true) ∧ i = 0)
noncomputable def laws_eqMemberS_4_fin (A : List (List TC)) (C : List (List TC)) (i : Int) : Told laws_eqMemberS_4_ω := (.leaf (laws_eqMemberS_o4_1 A C i) (.inr ()))
def laws_eqMemberS_4_sl (x : laws_eqMemberS_4_σ) : List Slot := [⟨.val false [⟨.slice 147, .sh, TC.l (x.1)⟩], ⟨0, 0⟩⟩, ⟨.val false [⟨.slice 147, .sh, TC.l (x.2.1)⟩], ⟨0, 0⟩⟩, ⟨.val false [⟨.int .i64, .sh, TC.i (x.2.2)⟩], ⟨0, 0⟩⟩]
def laws_eqMemberS_4_out : laws_eqMemberS_4_ω → Ex × List Slot := (Sum.elim (fun x => (.ret, [⟨.val false [⟨.bool, .sh, TC.b false⟩], ⟨0, 0⟩⟩])) (fun x => (.exit 0, [Slot.none])))
noncomputable def laws_eqMemberS_lo4 : List Slot → Option (Told (Ex × List Slot)) := fun s => match s with
  | [⟨.val false [⟨.slice 147, .sh, TC.l A⟩], ⟨0, 0⟩⟩, ⟨.val false [⟨.slice 147, .sh, TC.l C⟩], ⟨0, 0⟩⟩, ⟨.val false [⟨.int .i64, .sh, TC.i i⟩], ⟨0, 0⟩⟩] => some (((laws_eqMemberS_4_fin A C i)).map laws_eqMemberS_4_out)
  | _ => .none
noncomputable def laws_eqMemberS_lo : LoopTeller := fun r s => bif Nat.beq r 4 then laws_eqMemberS_lo4 s else .none
theorem laws_eqMemberS_4_r (A : List (List TC)) (C : List (List TC)) (i : Int) (fuel : Nat) : rounds (rnd tab FT D49 live 106 laws_eqMemberS_lo 0 4) leave (fuel + 1) (laws_eqMemberS_4_sl (A, C, i)) = ((laws_eqMemberS_4_step A C i)).run (goOn (fun s => rounds (rnd tab FT D49 live 106 laws_eqMemberS_lo 0 4) leave fuel (laws_eqMemberS_4_sl s)) fun w => some (laws_eqMemberS_4_out w)) := by kernel_rfl
theorem laws_eqMemberS_4_h (A : List (List TC)) (C : List (List TC)) (i : Int) (ow : laws_eqMemberS_4_ω) : ((laws_eqMemberS_4_fin A C i)).val = some ow → ∃ fuel, loopN laws_eqMemberS_4_st fuel (A, C, i) = some ow := by
  intro h
  refine auto_leaf (R := Sum.inr ()) (fun ho => ?_) h
  obtain ⟨rfl, ht, hr0, rfl⟩ := is_iff.1 ho
  have hlen : A.length ≤ 140737488351232 := by have := typed_room ht; simp only [show (tab 147).bytes = 152 from rfl] at this; omega
  refine ⟨_, loopN_run (N := A.length) (fun i => (A, A, (i : Int))) (fun i hi => ?_) ?_ A.length 0 (by omega)⟩
  · have c0 : Typed tab (.str) (.s (nth (A.getD i []) 0).str) := typed_s (typed_cell ht (A.getD i []) (mem_getD hi) 0 (by decide))
    have c6 : Typed tab (.slice 9) (.l (nth (A.getD i []) 6).list) := typed_list (typed_cell ht (A.getD i []) (mem_getD hi) 6 (by decide))
    have c7 : Typed tab (.slice 2) (.l (nth (A.getD i []) 7).list) := typed_list (typed_cell ht (A.getD i []) (mem_getD hi) 7 (by decide))
    have c8 : Typed tab (.slice 147) (.l (nth (A.getD i []) 8).list) := typed_list (typed_cell ht (A.getD i []) (mem_getD hi) 8 (by decide))
    have c9 : Typed tab (.slice 55) (.l (nth (A.getD i []) 9).list) := typed_list (typed_cell ht (A.getD i []) (mem_getD hi) 9 (by decide))
    show (laws_eqMemberS_4_step A A (i : Int)).val = _
    unfold laws_eqMemberS_4_step
    refine Tr.t (by simp; omega) ?_
    refine Tr.t (by first | omega | (constructor <;> omega)) ?_
    refine Tr.t (by first | omega | (constructor <;> omega)) ?_
    refine Tr.t (hr0 (A.getD i []) (mem_getD hi)) ?_
    refine Tr.n (by simp [impl_SameType_rv, laws_eqMember_v, laws_eqType_rv, laws_szType_rv, laws_toType_rv, spec_SameType_rv]) ?_
    rw [Tr.val_ok, wrap64 (i := (i : Int) + 1) (by omega) (by omega)]; rfl
  · show (laws_eqMemberS_4_step A A (A.length : Int)).val = _
    refine Tr.n (by simp) ?_
    rfl
theorem laws_eqMemberS_is4 : LoopIs tab FT D49 live 106 laws_eqMemberS_lo 0 4 := by
  refine loop_told (sl := laws_eqMemberS_4_sl) (step := laws_eqMemberS_4_st) (out := laws_eqMemberS_4_out) (lor := laws_eqMemberS_lo4) (fin := fun x => (laws_eqMemberS_4_fin (x.1) (x.2.1) (x.2.2))) (fun _ => rfl) ?_ (fun x n => laws_eqMemberS_4_r x.1 x.2.1 x.2.2 n) (fun x ow => laws_eqMemberS_4_h x.1 x.2.1 x.2.2 ow)
  intro s t h
  unfold laws_eqMemberS_lo4 at h
  split at h
  · cases h; exact ⟨(_, _, _), rfl, rfl⟩
  · cases h
noncomputable def laws_eqMemberS_t (A : List (List TC)) (C : List (List TC)) : Tr (Bool) := (.ite ((!((A.length : Int) == (C.length : Int))) = true) (.ok false)
  (.ite ((laws_eqMemberS_o4_1 A C (0 : Int)) = true) (.ok true)
   .no))
def laws_eqMemberS_mk (p : Bool) : Res := [(false, [⟨.bool, .sh, TC.b p⟩])]
noncomputable def laws_eqMemberS_c (A : List (List TC)) (C : List (List TC)) : Bool := is (A = C ∧ Typed tab (.slice 147) (.l A) ∧ (∀ x : List TC, x ∈ A → (laws_eqMember_c ((nth x 0).str) ((nth x 1).int) ((nth x 2).int) ((nth x 3).int) ((nth x 4).bool) ((nth x 5).bool) ((nth x 6).list) ((nth x 7).list) ((nth x 8).list) ((nth x 9).list) ((nth x 10).int) ((nth x 0).str) ((nth x 1).int) ((nth x 2).int) ((nth x 3).int) ((nth x 4).bool) ((nth x 5).bool) ((nth x 6).list) ((nth x 7).list) ((nth x 8).list) ((nth x 9).list) ((nth x 10).int)) = true))
noncomputable def laws_eqMemberS_v (A : List (List TC)) (C : List (List TC)) : Bool := true
theorem laws_eqMemberS_l (A : List (List TC)) (C : List (List TC)) : (laws_eqMemberS_c A C) = true → (laws_eqMemberS_t A C).val = some (laws_eqMemberS_v A C) := by
  intro h
  obtain ⟨rfl, ht, hr0⟩ := is_iff.1 h
  unfold laws_eqMemberS_t
  refine Tr.n (by simp) ?_
  refine Tr.t (is_true ⟨rfl, ht, hr0, rfl⟩) ?_
  rfl
noncomputable def laws_eqMemberS_S : List Arg → Option (Bool × Res) := fun xs => match xs with
  | [(false, [(.slice 147, TC.l A)]), (false, [(.slice 147, TC.l C)])] => some ((laws_eqMemberS_c A C), laws_eqMemberS_mk (laws_eqMemberS_v A C))
  | _ => .none
theorem laws_eqMemberS_e (A : List (List TC)) (C : List (List TC)) : runF tab FT D49 live 106 laws_eqMemberS_lo [(false, [(.slice 147, TC.l A)]), (false, [(.slice 147, TC.l C)])] = (laws_eqMemberS_t A C).run fun p => some (laws_eqMemberS_mk p) := by kernel_rfl
theorem laws_eqMemberS_s : ∀ xs r, laws_eqMemberS_S xs = some (true, r) → runF tab FT D49 live 106 laws_eqMemberS_lo xs = some r := by
  intro xs r h
  unfold laws_eqMemberS_S at h
  split at h
  · simp only [Option.some.injEq, Prod.mk.injEq] at h
    obtain ⟨h1, rfl⟩ := h
    exact fun_told (laws_eqMemberS_e _ _) (laws_eqMemberS_l _ _) h1
  · cases h
noncomputable def D50 : Dt := also D49 106 laws_eqMemberS_S
theorem d50 : DOk Go.Proofs.Try.prog tab D50 := d49.also mixed_ok tab_ok names_ok (fnLoops_one (by kernel_rfl) laws_eqMemberS_is4) laws_eqMemberS_s
/-! laws_eqTypeS -/
abbrev laws_eqTypeS_4_σ := List (List TC) × List (List TC) × Int
abbrev laws_eqTypeS_4_ω := (Unit) ⊕ (Unit)
noncomputable def laws_eqTypeS_4_step (A : List (List TC)) (C : List (List TC)) (i : Int) : Tr (laws_eqTypeS_4_σ ⊕ laws_eqTypeS_4_ω) := (.ite ((decide (i < (A.length : Int))) = true) (.ite ((0 : Int) ≤ i ∧ i < (A.length : Int)) (.ite ((0 : Int) ≤ i ∧ i < (C.length : Int)) (.ite ((laws_eqType_rc ((nth (row A i) 0).int) ((nth (row A i) 1).int) ((nth (row A i) 2).bool) ((nth (row A i) 3).bool) ((nth (row A i) 4).list) ((nth (row A i) 5).list) ((nth (row A i) 6).list) ((nth (row A i) 7).list) ((nth (row A i) 8).int) ((nth (row C i) 0).int) ((nth (row C i) 1).int) ((nth (row C i) 2).bool) ((nth (row C i) 3).bool) ((nth (row C i) 4).list) ((nth (row C i) 5).list) ((nth (row C i) 6).list) ((nth (row C i) 7).list) ((nth (row C i) 8).int)) = true) (.ite ((!(laws_eqType_rv ((nth (row A i) 0).int) ((nth (row A i) 1).int) ((nth (row A i) 2).bool) ((nth (row A i) 3).bool) ((nth (row A i) 4).list) ((nth (row A i) 5).list) ((nth (row A i) 6).list) ((nth (row A i) 7).list) ((nth (row A i) 8).int) ((nth (row C i) 0).int) ((nth (row C i) 1).int) ((nth (row C i) 2).bool) ((nth (row C i) 3).bool) ((nth (row C i) 4).list) ((nth (row C i) 5).list) ((nth (row C i) 6).list) ((nth (row C i) 7).list) ((nth (row C i) 8).int))) = true) (.ok (.inr (.inl ())))
      (.ok (.inl (A, C, (IntKind.wrap .i64 (i + (1 : Int)))))))
     .no)
    .no)
   .no)
  (.ok (.inr (.inr ()))))
noncomputable def laws_eqTypeS_4_st : laws_eqTypeS_4_σ → Tr (laws_eqTypeS_4_σ ⊕ laws_eqTypeS_4_ω) := fun x => (laws_eqTypeS_4_step (x.1) (x.2.1) (x.2.2))
noncomputable def laws_eqTypeS_o4_1 (A : List (List TC)) (C : List (List TC)) (i : Int) : Bool := is (A = C ∧ Typed tab (.slice 55) (.l A) ∧ (∀ x : List TC, x ∈ A → (laws_eqType_rc ((nth x 0).int) ((nth x 1).int) ((nth x 2).bool) ((nth x 3).bool) ((nth x 4).list) ((nth x 5).list) ((nth x 6).list) ((nth x 7).list) ((nth x 8).int) ((nth x 0).int) ((nth x 1).int) ((nth x 2).bool) ((nth x 3).bool) ((nth x 4).list) ((nth x 5).list) ((nth x 6).list) ((nth x 7).list) ((nth x 8).int)) = true) ∧ i = 0)
noncomputable def laws_eqTypeS_4_fin (A : List (List TC)) (C : List (List TC)) (i : Int) : Told laws_eqTypeS_4_ω := (.leaf (laws_eqTypeS_o4_1 A C i) (.inr ()))
def laws_eqTypeS_4_sl (x : laws_eqTypeS_4_σ) : List Slot := [⟨.val false [⟨.slice 55, .sh, TC.l (x.1)⟩], ⟨0, 0⟩⟩, ⟨.val false [⟨.slice 55, .sh, TC.l (x.2.1)⟩], ⟨0, 0⟩⟩, ⟨.val false [⟨.int .i64, .sh, TC.i (x.2.2)⟩], ⟨0, 0⟩⟩]
def laws_eqTypeS_4_out : laws_eqTypeS_4_ω → Ex × List Slot := (Sum.elim (fun x => (.ret, [⟨.val false [⟨.bool, .sh, TC.b false⟩], ⟨0, 0⟩⟩])) (fun x => (.exit 0, [Slot.none])))
noncomputable def laws_eqTypeS_lo4 : List Slot → Option (Told (Ex × List Slot)) := fun s => match s with
  | [⟨.val false [⟨.slice 55, .sh, TC.l A⟩], ⟨0, 0⟩⟩, ⟨.val false [⟨.slice 55, .sh, TC.l C⟩], ⟨0, 0⟩⟩, ⟨.val false [⟨.int .i64, .sh, TC.i i⟩], ⟨0, 0⟩⟩] => some (((laws_eqTypeS_4_fin A C i)).map laws_eqTypeS_4_out)
  | _ => .none
noncomputable def laws_eqTypeS_lo : LoopTeller := fun r s => bif Nat.beq r 4 then laws_eqTypeS_lo4 s else .none
theorem laws_eqTypeS_4_r (A : List (List TC)) (C : List (List TC)) (i : Int) (fuel : Nat) : rounds (rnd tab FT D50 live 107 laws_eqTypeS_lo 0 4) leave (fuel + 1) (laws_eqTypeS_4_sl (A, C, i)) = ((laws_eqTypeS_4_step A C i)).run (goOn (fun s => rounds (rnd tab FT D50 live 107 laws_eqTypeS_lo 0 4) leave fuel (laws_eqTypeS_4_sl s)) fun w => some (laws_eqTypeS_4_out w)) := by kernel_rfl
theorem laws_eqTypeS_4_h (A : List (List TC)) (C : List (List TC)) (i : Int) (ow : laws_eqTypeS_4_ω) : ((laws_eqTypeS_4_fin A C i)).val = some ow → ∃ fuel, loopN laws_eqTypeS_4_st fuel (A, C, i) = some ow := by
  intro h
  refine auto_leaf (R := Sum.inr ()) (fun ho => ?_) h
  obtain ⟨rfl, ht, hr0, rfl⟩ := is_iff.1 ho
  have hlen : A.length ≤ 140737488351232 := by have := typed_room ht; simp only [show (tab 55).bytes = 128 from rfl] at this; omega
  refine ⟨_, loopN_run (N := A.length) (fun i => (A, A, (i : Int))) (fun i hi => ?_) ?_ A.length 0 (by omega)⟩
  · have c4 : Typed tab (.slice 9) (.l (nth (A.getD i []) 4).list) := typed_list (typed_cell ht (A.getD i []) (mem_getD hi) 4 (by decide))
    have c5 : Typed tab (.slice 2) (.l (nth (A.getD i []) 5).list) := typed_list (typed_cell ht (A.getD i []) (mem_getD hi) 5 (by decide))
    have c6 : Typed tab (.slice 147) (.l (nth (A.getD i []) 6).list) := typed_list (typed_cell ht (A.getD i []) (mem_getD hi) 6 (by decide))
    have c7 : Typed tab (.slice 55) (.l (nth (A.getD i []) 7).list) := typed_list (typed_cell ht (A.getD i []) (mem_getD hi) 7 (by decide))
    show (laws_eqTypeS_4_step A A (i : Int)).val = _
    unfold laws_eqTypeS_4_step
    refine Tr.t (by simp; omega) ?_
    refine Tr.t (by first | omega | (constructor <;> omega)) ?_
    refine Tr.t (by first | omega | (constructor <;> omega)) ?_
    refine Tr.t (hr0 (A.getD i []) (mem_getD hi)) ?_
    refine Tr.n (by simp [impl_SameType_rv, laws_eqType_rv, laws_szType_rv, laws_toType_rv, spec_SameType_rv]) ?_
    rw [Tr.val_ok, wrap64 (i := (i : Int) + 1) (by omega) (by omega)]; rfl
  · show (laws_eqTypeS_4_step A A (A.length : Int)).val = _
    refine Tr.n (by simp) ?_
    rfl
theorem laws_eqTypeS_is4 : LoopIs tab FT D50 live 107 laws_eqTypeS_lo 0 4 := by
  refine loop_told (sl := laws_eqTypeS_4_sl) (step := laws_eqTypeS_4_st) (out := laws_eqTypeS_4_out) (lor := laws_eqTypeS_lo4) (fin := fun x => (laws_eqTypeS_4_fin (x.1) (x.2.1) (x.2.2))) (fun _ => rfl) ?_ (fun x n => laws_eqTypeS_4_r x.1 x.2.1 x.2.2 n) (fun x ow => laws_eqTypeS_4_h x.1 x.2.1 x.2.2 ow)
  intro s t h
  unfold laws_eqTypeS_lo4 at h
  split at h
  · cases h; exact ⟨(_, _, _), rfl, rfl⟩
  · cases h
noncomputable def laws_eqTypeS_t (A : List (List TC)) (C : List (List TC)) : Tr (Bool) := (.ite ((!((A.length : Int) == (C.length : Int))) = true) (.ok false)
  (.ite ((laws_eqTypeS_o4_1 A C (0 : Int)) = true) (.ok true)
   .no))
def laws_eqTypeS_mk (p : Bool) : Res := [(false, [⟨.bool, .sh, TC.b p⟩])]
noncomputable def laws_eqTypeS_c (A : List (List TC)) (C : List (List TC)) : Bool := is (A = C ∧ Typed tab (.slice 55) (.l A) ∧ (∀ x : List TC, x ∈ A → (laws_eqType_rc ((nth x 0).int) ((nth x 1).int) ((nth x 2).bool) ((nth x 3).bool) ((nth x 4).list) ((nth x 5).list) ((nth x 6).list) ((nth x 7).list) ((nth x 8).int) ((nth x 0).int) ((nth x 1).int) ((nth x 2).bool) ((nth x 3).bool) ((nth x 4).list) ((nth x 5).list) ((nth x 6).list) ((nth x 7).list) ((nth x 8).int)) = true))
noncomputable def laws_eqTypeS_v (A : List (List TC)) (C : List (List TC)) : Bool := true
theorem laws_eqTypeS_l (A : List (List TC)) (C : List (List TC)) : (laws_eqTypeS_c A C) = true → (laws_eqTypeS_t A C).val = some (laws_eqTypeS_v A C) := by
  intro h
  obtain ⟨rfl, ht, hr0⟩ := is_iff.1 h
  unfold laws_eqTypeS_t
  refine Tr.n (by simp) ?_
  refine Tr.t (is_true ⟨rfl, ht, hr0, rfl⟩) ?_
  rfl
noncomputable def laws_eqTypeS_S : List Arg → Option (Bool × Res) := fun xs => match xs with
  | [(false, [(.slice 55, TC.l A)]), (false, [(.slice 55, TC.l C)])] => some ((laws_eqTypeS_c A C), laws_eqTypeS_mk (laws_eqTypeS_v A C))
  | _ => .none
theorem laws_eqTypeS_e (A : List (List TC)) (C : List (List TC)) : runF tab FT D50 live 107 laws_eqTypeS_lo [(false, [(.slice 55, TC.l A)]), (false, [(.slice 55, TC.l C)])] = (laws_eqTypeS_t A C).run fun p => some (laws_eqTypeS_mk p) := by kernel_rfl
theorem laws_eqTypeS_s : ∀ xs r, laws_eqTypeS_S xs = some (true, r) → runF tab FT D50 live 107 laws_eqTypeS_lo xs = some r := by
  intro xs r h
  unfold laws_eqTypeS_S at h
  split at h
  · simp only [Option.some.injEq, Prod.mk.injEq] at h
    obtain ⟨h1, rfl⟩ := h
    exact fun_told (laws_eqTypeS_e _ _) (laws_eqTypeS_l _ _) h1
  · cases h
noncomputable def D51 : Dt := also D50 107 laws_eqTypeS_S
theorem d51 : DOk Go.Proofs.Try.prog tab D51 := d50.also mixed_ok tab_ok names_ok (fnLoops_one (by kernel_rfl) laws_eqTypeS_is4) laws_eqTypeS_s
/-! laws_eqType -/
noncomputable def laws_eqType_t (x0 : Int) (x1 : Int) (x2 : Bool) (x3 : Bool) (x4 : List (List TC)) (x5 : List (List TC)) (x6 : List (List TC)) (x7 : List (List TC)) (x8 : Int) (y0 : Int) (y1 : Int) (y2 : Bool) (y3 : Bool) (y4 : List (List TC)) (y5 : List (List TC)) (y6 : List (List TC)) (y7 : List (List TC)) (y8 : Int) : Tr (Bool) := (.ite ((!(x0 == y0)) = true) (.ok false)
  (.ite ((!(x1 == y1)) = true) (.ok false)
   (.ite ((!(x2 == y2)) = true) (.ok false)
    (.ite ((!(x3 == y3)) = true) (.ok false)
     (.ite ((laws_eqStringS_c x4 y4) = true) (.ite ((!(laws_eqStringS_v x4 y4)) = true) (.ok false)
       (.ite ((laws_eqInt64S_c x5 y5) = true) (.ite ((!(laws_eqInt64S_v x5 y5)) = true) (.ok false)
         (.ite ((laws_eqMemberS_c x6 y6) = true) (.ite ((!(laws_eqMemberS_v x6 y6)) = true) (.ok false)
           (.ite ((laws_eqTypeS_c x7 y7) = true) (.ite ((!(laws_eqTypeS_v x7 y7)) = true) (.ok false)
             (.ite ((!(x8 == y8)) = true) (.ok false)
              (.ok true)))
            .no))
          .no))
        .no))
      .no)))))
def laws_eqType_mk (p : Bool) : Res := [(false, [⟨.bool, .sh, TC.b p⟩])]
noncomputable def laws_eqType_c (x0 : Int) (x1 : Int) (x2 : Bool) (x3 : Bool) (x4 : List (List TC)) (x5 : List (List TC)) (x6 : List (List TC)) (x7 : List (List TC)) (x8 : Int) (y0 : Int) (y1 : Int) (y2 : Bool) (y3 : Bool) (y4 : List (List TC)) (y5 : List (List TC)) (y6 : List (List TC)) (y7 : List (List TC)) (y8 : Int) : Bool := (bif (!(x0 == y0)) then true else (bif (!(x1 == y1)) then true else (bif (!(x2 == y2)) then true else (bif (!(x3 == y3)) then true else ((laws_eqStringS_c x4 y4) && (bif (!(laws_eqStringS_v x4 y4)) then true else ((laws_eqInt64S_c x5 y5) && (bif (!(laws_eqInt64S_v x5 y5)) then true else ((laws_eqMemberS_c x6 y6) && (bif (!(laws_eqMemberS_v x6 y6)) then true else ((laws_eqTypeS_c x7 y7) && (bif (!(laws_eqTypeS_v x7 y7)) then true else (bif (!(x8 == y8)) then true else true)))))))))))))
noncomputable def laws_eqType_v (x0 : Int) (x1 : Int) (x2 : Bool) (x3 : Bool) (x4 : List (List TC)) (x5 : List (List TC)) (x6 : List (List TC)) (x7 : List (List TC)) (x8 : Int) (y0 : Int) (y1 : Int) (y2 : Bool) (y3 : Bool) (y4 : List (List TC)) (y5 : List (List TC)) (y6 : List (List TC)) (y7 : List (List TC)) (y8 : Int) : Bool := (bif (!(x0 == y0)) then false else (bif (!(x1 == y1)) then false else (bif (!(x2 == y2)) then false else (bif (!(x3 == y3)) then false else (bif (!(laws_eqStringS_v x4 y4)) then false else (bif (!(laws_eqInt64S_v x5 y5)) then false else (bif (!(laws_eqMemberS_v x6 y6)) then false else (bif (!(laws_eqTypeS_v x7 y7)) then false else (bif (!(x8 == y8)) then false else true)))))))))
theorem laws_eqType_l (x0 : Int) (x1 : Int) (x2 : Bool) (x3 : Bool) (x4 : List (List TC)) (x5 : List (List TC)) (x6 : List (List TC)) (x7 : List (List TC)) (x8 : Int) (y0 : Int) (y1 : Int) (y2 : Bool) (y3 : Bool) (y4 : List (List TC)) (y5 : List (List TC)) (y6 : List (List TC)) (y7 : List (List TC)) (y8 : Int) : (laws_eqType_c x0 x1 x2 x3 x4 x5 x6 x7 x8 y0 y1 y2 y3 y4 y5 y6 y7 y8) = true → (laws_eqType_t x0 x1 x2 x3 x4 x5 x6 x7 x8 y0 y1 y2 y3 y4 y5 y6 y7 y8).val = some (laws_eqType_v x0 x1 x2 x3 x4 x5 x6 x7 x8 y0 y1 y2 y3 y4 y5 y6 y7 y8) := by
  unfold laws_eqType_t laws_eqType_v laws_eqType_c
  exact fun h => (Tr.ss h (fun h => rfl) (fun h => (Tr.ss h (fun h => rfl) (fun h => (Tr.ss h (fun h => rfl) (fun h => (Tr.ss h (fun h => rfl) (fun h => (Tr.gb h fun h => (Tr.ss h (fun h => rfl) (fun h => (Tr.gb h fun h => (Tr.ss h (fun h => rfl) (fun h => (Tr.gb h fun h => (Tr.ss h (fun h => rfl) (fun h => (Tr.gb h fun h => (Tr.ss h (fun h => rfl) (fun h => (Tr.ss h (fun h => rfl) (fun h => rfl))))))))))))))))))))))
noncomputable def laws_eqType_S : List Arg → Option (Bool × Res) := fun xs => match xs with
  | [(true, [(.int .i64, TC.i x0), (.int .i64, TC.i x1), (.bool, TC.b x2), (.bool, TC.b x3), (.slice 9, TC.l x4), (.slice 2, TC.l x5), (.slice 147, TC.l x6), (.slice 55, TC.l x7), (.int .i64, TC.i x8)]), (true, [(.int .i64, TC.i y0), (.int .i64, TC.i y1), (.bool, TC.b y2), (.bool, TC.b y3), (.slice 9, TC.l y4), (.slice 2, TC.l y5), (.slice 147, TC.l y6), (.slice 55, TC.l y7), (.int .i64, TC.i y8)])] => some ((laws_eqType_c x0 x1 x2 x3 x4 x5 x6 x7 x8 y0 y1 y2 y3 y4 y5 y6 y7 y8), laws_eqType_mk (laws_eqType_v x0 x1 x2 x3 x4 x5 x6 x7 x8 y0 y1 y2 y3 y4 y5 y6 y7 y8))
  | _ => .none
theorem laws_eqType_e (x0 : Int) (x1 : Int) (x2 : Bool) (x3 : Bool) (x4 : List (List TC)) (x5 : List (List TC)) (x6 : List (List TC)) (x7 : List (List TC)) (x8 : Int) (y0 : Int) (y1 : Int) (y2 : Bool) (y3 : Bool) (y4 : List (List TC)) (y5 : List (List TC)) (y6 : List (List TC)) (y7 : List (List TC)) (y8 : Int) : runF tab FT D51 live 76 noLoops [(true, [(.int .i64, TC.i x0), (.int .i64, TC.i x1), (.bool, TC.b x2), (.bool, TC.b x3), (.slice 9, TC.l x4), (.slice 2, TC.l x5), (.slice 147, TC.l x6), (.slice 55, TC.l x7), (.int .i64, TC.i x8)]), (true, [(.int .i64, TC.i y0), (.int .i64, TC.i y1), (.bool, TC.b y2), (.bool, TC.b y3), (.slice 9, TC.l y4), (.slice 2, TC.l y5), (.slice 147, TC.l y6), (.slice 55, TC.l y7), (.int .i64, TC.i y8)])] = (laws_eqType_t x0 x1 x2 x3 x4 x5 x6 x7 x8 y0 y1 y2 y3 y4 y5 y6 y7 y8).run fun p => some (laws_eqType_mk p) := by kernel_rfl
theorem laws_eqType_s : ∀ xs r, laws_eqType_S xs = some (true, r) → runF tab FT D51 live 76 noLoops xs = some r := by
  intro xs r h
  unfold laws_eqType_S at h
  split at h
  · simp only [Option.some.injEq, Prod.mk.injEq] at h
    obtain ⟨h1, rfl⟩ := h
    exact fun_told (laws_eqType_e _ _ _ _ _ _ _ _ _ _ _ _ _ _ _ _ _ _) (laws_eqType_l _ _ _ _ _ _ _ _ _ _ _ _ _ _ _ _ _ _) h1
  · cases h
theorem laws_eqType_nx (x0 : Int) (x1 : Int) (x2 : Bool) (x3 : Bool) (x4 : List (List TC)) (x5 : List (List TC)) (x6 : List (List TC)) (x7 : List (List TC)) (x8 : Int) (y0 : Int) (y1 : Int) (y2 : Bool) (y3 : Bool) (y4 : List (List TC)) (y5 : List (List TC)) (y6 : List (List TC)) (y7 : List (List TC)) (y8 : Int) : is (max (rowsDep x6) (rowsDep x7) < laws_eqType_O.n + 1 ∧ x0 = y0 ∧ x1 = y1 ∧ x2 = y2 ∧ x3 = y3 ∧ x4 = y4 ∧ x5 = y5 ∧ x6 = y6 ∧ x7 = y7 ∧ x8 = y8 ∧ Typed tab (.slice 9) (.l x4) ∧ Typed tab (.slice 2) (.l x5) ∧ Typed tab (.slice 147) (.l x6) ∧ Typed tab (.slice 55) (.l x7)) = true → (laws_eqType_c x0 x1 x2 x3 x4 x5 x6 x7 x8 y0 y1 y2 y3 y4 y5 y6 y7 y8) = true ∧ (laws_eqType_v x0 x1 x2 x3 x4 x5 x6 x7 x8 y0 y1 y2 y3 y4 y5 y6 y7 y8) = true := by
  intro h
  obtain ⟨hM, rfl, rfl, rfl, rfl, rfl, rfl, rfl, rfl, rfl, t4, t5, t6, t7⟩ := is_iff.1 h
  have c4 : laws_eqStringS_c x4 x4 = true := is_true ⟨rfl, t4⟩
  have c5 : laws_eqInt64S_c x5 x5 = true := is_true ⟨rfl, t5⟩
  have c6 : laws_eqMemberS_c x6 x6 = true := is_true ⟨rfl, t6, fun x hx => laws_eqMember_cc (is_true ⟨by have a := dep_cell hx 8; have b := dep_cell hx 9; omega, rfl, rfl, rfl, rfl, rfl, rfl, rfl, rfl, rfl, typed_list ((typed_elem t6 hx).2 6 (by decide)), typed_list ((typed_elem t6 hx).2 7 (by decide)), typed_list ((typed_elem t6 hx).2 8 (by decide)), typed_list ((typed_elem t6 hx).2 9 (by decide))⟩)⟩
  have c7 : laws_eqTypeS_c x7 x7 = true := is_true ⟨rfl, t7, fun x hx => is_true ⟨by have a := dep_cell hx 6; have b := dep_cell hx 7; omega, rfl, rfl, rfl, rfl, rfl, rfl, rfl, rfl, rfl, typed_list ((typed_elem t7 hx).2 4 (by decide)), typed_list ((typed_elem t7 hx).2 5 (by decide)), typed_list ((typed_elem t7 hx).2 6 (by decide)), typed_list ((typed_elem t7 hx).2 7 (by decide))⟩⟩
  constructor
  · unfold laws_eqType_c
    simp only [c4, c5, c6, c7, laws_eqStringS_v, laws_eqInt64S_v, laws_eqMemberS_v, laws_eqTypeS_v, beq_self_eq_true, Bool.not_true, cond_false, Bool.and_self]
  · unfold laws_eqType_v
    simp only [laws_eqStringS_v, laws_eqInt64S_v, laws_eqMemberS_v, laws_eqTypeS_v, beq_self_eq_true, Bool.not_true, cond_false]
theorem laws_eqType_nxr (x0 : Int) (x1 : Int) (x2 : Bool) (x3 : Bool) (x4 : List (List TC)) (x5 : List (List TC)) (x6 : List (List TC)) (x7 : List (List TC)) (x8 : Int) (y0 : Int) (y1 : Int) (y2 : Bool) (y3 : Bool) (y4 : List (List TC)) (y5 : List (List TC)) (y6 : List (List TC)) (y7 : List (List TC)) (y8 : Int) : laws_eqType_rc (i_laws_eqType := ⟨laws_eqType_O.n + 1⟩) x0 x1 x2 x3 x4 x5 x6 x7 x8 y0 y1 y2 y3 y4 y5 y6 y7 y8 = true → (laws_eqType_c x0 x1 x2 x3 x4 x5 x6 x7 x8 y0 y1 y2 y3 y4 y5 y6 y7 y8) = true ∧ (laws_eqType_v x0 x1 x2 x3 x4 x5 x6 x7 x8 y0 y1 y2 y3 y4 y5 y6 y7 y8) = (laws_eqType_rv x0 x1 x2 x3 x4 x5 x6 x7 x8 y0 y1 y2 y3 y4 y5 y6 y7 y8) := fun h => laws_eqType_nx x0 x1 x2 x3 x4 x5 x6 x7 x8 y0 y1 y2 y3 y4 y5 y6 y7 y8 h
theorem laws_eqType_rs : ∀ xs r, laws_eqType_rS (i_laws_eqType := ⟨laws_eqType_O.n + 1⟩) xs = some (true, r) → runF tab FT D51 live 76 noLoops xs = some r := by
  intro xs r h
  unfold laws_eqType_rS at h
  split at h
  · simp only [Option.some.injEq, Prod.mk.injEq] at h
    obtain ⟨h1, rfl⟩ := h
    have hx := laws_eqType_nxr _ _ _ _ _ _ _ _ _ _ _ _ _ _ _ _ _ _ h1
    have ht := fun_told (laws_eqType_e _ _ _ _ _ _ _ _ _ _ _ _ _ _ _ _ _ _) (laws_eqType_l _ _ _ _ _ _ _ _ _ _ _ _ _ _ _ _ _ _) hx.1
    rw [hx.2] at ht
    exact ht
  · cases h
theorem laws_eqType_step : laws_eqType_G (i_laws_eqType := ⟨laws_eqType_O.n + 1⟩) := by
  have h := DOk.also2 (S := laws_eqType_rS (i_laws_eqType := ⟨laws_eqType_O.n + 1⟩)) mixed_ok tab_ok names_ok d47 d51 noLoops_ok laws_eqType_rs
  refine laws_eqType_G.mk (i_laws_eqType := ⟨laws_eqType_O.n + 1⟩) ?_
  exact h
/-! laws_eqPoint -/
noncomputable def laws_eqPoint_t (x0 : List (List TC)) (y0 : List (List TC)) : Tr (Bool) := (.ite ((laws_eqInt64S_c x0 y0) = true) (.ite ((!(laws_eqInt64S_v x0 y0)) = true) (.ok false)
   (.ok true))
  .no)
def laws_eqPoint_mk (p : Bool) : Res := [(false, [⟨.bool, .sh, TC.b p⟩])]
noncomputable def laws_eqPoint_c (x0 : List (List TC)) (y0 : List (List TC)) : Bool := is (x0 = y0 ∧ Typed tab (.slice 2) (.l x0))
noncomputable def laws_eqPoint_v (x0 : List (List TC)) (y0 : List (List TC)) : Bool := true
theorem laws_eqPoint_l (x0 : List (List TC)) (y0 : List (List TC)) : (laws_eqPoint_c x0 y0) = true → (laws_eqPoint_t x0 y0).val = some (laws_eqPoint_v x0 y0) := by
  intro h
  obtain ⟨rfl, t0⟩ := is_iff.1 h
  unfold laws_eqPoint_t
  refine Tr.t (by first | (apply is_true; and_intros <;> (first | rfl | assumption | (apply laws_szStringS_cc <;> assumption) | (apply laws_szMember_cc <;> assumption) | (apply laws_szMemberS_cc <;> assumption) | (apply laws_szTypeS_cc <;> assumption) | (apply laws_szPoint_cc <;> assumption) | (apply laws_szPointS_cc <;> assumption) | (apply laws_szSelection_cc <;> assumption) | (apply laws_szMapping_cc <;> assumption) | (apply laws_szMappingS_cc <;> assumption) | (apply laws_szVirtual_cc <;> assumption) | (apply spec_SameSelection_cc <;> assumption) | (first | (apply is_true; and_intros <;> (first | rfl | assumption | (apply laws_szStringS_cc <;> assumption) | (apply laws_szMember_cc <;> assumption) | (apply laws_szMemberS_cc <;> assumption) | (apply laws_szTypeS_cc <;> assumption) | (apply laws_szPoint_cc <;> assumption) | (apply laws_szPointS_cc <;> assumption) | (apply laws_szSelection_cc <;> assumption) | (apply laws_szMapping_cc <;> assumption) | (apply laws_szMappingS_cc <;> assumption) | (apply laws_szVirtual_cc <;> assumption) | (apply spec_SameSelection_cc <;> assumption) | (first | (apply is_true; and_intros <;> (first | rfl | assumption | (apply laws_szStringS_cc <;> assumption) | (apply laws_szMember_cc <;> assumption) | (apply laws_szMemberS_cc <;> assumption) | (apply laws_szTypeS_cc <;> assumption) | (apply laws_szPoint_cc <;> assumption) | (apply laws_szPointS_cc <;> assumption) | (apply laws_szSelection_cc <;> assumption) | (apply laws_szMapping_cc <;> assumption) | (apply laws_szMappingS_cc <;> assumption) | (apply laws_szVirtual_cc <;> assumption) | (apply spec_SameSelection_cc <;> assumption) | (first | (apply is_true; and_intros <;> (first | rfl | assumption | (apply laws_szStringS_cc <;> assumption) | (apply laws_szMember_cc <;> assumption) | (apply laws_szMemberS_cc <;> assumption) | (apply laws_szTypeS_cc <;> assumption) | (apply laws_szPoint_cc <;> assumption) | (apply laws_szPointS_cc <;> assumption) | (apply laws_szSelection_cc <;> assumption) | (apply laws_szMapping_cc <;> assumption) | (apply laws_szMappingS_cc <;> assumption) | (apply laws_szVirtual_cc <;> assumption) | (apply spec_SameSelection_cc <;> assumption))) | (apply laws_szStringS_cc <;> assumption) | (apply laws_szMember_cc <;> assumption) | (apply laws_szMemberS_cc <;> assumption) | (apply laws_szTypeS_cc <;> assumption) | (apply laws_szPoint_cc <;> assumption) | (apply laws_szPointS_cc <;> assumption) | (apply laws_szSelection_cc <;> assumption) | (apply laws_szMapping_cc <;> assumption) | (apply laws_szMappingS_cc <;> assumption) | (apply laws_szVirtual_cc <;> assumption) | (apply spec_SameSelection_cc <;> assumption)))) | (apply laws_szStringS_cc <;> assumption) | (apply laws_szMember_cc <;> assumption) | (apply laws_szMemberS_cc <;> assumption) | (apply laws_szTypeS_cc <;> assumption) | (apply laws_szPoint_cc <;> assumption) | (apply laws_szPointS_cc <;> assumption) | (apply laws_szSelection_cc <;> assumption) | (apply laws_szMapping_cc <;> assumption) | (apply laws_szMappingS_cc <;> assumption) | (apply laws_szVirtual_cc <;> assumption) | (apply spec_SameSelection_cc <;> assumption)))) | (apply laws_szStringS_cc <;> assumption) | (apply laws_szMember_cc <;> assumption) | (apply laws_szMemberS_cc <;> assumption) | (apply laws_szTypeS_cc <;> assumption) | (apply laws_szPoint_cc <;> assumption) | (apply laws_szPointS_cc <;> assumption) | (apply laws_szSelection_cc <;> assumption) | (apply laws_szMapping_cc <;> assumption) | (apply laws_szMappingS_cc <;> assumption) | (apply laws_szVirtual_cc <;> assumption) | (apply spec_SameSelection_cc <;> assumption)))) | (apply laws_szStringS_cc <;> assumption) | (apply laws_szMember_cc <;> assumption) | (apply laws_szMemberS_cc <;> assumption) | (apply laws_szTypeS_cc <;> assumption) | (apply laws_szPoint_cc <;> assumption) | (apply laws_szPointS_cc <;> assumption) | (apply laws_szSelection_cc <;> assumption) | (apply laws_szMapping_cc <;> assumption) | (apply laws_szMappingS_cc <;> assumption) | (apply laws_szVirtual_cc <;> assumption) | (apply spec_SameSelection_cc <;> assumption)) ?_
  refine Tr.n (by simp [laws_eqInt64S_v]) ?_
  rfl
noncomputable def laws_eqPoint_S : List Arg → Option (Bool × Res) := fun xs => match xs with
  | [(true, [(.slice 2, TC.l x0)]), (true, [(.slice 2, TC.l y0)])] => some ((laws_eqPoint_c x0 y0), laws_eqPoint_mk (laws_eqPoint_v x0 y0))
  | _ => .none
theorem laws_eqPoint_e (x0 : List (List TC)) (y0 : List (List TC)) : runF tab FT D51 live 163 noLoops [(true, [(.slice 2, TC.l x0)]), (true, [(.slice 2, TC.l y0)])] = (laws_eqPoint_t x0 y0).run fun p => some (laws_eqPoint_mk p) := by kernel_rfl
theorem laws_eqPoint_s : ∀ xs r, laws_eqPoint_S xs = some (true, r) → runF tab FT D51 live 163 noLoops xs = some r := by
  intro xs r h
  unfold laws_eqPoint_S at h
  split at h
  · simp only [Option.some.injEq, Prod.mk.injEq] at h
    obtain ⟨h1, rfl⟩ := h
    exact fun_told (laws_eqPoint_e _ _) (laws_eqPoint_l _ _) h1
  · cases h
noncomputable def D52 : Dt := also D51 163 laws_eqPoint_S
theorem d52 : DOk Go.Proofs.Try.prog tab D52 := d51.also mixed_ok tab_ok names_ok noLoops_ok laws_eqPoint_s
/-! laws_eqPointS -/
abbrev laws_eqPointS_4_σ := List (List TC) × List (List TC) × Int
abbrev laws_eqPointS_4_ω := (Unit) ⊕ (Unit)
noncomputable def laws_eqPointS_4_step (A : List (List TC)) (C : List (List TC)) (i : Int) : Tr (laws_eqPointS_4_σ ⊕ laws_eqPointS_4_ω) := (.ite ((decide (i < (A.length : Int))) = true) (.ite ((0 : Int) ≤ i ∧ i < (A.length : Int)) (.ite ((0 : Int) ≤ i ∧ i < (C.length : Int)) (.ite ((laws_eqPoint_c ((nth (row A i) 0).list) ((nth (row C i) 0).list)) = true) (.ite ((!(laws_eqPoint_v ((nth (row A i) 0).list) ((nth (row C i) 0).list))) = true) (.ok (.inr (.inl ())))
      (.ok (.inl (A, C, (IntKind.wrap .i64 (i + (1 : Int)))))))
     .no)
    .no)
   .no)
  (.ok (.inr (.inr ()))))
noncomputable def laws_eqPointS_4_st : laws_eqPointS_4_σ → Tr (laws_eqPointS_4_σ ⊕ laws_eqPointS_4_ω) := fun x => (laws_eqPointS_4_step (x.1) (x.2.1) (x.2.2))
noncomputable def laws_eqPointS_o4_1 (A : List (List TC)) (C : List (List TC)) (i : Int) : Bool := is (A = C ∧ Typed tab (.slice 193) (.l A) ∧ i = 0)
noncomputable def laws_eqPointS_4_fin (A : List (List TC)) (C : List (List TC)) (i : Int) : Told laws_eqPointS_4_ω := (.leaf (laws_eqPointS_o4_1 A C i) (.inr ()))
def laws_eqPointS_4_sl (x : laws_eqPointS_4_σ) : List Slot := [⟨.val false [⟨.slice 193, .sh, TC.l (x.1)⟩], ⟨0, 0⟩⟩, ⟨.val false [⟨.slice 193, .sh, TC.l (x.2.1)⟩], ⟨0, 0⟩⟩, ⟨.val false [⟨.int .i64, .sh, TC.i (x.2.2)⟩], ⟨0, 0⟩⟩]
def laws_eqPointS_4_out : laws_eqPointS_4_ω → Ex × List Slot := (Sum.elim (fun x => (.ret, [⟨.val false [⟨.bool, .sh, TC.b false⟩], ⟨0, 0⟩⟩])) (fun x => (.exit 0, [Slot.none])))
noncomputable def laws_eqPointS_lo4 : List Slot → Option (Told (Ex × List Slot)) := fun s => match s with
  | [⟨.val false [⟨.slice 193, .sh, TC.l A⟩], ⟨0, 0⟩⟩, ⟨.val false [⟨.slice 193, .sh, TC.l C⟩], ⟨0, 0⟩⟩, ⟨.val false [⟨.int .i64, .sh, TC.i i⟩], ⟨0, 0⟩⟩] => some (((laws_eqPointS_4_fin A C i)).map laws_eqPointS_4_out)
  | _ => .none
noncomputable def laws_eqPointS_lo : LoopTeller := fun r s => bif Nat.beq r 4 then laws_eqPointS_lo4 s else .none
theorem laws_eqPointS_4_r (A : List (List TC)) (C : List (List TC)) (i : Int) (fuel : Nat) : rounds (rnd tab FT D52 live 158 laws_eqPointS_lo 0 4) leave (fuel + 1) (laws_eqPointS_4_sl (A, C, i)) = ((laws_eqPointS_4_step A C i)).run (goOn (fun s => rounds (rnd tab FT D52 live 158 laws_eqPointS_lo 0 4) leave fuel (laws_eqPointS_4_sl s)) fun w => some (laws_eqPointS_4_out w)) := by kernel_rfl
theorem laws_eqPointS_4_h (A : List (List TC)) (C : List (List TC)) (i : Int) (ow : laws_eqPointS_4_ω) : ((laws_eqPointS_4_fin A C i)).val = some ow → ∃ fuel, loopN laws_eqPointS_4_st fuel (A, C, i) = some ow := by
  intro h
  refine auto_leaf (R := Sum.inr ()) (fun ho => ?_) h
  obtain ⟨rfl, ht, rfl⟩ := is_iff.1 ho
  have hlen : A.length ≤ 140737488351232 := by have := typed_room ht; simp only [show (tab 193).bytes = 24 from rfl] at this; omega
  refine ⟨_, loopN_run (N := A.length) (fun i => (A, A, (i : Int))) (fun i hi => ?_) ?_ A.length 0 (by omega)⟩
  · have c0 : Typed tab (.slice 2) (.l (nth (A.getD i []) 0).list) := typed_list (typed_cell ht (A.getD i []) (mem_getD hi) 0 (by decide))
    show (laws_eqPointS_4_step A A (i : Int)).val = _
    unfold laws_eqPointS_4_step
    refine Tr.t (by simp; omega) ?_
    refine Tr.t (by first | omega | (constructor <;> omega)) ?_
    refine Tr.t (by first | omega | (constructor <;> omega)) ?_
    refine Tr.t (by first | (apply is_true; and_intros <;> (first | rfl | assumption | (apply laws_szStringS_cc <;> assumption) | (apply laws_szMember_cc <;> assumption) | (apply laws_szMemberS_cc <;> assumption) | (apply laws_szTypeS_cc <;> assumption) | (apply laws_szPoint_cc <;> assumption) | (apply laws_szPointS_cc <;> assumption) | (apply laws_szSelection_cc <;> assumption) | (apply laws_szMapping_cc <;> assumption) | (apply laws_szMappingS_cc <;> assumption) | (apply laws_szVirtual_cc <;> assumption) | (apply spec_SameSelection_cc <;> assumption) | (first | (apply is_true; and_intros <;> (first | rfl | assumption | (apply laws_szStringS_cc <;> assumption) | (apply laws_szMember_cc <;> assumption) | (apply laws_szMemberS_cc <;> assumption) | (apply laws_szTypeS_cc <;> assumption) | (apply laws_szPoint_cc <;> assumption) | (apply laws_szPointS_cc <;> assumption) | (apply laws_szSelection_cc <;> assumption) | (apply laws_szMapping_cc <;> assumption) | (apply laws_szMappingS_cc <;> assumption) | (apply laws_szVirtual_cc <;> assumption) | (apply spec_SameSelection_cc <;> assumption) | (first | (apply is_true; and_intros <;> (first | rfl | assumption | (apply laws_szStringS_cc <;> assumption) | (apply laws_szMember_cc <;> assumption) | (apply laws_szMemberS_cc <;> assumption) | (apply laws_szTypeS_cc <;> assumption) | (apply laws_szPoint_cc <;> assumption) | (apply laws_szPointS_cc <;> assumption) | (apply laws_szSelection_cc <;> assumption) | (apply laws_szMapping_cc <;> assumption) | (apply laws_szMappingS_cc <;> assumption) | (apply laws_szVirtual_cc <;> assumption) | (apply spec_SameSelection_cc <;> assumption) | (first | (apply is_true; and_intros <;> (first | rfl | assumption | (apply laws_szStringS_cc <;> assumption) | (apply laws_szMember_cc <;> assumption) | (apply laws_szMemberS_cc <;> assumption) | (apply laws_szTypeS_cc <;> assumption) | (apply laws_szPoint_cc <;> assumption) | (apply laws_szPointS_cc <;> assumption) | (apply laws_szSelection_cc <;> assumption) | (apply laws_szMapping_cc <;> assumption) | (apply laws_szMappingS_cc <;> assumption) | (apply laws_szVirtual_cc <;> assumption) | (apply spec_SameSelection_cc <;> assumption))) | (apply laws_szStringS_cc <;> assumption) | (apply laws_szMember_cc <;> assumption) | (apply laws_szMemberS_cc <;> assumption) | (apply laws_szTypeS_cc <;> assumption) | (apply laws_szPoint_cc <;> assumption) | (apply laws_szPointS_cc <;> assumption) | (apply laws_szSelection_cc <;> assumption) | (apply laws_szMapping_cc <;> assumption) | (apply laws_szMappingS_cc <;> assumption) | (apply laws_szVirtual_cc <;> assumption) | (apply spec_SameSelection_cc <;> assumption)))) | (apply laws_szStringS_cc <;> assumption) | (apply laws_szMember_cc <;> assumption) | (apply laws_szMemberS_cc <;> assumption) | (apply laws_szTypeS_cc <;> assumption) | (apply laws_szPoint_cc <;> assumption) | (apply laws_szPointS_cc <;> assumption) | (apply laws_szSelection_cc <;> assumption) | (apply laws_szMapping_cc <;> assumption) | (apply laws_szMappingS_cc <;> assumption) | (apply laws_szVirtual_cc <;> assumption) | (apply spec_SameSelection_cc <;> assumption)))) | (apply laws_szStringS_cc <;> assumption) | (apply laws_szMember_cc <;> assumption) | (apply laws_szMemberS_cc <;> assumption) | (apply laws_szTypeS_cc <;> assumption) | (apply laws_szPoint_cc <;> assumption) | (apply laws_szPointS_cc <;> assumption) | (apply laws_szSelection_cc <;> assumption) | (apply laws_szMapping_cc <;> assumption) | (apply laws_szMappingS_cc <;> assumption) | (apply laws_szVirtual_cc <;> assumption) | (apply spec_SameSelection_cc <;> assumption)))) | (apply laws_szStringS_cc <;> assumption) | (apply laws_szMember_cc <;> assumption) | (apply laws_szMemberS_cc <;> assumption) | (apply laws_szTypeS_cc <;> assumption) | (apply laws_szPoint_cc <;> assumption) | (apply laws_szPointS_cc <;> assumption) | (apply laws_szSelection_cc <;> assumption) | (apply laws_szMapping_cc <;> assumption) | (apply laws_szMappingS_cc <;> assumption) | (apply laws_szVirtual_cc <;> assumption) | (apply spec_SameSelection_cc <;> assumption)) ?_
    refine Tr.n (by simp [impl_SameType_rv, laws_eqPoint_v, laws_eqType_rv, laws_szType_rv, laws_toType_rv, spec_SameType_rv]) ?_
    rw [Tr.val_ok, wrap64 (i := (i : Int) + 1) (by omega) (by omega)]; rfl
  · show (laws_eqPointS_4_step A A (A.length : Int)).val = _
    refine Tr.n (by simp) ?_
    rfl
theorem laws_eqPointS_is4 : LoopIs tab FT D52 live 158 laws_eqPointS_lo 0 4 := by
  refine loop_told (sl := laws_eqPointS_4_sl) (step := laws_eqPointS_4_st) (out := laws_eqPointS_4_out) (lor := laws_eqPointS_lo4) (fin := fun x => (laws_eqPointS_4_fin (x.1) (x.2.1) (x.2.2))) (fun _ => rfl) ?_ (fun x n => laws_eqPointS_4_r x.1 x.2.1 x.2.2 n) (fun x ow => laws_eqPointS_4_h x.1 x.2.1 x.2.2 ow)
  intro s t h
  unfold laws_eqPointS_lo4 at h
  split at h
  · cases h; exact ⟨(_, _, _), rfl, rfl⟩
  · cases h
noncomputable def laws_eqPointS_t (A : List (List TC)) (C : List (List TC)) : Tr (Bool) := (.ite ((!((A.length : Int) == (C.length : Int))) = true) (.ok false)
  (.ite ((laws_eqPointS_o4_1 A C (0 : Int)) = true) (.ok true)
   .no))
def laws_eqPointS_mk (p : Bool) : Res := [(false, [⟨.bool, .sh, TC.b p⟩])]
noncomputable def laws_eqPointS_c (A : List (List TC)) (C : List (List TC)) : Bool := is (A = C ∧ Typed tab (.slice 193) (.l A))
noncomputable def laws_eqPointS_v (A : List (List TC)) (C : List (List TC)) : Bool := true
theorem laws_eqPointS_l (A : List (List TC)) (C : List (List TC)) : (laws_eqPointS_c A C) = true → (laws_eqPointS_t A C).val = some (laws_eqPointS_v A C) := by
  intro h
  obtain ⟨rfl, ht⟩ := is_iff.1 h
  unfold laws_eqPointS_t
  refine Tr.n (by simp) ?_
  refine Tr.t (is_true ⟨rfl, ht, rfl⟩) ?_
  rfl
noncomputable def laws_eqPointS_S : List Arg → Option (Bool × Res) := fun xs => match xs with
  | [(false, [(.slice 193, TC.l A)]), (false, [(.slice 193, TC.l C)])] => some ((laws_eqPointS_c A C), laws_eqPointS_mk (laws_eqPointS_v A C))
  | _ => .none
theorem laws_eqPointS_e (A : List (List TC)) (C : List (List TC)) : runF tab FT D52 live 158 laws_eqPointS_lo [(false, [(.slice 193, TC.l A)]), (false, [(.slice 193, TC.l C)])] = (laws_eqPointS_t A C).run fun p => some (laws_eqPointS_mk p) := by kernel_rfl
theorem laws_eqPointS_s : ∀ xs r, laws_eqPointS_S xs = some (true, r) → runF tab FT D52 live 158 laws_eqPointS_lo xs = some r := by
  intro xs r h
  unfold laws_eqPointS_S at h
  split at h
  · simp only [Option.some.injEq, Prod.mk.injEq] at h
    obtain ⟨h1, rfl⟩ := h
    exact fun_told (laws_eqPointS_e _ _) (laws_eqPointS_l _ _) h1
  · cases h
noncomputable def D53 : Dt := also D52 158 laws_eqPointS_S
theorem d53 : DOk Go.Proofs.Try.prog tab D53 := d52.also mixed_ok tab_ok names_ok (fnLoops_one (by kernel_rfl) laws_eqPointS_is4) laws_eqPointS_s
/-! laws_eqSelection -/
noncomputable def laws_eqSelection_t (x0 : Int) (x1 : List (List TC)) (x2 : List (List TC)) (x3 : List (List TC)) (x4 : List (List TC)) (x5 : List (List TC)) (y0 : Int) (y1 : List (List TC)) (y2 : List (List TC)) (y3 : List (List TC)) (y4 : List (List TC)) (y5 : List (List TC)) : Tr (Bool) := (.ite ((!(x0 == y0)) = true) (.ok false)
  (.ite ((laws_eqInt64S_c x1 y1) = true) (.ite ((!(laws_eqInt64S_v x1 y1)) = true) (.ok false)
    (.ite ((laws_eqInt64S_c x2 y2) = true) (.ite ((!(laws_eqInt64S_v x2 y2)) = true) (.ok false)
      (.ite ((laws_eqInt64S_c x3 y3) = true) (.ite ((!(laws_eqInt64S_v x3 y3)) = true) (.ok false)
        (.ite ((laws_eqInt64S_c x4 y4) = true) (.ite ((!(laws_eqInt64S_v x4 y4)) = true) (.ok false)
          (.ite ((laws_eqPointS_c x5 y5) = true) (.ite ((!(laws_eqPointS_v x5 y5)) = true) (.ok false)
            (.ok true))
           .no))
         .no))
       .no))
     .no))
   .no))
def laws_eqSelection_mk (p : Bool) : Res := [(false, [⟨.bool, .sh, TC.b p⟩])]
noncomputable def laws_eqSelection_c (x0 : Int) (x1 : List (List TC)) (x2 : List (List TC)) (x3 : List (List TC)) (x4 : List (List TC)) (x5 : List (List TC)) (y0 : Int) (y1 : List (List TC)) (y2 : List (List TC)) (y3 : List (List TC)) (y4 : List (List TC)) (y5 : List (List TC)) : Bool := is (x0 = y0 ∧ x1 = y1 ∧ x2 = y2 ∧ x3 = y3 ∧ x4 = y4 ∧ x5 = y5 ∧ Typed tab (.slice 2) (.l x1) ∧ Typed tab (.slice 2) (.l x2) ∧ Typed tab (.slice 2) (.l x3) ∧ Typed tab (.slice 2) (.l x4) ∧ Typed tab (.slice 193) (.l x5))
noncomputable def laws_eqSelection_v (x0 : Int) (x1 : List (List TC)) (x2 : List (List TC)) (x3 : List (List TC)) (x4 : List (List TC)) (x5 : List (List TC)) (y0 : Int) (y1 : List (List TC)) (y2 : List (List TC)) (y3 : List (List TC)) (y4 : List (List TC)) (y5 : List (List TC)) : Bool := true
theorem laws_eqSelection_l (x0 : Int) (x1 : List (List TC)) (x2 : List (List TC)) (x3 : List (List TC)) (x4 : List (List TC)) (x5 : List (List TC)) (y0 : Int) (y1 : List (List TC)) (y2 : List (List TC)) (y3 : List (List TC)) (y4 : List (List TC)) (y5 : List (List TC)) : (laws_eqSelection_c x0 x1 x2 x3 x4 x5 y0 y1 y2 y3 y4 y5) = true → (laws_eqSelection_t x0 x1 x2 x3 x4 x5 y0 y1 y2 y3 y4 y5).val = some (laws_eqSelection_v x0 x1 x2 x3 x4 x5 y0 y1 y2 y3 y4 y5) := by
  intro h
  obtain ⟨rfl, rfl, rfl, rfl, rfl, rfl, t0, t1, t2, t3, t4⟩ := is_iff.1 h
  unfold laws_eqSelection_t
  refine Tr.n (by simp) ?_
  refine Tr.t (by first | (apply is_true; and_intros <;> (first | rfl | assumption | (apply laws_szStringS_cc <;> assumption) | (apply laws_szMember_cc <;> assumption) | (apply laws_szMemberS_cc <;> assumption) | (apply laws_szTypeS_cc <;> assumption) | (apply laws_szPoint_cc <;> assumption) | (apply laws_szPointS_cc <;> assumption) | (apply laws_szSelection_cc <;> assumption) | (apply laws_szMapping_cc <;> assumption) | (apply laws_szMappingS_cc <;> assumption) | (apply laws_szVirtual_cc <;> assumption) | (apply spec_SameSelection_cc <;> assumption) | (first | (apply is_true; and_intros <;> (first | rfl | assumption | (apply laws_szStringS_cc <;> assumption) | (apply laws_szMember_cc <;> assumption) | (apply laws_szMemberS_cc <;> assumption) | (apply laws_szTypeS_cc <;> assumption) | (apply laws_szPoint_cc <;> assumption) | (apply laws_szPointS_cc <;> assumption) | (apply laws_szSelection_cc <;> assumption) | (apply laws_szMapping_cc <;> assumption) | (apply laws_szMappingS_cc <;> assumption) | (apply laws_szVirtual_cc <;> assumption) | (apply spec_SameSelection_cc <;> assumption) | (first | (apply is_true; and_intros <;> (first | rfl | assumption | (apply laws_szStringS_cc <;> assumption) | (apply laws_szMember_cc <;> assumption) | (apply laws_szMemberS_cc <;> assumption) | (apply laws_szTypeS_cc <;> assumption) | (apply laws_szPoint_cc <;> assumption) | (apply laws_szPointS_cc <;> assumption) | (apply laws_szSelection_cc <;> assumption) | (apply laws_szMapping_cc <;> assumption) | (apply laws_szMappingS_cc <;> assumption) | (apply laws_szVirtual_cc <;> assumption) | (apply spec_SameSelection_cc <;> assumption) | (first | (apply is_true; and_intros <;> (first | rfl | assumption | (apply laws_szStringS_cc <;> assumption) | (apply laws_szMember_cc <;> assumption) | (apply laws_szMemberS_cc <;> assumption) | (apply laws_szTypeS_cc <;> assumption) | (apply laws_szPoint_cc <;> assumption) | (apply laws_szPointS_cc <;> assumption) | (apply laws_szSelection_cc <;> assumption) | (apply laws_szMapping_cc <;> assumption) | (apply laws_szMappingS_cc <;> assumption) | (apply laws_szVirtual_cc <;> assumption) | (apply spec_SameSelection_cc <;> assumption))) | (apply laws_szStringS_cc <;> assumption) | (apply laws_szMember_cc <;> assumption) | (apply laws_szMemberS_cc <;> assumption) | (apply laws_szTypeS_cc <;> assumption) | (apply laws_szPoint_cc <;> assumption) | (apply laws_szPointS_cc <;> assumption) | (apply laws_szSelection_cc <;> assumption) | (apply laws_szMapping_cc <;> assumption) | (apply laws_szMappingS_cc <;> assumption) | (apply laws_szVirtual_cc <;> assumption) | (apply spec_SameSelection_cc <;> assumption)))) | (apply laws_szStringS_cc <;> assumption) | (apply laws_szMember_cc <;> assumption) | (apply laws_szMemberS_cc <;> assumption) | (apply laws_szTypeS_cc <;> assumption) | (apply laws_szPoint_cc <;> assumption) | (apply laws_szPointS_cc <;> assumption) | (apply laws_szSelection_cc <;> assumption) | (apply laws_szMapping_cc <;> assumption) | (apply laws_szMappingS_cc <;> assumption) | (apply laws_szVirtual_cc <;> assumption) | (apply spec_SameSelection_cc <;> assumption)))) | (apply laws_szStringS_cc <;> assumption) | (apply laws_szMember_cc <;> assumption) | (apply laws_szMemberS_cc <;> assumption) | (apply laws_szTypeS_cc <;> assumption) | (apply laws_szPoint_cc <;> assumption) | (apply laws_szPointS_cc <;> assumption) | (apply laws_szSelection_cc <;> assumption) | (apply laws_szMapping_cc <;> assumption) | (apply laws_szMappingS_cc <;> assumption) | (apply laws_szVirtual_cc <;> assumption) | (apply spec_SameSelection_cc <;> assumption)))) | (apply laws_szStringS_cc <;> assumption) | (apply laws_szMember_cc <;> assumption) | (apply laws_szMemberS_cc <;> assumption) | (apply laws_szTypeS_cc <;> assumption) | (apply laws_szPoint_cc <;> assumption) | (apply laws_szPointS_cc <;> assumption) | (apply laws_szSelection_cc <;> assumption) | (apply laws_szMapping_cc <;> assumption) | (apply laws_szMappingS_cc <;> assumption) | (apply laws_szVirtual_cc <;> assumption) | (apply spec_SameSelection_cc <;> assumption)) ?_
  refine Tr.n (by simp [laws_eqInt64S_v]) ?_
  refine Tr.t (by first | (apply is_true; and_intros <;> (first | rfl | assumption | (apply laws_szStringS_cc <;> assumption) | (apply laws_szMember_cc <;> assumption) | (apply laws_szMemberS_cc <;> assumption) | (apply laws_szTypeS_cc <;> assumption) | (apply laws_szPoint_cc <;> assumption) | (apply laws_szPointS_cc <;> assumption) | (apply laws_szSelection_cc <;> assumption) | (apply laws_szMapping_cc <;> assumption) | (apply laws_szMappingS_cc <;> assumption) | (apply laws_szVirtual_cc <;> assumption) | (apply spec_SameSelection_cc <;> assumption) | (first | (apply is_true; and_intros <;> (first | rfl | assumption | (apply laws_szStringS_cc <;> assumption) | (apply laws_szMember_cc <;> assumption) | (apply laws_szMemberS_cc <;> assumption) | (apply laws_szTypeS_cc <;> assumption) | (apply laws_szPoint_cc <;> assumption) | (apply laws_szPointS_cc <;> assumption) | (apply laws_szSelection_cc <;> assumption) | (apply laws_szMapping_cc <;> assumption) | (apply laws_szMappingS_cc <;> assumption) | (apply laws_szVirtual_cc <;> assumption) | (apply spec_SameSelection_cc <;> assumption) | (first | (apply is_true; and_intros <;> (first | rfl | assumption | (apply laws_szStringS_cc <;> assumption) | (apply laws_szMember_cc <;> assumption) | (apply laws_szMemberS_cc <;> assumption) | (apply laws_szTypeS_cc <;> assumption) | (apply laws_szPoint_cc <;> assumption) | (apply laws_szPointS_cc <;> assumption) | (apply laws_szSelection_cc <;> assumption) | (apply laws_szMapping_cc <;> assumption) | (apply laws_szMappingS_cc <;> assumption) | (apply laws_szVirtual_cc <;> assumption) | (apply spec_SameSelection_cc <;> assumption) | (first | (apply is_true; and_intros <;> (first | rfl | assumption | (apply laws_szStringS_cc <;> assumption) | (apply laws_szMember_cc <;> assumption) | (apply laws_szMemberS_cc <;> assumption) | (apply laws_szTypeS_cc <;> assumption) | (apply laws_szPoint_cc <;> assumption) | (apply laws_szPointS_cc <;> assumption) | (apply laws_szSelection_cc <;> assumption) | (apply laws_szMapping_cc <;> assumption) | (apply laws_szMappingS_cc <;> assumption) | (apply laws_szVirtual_cc <;> assumption) | (apply spec_SameSelection_cc <;> assumption))) | (apply laws_szStringS_cc <;> assumption) | (apply laws_szMember_cc <;> assumption) | (apply laws_szMemberS_cc <;> assumption) | (apply laws_szTypeS_cc <;> assumption) | (apply laws_szPoint_cc <;> assumption) | (apply laws_szPointS_cc <;> assumption) | (apply laws_szSelection_cc <;> assumption) | (apply laws_szMapping_cc <;> assumption) | (apply laws_szMappingS_cc <;> assumption) | (apply laws_szVirtual_cc <;> assumption) | (apply spec_SameSelection_cc <;> assumption)))) | (apply laws_szStringS_cc <;> assumption) | (apply laws_szMember_cc <;> assumption) | (apply laws_szMemberS_cc <;> assumption) | (apply laws_szTypeS_cc <;> assumption) | (apply laws_szPoint_cc <;> assumption) | (apply laws_szPointS_cc <;> assumption) | (apply laws_szSelection_cc <;> assumption) | (apply laws_szMapping_cc <;> assumption) | (apply laws_szMappingS_cc <;> assumption) | (apply laws_szVirtual_cc <;> assumption) | (apply spec_SameSelection_cc <;> assumption)))) | (apply laws_szStringS_cc <;> assumption) | (apply laws_szMember_cc <;> assumption) | (apply laws_szMemberS_cc <;> assumption) | (apply laws_szTypeS_cc <;> assumption) | (apply laws_szPoint_cc <;> assumption) | (apply laws_szPointS_cc <;> assumption) | (apply laws_szSelection_cc <;> assumption) | (apply laws_szMapping_cc <;> assumption) | (apply laws_szMappingS_cc <;> assumption) | (apply laws_szVirtual_cc <;> assumption) | (apply spec_SameSelection_cc <;> assumption)))) | (apply laws_szStringS_cc <;> assumption) | (apply laws_szMember_cc <;> assumption) | (apply laws_szMemberS_cc <;> assumption) | (apply laws_szTypeS_cc <;> assumption) | (apply laws_szPoint_cc <;> assumption) | (apply laws_szPointS_cc <;> assumption) | (apply laws_szSelection_cc <;> assumption) | (apply laws_szMapping_cc <;> assumption) | (apply laws_szMappingS_cc <;> assumption) | (apply laws_szVirtual_cc <;> assumption) | (apply spec_SameSelection_cc <;> assumption)) ?_
  refine Tr.n (by simp [laws_eqInt64S_v]) ?_
  refine Tr.t (by first | (apply is_true; and_intros <;> (first | rfl | assumption | (apply laws_szStringS_cc <;> assumption) | (apply laws_szMember_cc <;> assumption) | (apply laws_szMemberS_cc <;> assumption) | (apply laws_szTypeS_cc <;> assumption) | (apply laws_szPoint_cc <;> assumption) | (apply laws_szPointS_cc <;> assumption) | (apply laws_szSelection_cc <;> assumption) | (apply laws_szMapping_cc <;> assumption) | (apply laws_szMappingS_cc <;> assumption) | (apply laws_szVirtual_cc <;> assumption) | (apply spec_SameSelection_cc <;> assumption) | (first | (apply is_true; and_intros <;> (first | rfl | assumption | (apply laws_szStringS_cc <;> assumption) | (apply laws_szMember_cc <;> assumption) | (apply laws_szMemberS_cc <;> assumption) | (apply laws_szTypeS_cc <;> assumption) | (apply laws_szPoint_cc <;> assumption) | (apply laws_szPointS_cc <;> assumption) | (apply laws_szSelection_cc <;> assumption) | (apply laws_szMapping_cc <;> assumption) | (apply laws_szMappingS_cc <;> assumption) | (apply laws_szVirtual_cc <;> assumption) | (apply spec_SameSelection_cc <;> assumption) | (first | (apply is_true; and_intros <;> (first | rfl | assumption | (apply laws_szStringS_cc <;> assumption) | (apply laws_szMember_cc <;> assumption) | (apply laws_szMemberS_cc <;> assumption) | (apply laws_szTypeS_cc <;> assumption) | (apply laws_szPoint_cc <;> assumption) | (apply laws_szPointS_cc <;> assumption) | (apply laws_szSelection_cc <;> assumption) | (apply laws_szMapping_cc <;> assumption) | (apply laws_szMappingS_cc <;> assumption) | (apply laws_szVirtual_cc <;> assumption) | (apply spec_SameSelection_cc <;> assumption) | (first | (apply is_true; and_intros <;> (first | rfl | assumption | (apply laws_szStringS_cc <;> assumption) | (apply laws_szMember_cc <;> assumption) | (apply laws_szMemberS_cc <;> assumption) | (apply laws_szTypeS_cc <;> assumption) | (apply laws_szPoint_cc <;> assumption) | (apply laws_szPointS_cc <;> assumption) | (apply laws_szSelection_cc <;> assumption) | (apply laws_szMapping_cc <;> assumption) | (apply laws_szMappingS_cc <;> assumption) | (apply laws_szVirtual_cc <;> assumption) | (apply spec_SameSelection_cc <;> assumption))) | (apply laws_szStringS_cc <;> assumption) | (apply laws_szMember_cc <;> assumption) | (apply laws_szMemberS_cc <;> assumption) | (apply laws_szTypeS_cc <;> assumption) | (apply laws_szPoint_cc <;> assumption) | (apply laws_szPointS_cc <;> assumption) | (apply laws_szSelection_cc <;> assumption) | (apply laws_szMapping_cc <;> assumption) | (apply laws_szMappingS_cc <;> assumption) | (apply laws_szVirtual_cc <;> assumption) | (apply spec_SameSelection_cc <;> assumption)))) | (apply laws_szStringS_cc <;> assumption) | (apply laws_szMember_cc <;> assumption) | (apply laws_szMemberS_cc <;> assumption) | (apply laws_szTypeS_cc <;> assumption) | (apply laws_szPoint_cc <;> assumption) | (apply laws_szPointS_cc <;> assumption) | (apply laws_szSelection_cc <;> assumption) | (apply laws_szMapping_cc <;> assumption) | (apply laws_szMappingS_cc <;> assumption) | (apply laws_szVirtual_cc <;> assumption) | (apply spec_SameSelection_cc <;> assumption)))) | (apply laws_szStringS_cc <;> assumption) | (apply laws_szMember_cc <;> assumption) | (apply laws_szMemberS_cc <;> assumption) | (apply laws_szTypeS_cc <;> assumption) | (apply laws_szPoint_cc <;> assumption) | (apply laws_szPointS_cc <;> assumption) | (apply laws_szSelection_cc <;> assumption) | (apply laws_szMapping_cc <;> assumption) | (apply laws_szMappingS_cc <;> assumption) | (apply laws_szVirtual_cc <;> assumption) | (apply spec_SameSelection_cc <;> assumption)))) | (apply laws_szStringS_cc <;> assumption) | (apply laws_szMember_cc <;> assumption) | (apply laws_szMemberS_cc <;> assumption) | (apply laws_szTypeS_cc <;> assumption) | (apply laws_szPoint_cc <;> assumption) | (apply laws_szPointS_cc <;> assumption) | (apply laws_szSelection_cc <;> assumption) | (apply laws_szMapping_cc <;> assumption) | (apply laws_szMappingS_cc <;> assumption) | (apply laws_szVirtual_cc <;> assumption) | (apply spec_SameSelection_cc <;> assumption)) ?_
  refine Tr.n (by simp [laws_eqInt64S_v]) ?_
  refine Tr.t (by first | (apply is_true; and_intros <;> (first | rfl | assumption | (apply laws_szStringS_cc <;> assumption) | (apply laws_szMember_cc <;> assumption) | (apply laws_szMemberS_cc <;> assumption) | (apply laws_szTypeS_cc <;> assumption) | (apply laws_szPoint_cc <;> assumption) | (apply laws_szPointS_cc <;> assumption) | (apply laws_szSelection_cc <;> assumption) | (apply laws_szMapping_cc <;> assumption) | (apply laws_szMappingS_cc <;> assumption) | (apply laws_szVirtual_cc <;> assumption) | (apply spec_SameSelection_cc <;> assumption) | (first | (apply is_true; and_intros <;> (first | rfl | assumption | (apply laws_szStringS_cc <;> assumption) | (apply laws_szMember_cc <;> assumption) | (apply laws_szMemberS_cc <;> assumption) | (apply laws_szTypeS_cc <;> assumption) | (apply laws_szPoint_cc <;> assumption) | (apply laws_szPointS_cc <;> assumption) | (apply laws_szSelection_cc <;> assumption) | (apply laws_szMapping_cc <;> assumption) | (apply laws_szMappingS_cc <;> assumption) | (apply laws_szVirtual_cc <;> assumption) | (apply spec_SameSelection_cc <;> assumption) | (first | (apply is_true; and_intros <;> (first | rfl | assumption | (apply laws_szStringS_cc <;> assumption) | (apply laws_szMember_cc <;> assumption) | (apply laws_szMemberS_cc <;> assumption) | (apply laws_szTypeS_cc <;> assumption) | (apply laws_szPoint_cc <;> assumption) | (apply laws_szPointS_cc <;> assumption) | (apply laws_szSelection_cc <;> assumption) | (apply laws_szMapping_cc <;> assumption) | (apply laws_szMappingS_cc <;> assumption) | (apply laws_szVirtual_cc <;> assumption) | (apply spec_SameSelection_cc <;> assumption) | (first | (apply is_true; and_intros <;> (first | rfl | assumption | (apply laws_szStringS_cc <;> assumption) | (apply laws_szMember_cc <;> assumption) | (apply laws_szMemberS_cc <;> assumption) | (apply laws_szTypeS_cc <;> assumption) | (apply laws_szPoint_cc <;> assumption) | (apply laws_szPointS_cc <;> assumption) | (apply laws_szSelection_cc <;> assumption) | (apply laws_szMapping_cc <;> assumption) | (apply laws_szMappingS_cc <;> assumption) | (apply laws_szVirtual_cc <;> assumption) | (apply spec_SameSelection_cc <;> assumption))) | (apply laws_szStringS_cc <;> assumption) | (apply laws_szMember_cc <;> assumption) | (apply laws_szMemberS_cc <;> assumption) | (apply laws_szTypeS_cc <;> assumption) | (apply laws_szPoint_cc <;> assumption) | (apply laws_szPointS_cc <;> assumption) | (apply laws_szSelection_cc <;> assumption) | (apply laws_szMapping_cc <;> assumption) | (apply laws_szMappingS_cc <;> assumption) | (apply laws_szVirtual_cc <;> assumption) | (apply spec_SameSelection_cc <;> assumption)))) | (apply laws_szStringS_cc <;> assumption) | (apply laws_szMember_cc <;> assumption) | (apply laws_szMemberS_cc <;> assumption) | (apply laws_szTypeS_cc <;> assumption) | (apply laws_szPoint_cc <;> assumption) | (apply laws_szPointS_cc <;> assumption) | (apply laws_szSelection_cc <;> assumption) | (apply laws_szMapping_cc <;> assumption) | (apply laws_szMappingS_cc <;> assumption) | (apply laws_szVirtual_cc <;> assumption) | (apply spec_SameSelection_cc <;> assumption)))) | (apply laws_szStringS_cc <;> assumption) | (apply laws_szMember_cc <;> assumption) | (apply laws_szMemberS_cc <;> assumption) | (apply laws_szTypeS_cc <;> assumption) | (apply laws_szPoint_cc <;> assumption) | (apply laws_szPointS_cc <;> assumption) | (apply laws_szSelection_cc <;> assumption) | (apply laws_szMapping_cc <;> assumption) | (apply laws_szMappingS_cc <;> assumption) | (apply laws_szVirtual_cc <;> assumption) | (apply spec_SameSelection_cc <;> assumption)))) | (apply laws_szStringS_cc <;> assumption) | (apply laws_szMember_cc <;> assumption) | (apply laws_szMemberS_cc <;> assumption) | (apply laws_szTypeS_cc <;> assumption) | (apply laws_szPoint_cc <;> assumption) | (apply laws_szPointS_cc <;> assumption) | (apply laws_szSelection_cc <;> assumption) | (apply laws_szMapping_cc <;> assumption) | (apply laws_szMappingS_cc <;> assumption) | (apply laws_szVirtual_cc <;> assumption) | (apply spec_SameSelection_cc <;> assumption)) ?_
  refine Tr.n (by simp [laws_eqInt64S_v]) ?_
  refine Tr.t (by first | (apply is_true; and_intros <;> (first | rfl | assumption | (apply laws_szStringS_cc <;> assumption) | (apply laws_szMember_cc <;> assumption) | (apply laws_szMemberS_cc <;> assumption) | (apply laws_szTypeS_cc <;> assumption) | (apply laws_szPoint_cc <;> assumption) | (apply laws_szPointS_cc <;> assumption) | (apply laws_szSelection_cc <;> assumption) | (apply laws_szMapping_cc <;> assumption) | (apply laws_szMappingS_cc <;> assumption) | (apply laws_szVirtual_cc <;> assumption) | (apply spec_SameSelection_cc <;> assumption) | (first | (apply is_true; and_intros <;> (first | rfl | assumption | (apply laws_szStringS_cc <;> assumption) | (apply laws_szMember_cc <;> assumption) | (apply laws_szMemberS_cc <;> assumption) | (apply laws_szTypeS_cc <;> assumption) | (apply laws_szPoint_cc <;> assumption) | (apply laws_szPointS_cc <;> assumption) | (apply laws_szSelection_cc <;> assumption) | (apply laws_szMapping_cc <;> assumption) | (apply laws_szMappingS_cc <;> assumption) | (apply laws_szVirtual_cc <;> assumption) | (apply spec_SameSelection_cc <;> assumption) | (first | (apply is_true; and_intros <;> (first | rfl | assumption | (apply laws_szStringS_cc <;> assumption) | (apply laws_szMember_cc <;> assumption) | (apply laws_szMemberS_cc <;> assumption) | (apply laws_szTypeS_cc <;> assumption) | (apply laws_szPoint_cc <;> assumption) | (apply laws_szPointS_cc <;> assumption) | (apply laws_szSelection_cc <;> assumption) | (apply laws_szMapping_cc <;> assumption) | (apply laws_szMappingS_cc <;> assumption) | (apply laws_szVirtual_cc <;> assumption) | (apply spec_SameSelection_cc <;> assumption) | (first | (apply is_true; and_intros <;> (first | rfl | assumption | (apply laws_szStringS_cc <;> assumption) | (apply laws_szMember_cc <;> assumption) | (apply laws_szMemberS_cc <;> assumption) | (apply laws_szTypeS_cc <;> assumption) | (apply laws_szPoint_cc <;> assumption) | (apply laws_szPointS_cc <;> assumption) | (apply laws_szSelection_cc <;> assumption) | (apply laws_szMapping_cc <;> assumption) | (apply laws_szMappingS_cc <;> assumption) | (apply laws_szVirtual_cc <;> assumption) | (apply spec_SameSelection_cc <;> assumption))) | (apply laws_szStringS_cc <;> assumption) | (apply laws_szMember_cc <;> assumption) | (apply laws_szMemberS_cc <;> assumption) | (apply laws_szTypeS_cc <;> assumption) | (apply laws_szPoint_cc <;> assumption) | (apply laws_szPointS_cc <;> assumption) | (apply laws_szSelection_cc <;> assumption) | (apply laws_szMapping_cc <;> assumption) | (apply laws_szMappingS_cc <;> assumption) | (apply laws_szVirtual_cc <;> assumption) | (apply spec_SameSelection_cc <;> assumption)))) | (apply laws_szStringS_cc <;> assumption) | (apply laws_szMember_cc <;> assumption) | (apply laws_szMemberS_cc <;> assumption) | (apply laws_szTypeS_cc <;> assumption) | (apply laws_szPoint_cc <;> assumption) | (apply laws_szPointS_cc <;> assumption) | (apply laws_szSelection_cc <;> assumption) | (apply laws_szMapping_cc <;> assumption) | (apply laws_szMappingS_cc <;> assumption) | (apply laws_szVirtual_cc <;> assumption) | (apply spec_SameSelection_cc <;> assumption)))) | (apply laws_szStringS_cc <;> assumption) | (apply laws_szMember_cc <;> assumption) | (apply laws_szMemberS_cc <;> assumption) | (apply laws_szTypeS_cc <;> assumption) | (apply laws_szPoint_cc <;> assumption) | (apply laws_szPointS_cc <;> assumption) | (apply laws_szSelection_cc <;> assumption) | (apply laws_szMapping_cc <;> assumption) | (apply laws_szMappingS_cc <;> assumption) | (apply laws_szVirtual_cc <;> assumption) | (apply spec_SameSelection_cc <;> assumption)))) | (apply laws_szStringS_cc <;> assumption) | (apply laws_szMember_cc <;> assumption) | (apply laws_szMemberS_cc <;> assumption) | (apply laws_szTypeS_cc <;> assumption) | (apply laws_szPoint_cc <;> assumption) | (apply laws_szPointS_cc <;> assumption) | (apply laws_szSelection_cc <;> assumption) | (apply laws_szMapping_cc <;> assumption) | (apply laws_szMappingS_cc <;> assumption) | (apply laws_szVirtual_cc <;> assumption) | (apply spec_SameSelection_cc <;> assumption)) ?_
  refine Tr.n (by simp [laws_eqPointS_v]) ?_
  rfl
end
end
end
end
end
end Go.Proofs.Ytghbndlkekaipaa.V
