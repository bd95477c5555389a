/- What the functions of FnExactSameVirtual answer. No condition. -/
import Derived.Test.YtghbndlkekaipaaVFnExactSameVirtualP3
namespace Go.Proofs.Ytghbndlkekaipaa.V
open Go
set_option maxRecDepth 100000
set_option linter.unusedVariables false
set_option linter.unusedSectionVars false
set_option linter.unusedSimpArgs false
set_option maxHeartbeats 2000000
section
variable [i_laws_szType : laws_szType_O]
variable [g_laws_szType : laws_szType_G]
section
variable [i_laws_toType : laws_toType_O]
variable [g_laws_toType : laws_toType_G]
section
variable [i_spec_SameType : spec_SameType_O]
variable [g_spec_SameType : spec_SameType_G]
section
variable [i_impl_SameType : impl_SameType_O]
variable [g_impl_SameType : impl_SameType_G]
section
variable [i_laws_eqType : laws_eqType_O]
variable [g_laws_eqType : laws_eqType_G]
noncomputable def laws_eqSelection_S : List Arg → Option (Bool × Res) := fun xs => match xs with
  | [(true, [(.int .i64, TC.i x0), (.slice 2, TC.l x1), (.slice 2, TC.l x2), (.slice 2, TC.l x3), (.slice 2, TC.l x4), (.slice 193, TC.l x5)]), (true, [(.int .i64, TC.i y0), (.slice 2, TC.l y1), (.slice 2, TC.l y2), (.slice 2, TC.l y3), (.slice 2, TC.l y4), (.slice 193, TC.l y5)])] => some ((laws_eqSelection_c x0 x1 x2 x3 x4 x5 y0 y1 y2 y3 y4 y5), laws_eqSelection_mk (laws_eqSelection_v x0 x1 x2 x3 x4 x5 y0 y1 y2 y3 y4 y5))
  | _ => .none
theorem laws_eqSelection_e (x0 : Int) (x1 : List (List TC)) (x2 : List (List TC)) (x3 : List (List TC)) (x4 : List (List TC)) (x5 : List (List TC)) (y0 : Int) (y1 : List (List TC)) (y2 : List (List TC)) (y3 : List (List TC)) (y4 : List (List TC)) (y5 : List (List TC)) : runF tab FT D53 live 146 noLoops [(true, [(.int .i64, TC.i x0), (.slice 2, TC.l x1), (.slice 2, TC.l x2), (.slice 2, TC.l x3), (.slice 2, TC.l x4), (.slice 193, TC.l x5)]), (true, [(.int .i64, TC.i y0), (.slice 2, TC.l y1), (.slice 2, TC.l y2), (.slice 2, TC.l y3), (.slice 2, TC.l y4), (.slice 193, TC.l y5)])] = (laws_eqSelection_t x0 x1 x2 x3 x4 x5 y0 y1 y2 y3 y4 y5).run fun p => some (laws_eqSelection_mk p) := by kernel_rfl
theorem laws_eqSelection_s : ∀ xs r, laws_eqSelection_S xs = some (true, r) → runF tab FT D53 live 146 noLoops xs = some r := by
  intro xs r h
  unfold laws_eqSelection_S at h
  split at h
  · simp only [Option.some.injEq, Prod.mk.injEq] at h
    obtain ⟨h1, rfl⟩ := h
    exact fun_told (laws_eqSelection_e _ _ _ _ _ _ _ _ _ _ _ _) (laws_eqSelection_l _ _ _ _ _ _ _ _ _ _ _ _) h1
  · cases h
noncomputable def D54 : Dt := also D53 146 laws_eqSelection_S
theorem d54 : DOk Go.Proofs.Try.prog tab D54 := d53.also mixed_ok tab_ok names_ok noLoops_ok laws_eqSelection_s
/-! laws_eqMapping -/
noncomputable def laws_eqMapping_t (x0 : List UInt8) (x1 : Int) (x2 : List (List TC)) (x3 : List (List TC)) (x4 : List (List TC)) (x5 : List (List TC)) (x6 : List (List TC)) (x7 : Int) (x8 : List (List TC)) (x9 : List (List TC)) (x10 : List (List TC)) (x11 : List (List TC)) (x12 : List (List TC)) (y0 : List UInt8) (y1 : Int) (y2 : List (List TC)) (y3 : List (List TC)) (y4 : List (List TC)) (y5 : List (List TC)) (y6 : List (List TC)) (y7 : Int) (y8 : List (List TC)) (y9 : List (List TC)) (y10 : List (List TC)) (y11 : List (List TC)) (y12 : List (List TC)) : Tr (Bool) := (.ite ((!(x0 == y0)) = true) (.ok false)
  (.ite ((laws_eqSelection_c x1 x2 x3 x4 x5 x6 y1 y2 y3 y4 y5 y6) = true) (.ite ((!(laws_eqSelection_v x1 x2 x3 x4 x5 x6 y1 y2 y3 y4 y5 y6)) = true) (.ok false)
    (.ite ((laws_eqSelection_c x7 x8 x9 x10 x11 x12 y7 y8 y9 y10 y11 y12) = true) (.ite ((!(laws_eqSelection_v x7 x8 x9 x10 x11 x12 y7 y8 y9 y10 y11 y12)) = true) (.ok false)
      (.ok true))
     .no))
   .no))
def laws_eqMapping_mk (p : Bool) : Res := [(false, [⟨.bool, .sh, TC.b p⟩])]
noncomputable def laws_eqMapping_c (x0 : List UInt8) (x1 : Int) (x2 : List (List TC)) (x3 : List (List TC)) (x4 : List (List TC)) (x5 : List (List TC)) (x6 : List (List TC)) (x7 : Int) (x8 : List (List TC)) (x9 : List (List TC)) (x10 : List (List TC)) (x11 : List (List TC)) (x12 : List (List TC)) (y0 : List UInt8) (y1 : Int) (y2 : List (List TC)) (y3 : List (List TC)) (y4 : List (List TC)) (y5 : List (List TC)) (y6 : List (List TC)) (y7 : Int) (y8 : List (List TC)) (y9 : List (List TC)) (y10 : List (List TC)) (y11 : List (List TC)) (y12 : List (List TC)) : Bool := is (x0 = y0 ∧ x1 = y1 ∧ x2 = y2 ∧ x3 = y3 ∧ x4 = y4 ∧ x5 = y5 ∧ x6 = y6 ∧ x7 = y7 ∧ x8 = y8 ∧ x9 = y9 ∧ x10 = y10 ∧ x11 = y11 ∧ x12 = y12 ∧ Typed tab (.str) (.s x0) ∧ Typed tab (.slice 2) (.l x2) ∧ Typed tab (.slice 2) (.l x3) ∧ Typed tab (.slice 2) (.l x4) ∧ Typed tab (.slice 2) (.l x5) ∧ Typed tab (.slice 193) (.l x6) ∧ Typed tab (.slice 2) (.l x8) ∧ Typed tab (.slice 2) (.l x9) ∧ Typed tab (.slice 2) (.l x10) ∧ Typed tab (.slice 2) (.l x11) ∧ Typed tab (.slice 193) (.l x12))
noncomputable def laws_eqMapping_v (x0 : List UInt8) (x1 : Int) (x2 : List (List TC)) (x3 : List (List TC)) (x4 : List (List TC)) (x5 : List (List TC)) (x6 : List (List TC)) (x7 : Int) (x8 : List (List TC)) (x9 : List (List TC)) (x10 : List (List TC)) (x11 : List (List TC)) (x12 : List (List TC)) (y0 : List UInt8) (y1 : Int) (y2 : List (List TC)) (y3 : List (List TC)) (y4 : List (List TC)) (y5 : List (List TC)) (y6 : List (List TC)) (y7 : Int) (y8 : List (List TC)) (y9 : List (List TC)) (y10 : List (List TC)) (y11 : List (List TC)) (y12 : List (List TC)) : Bool := true
theorem laws_eqMapping_l (x0 : List UInt8) (x1 : Int) (x2 : List (List TC)) (x3 : List (List TC)) (x4 : List (List TC)) (x5 : List (List TC)) (x6 : List (List TC)) (x7 : Int) (x8 : List (List TC)) (x9 : List (List TC)) (x10 : List (List TC)) (x11 : List (List TC)) (x12 : List (List TC)) (y0 : List UInt8) (y1 : Int) (y2 : List (List TC)) (y3 : List (List TC)) (y4 : List (List TC)) (y5 : List (List TC)) (y6 : List (List TC)) (y7 : Int) (y8 : List (List TC)) (y9 : List (List TC)) (y10 : List (List TC)) (y11 : List (List TC)) (y12 : List (List TC)) : (laws_eqMapping_c x0 x1 x2 x3 x4 x5 x6 x7 x8 x9 x10 x11 x12 y0 y1 y2 y3 y4 y5 y6 y7 y8 y9 y10 y11 y12) = true → (laws_eqMapping_t x0 x1 x2 x3 x4 x5 x6 x7 x8 x9 x10 x11 x12 y0 y1 y2 y3 y4 y5 y6 y7 y8 y9 y10 y11 y12).val = some (laws_eqMapping_v x0 x1 x2 x3 x4 x5 x6 x7 x8 x9 x10 x11 x12 y0 y1 y2 y3 y4 y5 y6 y7 y8 y9 y10 y11 y12) := by
  intro h
  obtain ⟨rfl, rfl, rfl, rfl, rfl, rfl, rfl, rfl, rfl, rfl, rfl, rfl, rfl, t0, t1, t2, t3, t4, t5, t6, t7, t8, t9, t10⟩ := is_iff.1 h
  unfold laws_eqMapping_t
  refine Tr.n (by simp) ?_
  refine Tr.t (by first | (apply is_true; and_intros <;> (first | rfl | assumption | (apply laws_szStringS_cc <;> assumption) | (apply laws_szMember_cc <;> assumption) | (apply laws_szMemberS_cc <;> assumption) | (apply laws_szTypeS_cc <;> assumption) | (apply laws_szPoint_cc <;> assumption) | (apply laws_szPointS_cc <;> assumption) | (apply laws_szSelection_cc <;> assumption) | (apply laws_szMapping_cc <;> assumption) | (apply laws_szMappingS_cc <;> assumption) | (apply laws_szVirtual_cc <;> assumption) | (apply spec_SameSelection_cc <;> assumption) | (first | (apply is_true; and_intros <;> (first | rfl | assumption | (apply laws_szStringS_cc <;> assumption) | (apply laws_szMember_cc <;> assumption) | (apply laws_szMemberS_cc <;> assumption) | (apply laws_szTypeS_cc <;> assumption) | (apply laws_szPoint_cc <;> assumption) | (apply laws_szPointS_cc <;> assumption) | (apply laws_szSelection_cc <;> assumption) | (apply laws_szMapping_cc <;> assumption) | (apply laws_szMappingS_cc <;> assumption) | (apply laws_szVirtual_cc <;> assumption) | (apply spec_SameSelection_cc <;> assumption) | (first | (apply is_true; and_intros <;> (first | rfl | assumption | (apply laws_szStringS_cc <;> assumption) | (apply laws_szMember_cc <;> assumption) | (apply laws_szMemberS_cc <;> assumption) | (apply laws_szTypeS_cc <;> assumption) | (apply laws_szPoint_cc <;> assumption) | (apply laws_szPointS_cc <;> assumption) | (apply laws_szSelection_cc <;> assumption) | (apply laws_szMapping_cc <;> assumption) | (apply laws_szMappingS_cc <;> assumption) | (apply laws_szVirtual_cc <;> assumption) | (apply spec_SameSelection_cc <;> assumption) | (first | (apply is_true; and_intros <;> (first | rfl | assumption | (apply laws_szStringS_cc <;> assumption) | (apply laws_szMember_cc <;> assumption) | (apply laws_szMemberS_cc <;> assumption) | (apply laws_szTypeS_cc <;> assumption) | (apply laws_szPoint_cc <;> assumption) | (apply laws_szPointS_cc <;> assumption) | (apply laws_szSelection_cc <;> assumption) | (apply laws_szMapping_cc <;> assumption) | (apply laws_szMappingS_cc <;> assumption) | (apply laws_szVirtual_cc <;> assumption) | (apply spec_SameSelection_cc <;> assumption))) | (apply laws_szStringS_cc <;> assumption) | (apply laws_szMember_cc <;> assumption) | (apply laws_szMemberS_cc <;> assumption) | (apply laws_szTypeS_cc <;> assumption) | (apply laws_szPoint_cc <;> assumption) | (apply laws_szPointS_cc <;> assumption) | (apply laws_szSelection_cc <;> assumption) | (apply laws_szMapping_cc <;> assumption) | (apply laws_szMappingS_cc <;> assumption) | (apply laws_szVirtual_cc <;> assumption) | (apply spec_SameSelection_cc <;> assumption)))) | (apply laws_szStringS_cc <;> assumption) | (apply laws_szMember_cc <;> assumption) | (apply laws_szMemberS_cc <;> assumption) | (apply laws_szTypeS_cc <;> assumption) | (apply laws_szPoint_cc <;> assumption) | (apply laws_szPointS_cc <;> assumption) | (apply laws_szSelection_cc <;> assumption) | (apply laws_szMapping_cc <;> assumption) | (apply laws_szMappingS_cc <;> assumption) | (apply laws_szVirtual_cc <;> assumption) | (apply spec_SameSelection_cc <;> assumption)))) | (apply laws_szStringS_cc <;> assumption) | (apply laws_szMember_cc <;> assumption) | (apply laws_szMemberS_cc <;> assumption) | (apply laws_szTypeS_cc <;> assumption) | (apply laws_szPoint_cc <;> assumption) | (apply laws_szPointS_cc <;> assumption) | (apply laws_szSelection_cc <;> assumption) | (apply laws_szMapping_cc <;> assumption) | (apply laws_szMappingS_cc <;> assumption) | (apply laws_szVirtual_cc <;> assumption) | (apply spec_SameSelection_cc <;> assumption)))) | (apply laws_szStringS_cc <;> assumption) | (apply laws_szMember_cc <;> assumption) | (apply laws_szMemberS_cc <;> assumption) | (apply laws_szTypeS_cc <;> assumption) | (apply laws_szPoint_cc <;> assumption) | (apply laws_szPointS_cc <;> assumption) | (apply laws_szSelection_cc <;> assumption) | (apply laws_szMapping_cc <;> assumption) | (apply laws_szMappingS_cc <;> assumption) | (apply laws_szVirtual_cc <;> assumption) | (apply spec_SameSelection_cc <;> assumption)) ?_
  refine Tr.n (by simp [laws_eqSelection_v]) ?_
  refine Tr.t (by first | (apply is_true; and_intros <;> (first | rfl | assumption | (apply laws_szStringS_cc <;> assumption) | (apply laws_szMember_cc <;> assumption) | (apply laws_szMemberS_cc <;> assumption) | (apply laws_szTypeS_cc <;> assumption) | (apply laws_szPoint_cc <;> assumption) | (apply laws_szPointS_cc <;> assumption) | (apply laws_szSelection_cc <;> assumption) | (apply laws_szMapping_cc <;> assumption) | (apply laws_szMappingS_cc <;> assumption) | (apply laws_szVirtual_cc <;> assumption) | (apply spec_SameSelection_cc <;> assumption) | (first | (apply is_true; and_intros <;> (first | rfl | assumption | (apply laws_szStringS_cc <;> assumption) | (apply laws_szMember_cc <;> assumption) | (apply laws_szMemberS_cc <;> assumption) | (apply laws_szTypeS_cc <;> assumption) | (apply laws_szPoint_cc <;> assumption) | (apply laws_szPointS_cc <;> assumption) | (apply laws_szSelection_cc <;> assumption) | (apply laws_szMapping_cc <;> assumption) | (apply laws_szMappingS_cc <;> assumption) | (apply laws_szVirtual_cc <;> assumption) | (apply spec_SameSelection_cc <;> assumption) | (first | (apply is_true; and_intros <;> (first | rfl | assumption | (apply laws_szStringS_cc <;> assumption) | (apply laws_szMember_cc <;> assumption) | (apply laws_szMemberS_cc <;> assumption) | (apply laws_szTypeS_cc <;> assumption) | (apply laws_szPoint_cc <;> assumption) | (apply laws_szPointS_cc <;> assumption) | (apply laws_szSelection_cc <;> assumption) | (apply laws_szMapping_cc <;> assumption) | (apply laws_szMappingS_cc <;> assumption) | (apply laws_szVirtual_cc <;> assumption) | (apply spec_SameSelection_cc <;> assumption) | (first | (apply is_true; and_intros <;> (first | rfl | assumption | (apply laws_szStringS_cc <;> assumption) | (apply laws_szMember_cc <;> assumption) | (apply laws_szMemberS_cc <;> assumption) | (apply laws_szTypeS_cc <;> assumption) | (apply laws_szPoint_cc <;> assumption) | (apply laws_szPointS_cc <;> assumption) | (apply laws_szSelection_cc <;> assumption) | (apply laws_szMapping_cc <;> assumption) | (apply laws_szMappingS_cc <;> assumption) | (apply laws_szVirtual_cc <;> assumption) | (apply spec_SameSelection_cc <;> assumption))) | (apply laws_szStringS_cc <;> assumption) | (apply laws_szMember_cc <;> assumption) | (apply laws_szMemberS_cc <;> assumption) | (apply laws_szTypeS_cc <;> assumption) | (apply laws_szPoint_cc <;> assumption) | (apply laws_szPointS_cc <;> assumption) | (apply laws_szSelection_cc <;> assumption) | (apply laws_szMapping_cc <;> assumption) | (apply laws_szMappingS_cc <;> assumption) | (apply laws_szVirtual_cc <;> assumption) | (apply spec_SameSelection_cc <;> assumption)))) | (apply laws_szStringS_cc <;> assumption) | (apply laws_szMember_cc <;> assumption) | (apply laws_szMemberS_cc <;> assumption) | (apply laws_szTypeS_cc <;> assumption) | (apply laws_szPoint_cc <;> assumption) | (apply laws_szPointS_cc <;> assumption) | (apply laws_szSelection_cc <;> assumption) | (apply laws_szMapping_cc <;> assumption) | (apply laws_szMappingS_cc <;> assumption) | (apply laws_szVirtual_cc <;> assumption) | (apply spec_SameSelection_cc <;> assumption)))) | (apply laws_szStringS_cc <;> assumption) | (apply laws_szMember_cc <;> assumption) | (apply laws_szMemberS_cc <;> assumption) | (apply laws_szTypeS_cc <;> assumption) | (apply laws_szPoint_cc <;> assumption) | (apply laws_szPointS_cc <;> assumption) | (apply laws_szSelection_cc <;> assumption) | (apply laws_szMapping_cc <;> assumption) | (apply laws_szMappingS_cc <;> assumption) | (apply laws_szVirtual_cc <;> assumption) | (apply spec_SameSelection_cc <;> assumption)))) | (apply laws_szStringS_cc <;> assumption) | (apply laws_szMember_cc <;> assumption) | (apply laws_szMemberS_cc <;> assumption) | (apply laws_szTypeS_cc <;> assumption) | (apply laws_szPoint_cc <;> assumption) | (apply laws_szPointS_cc <;> assumption) | (apply laws_szSelection_cc <;> assumption) | (apply laws_szMapping_cc <;> assumption) | (apply laws_szMappingS_cc <;> assumption) | (apply laws_szVirtual_cc <;> assumption) | (apply spec_SameSelection_cc <;> assumption)) ?_
  refine Tr.n (by simp [laws_eqSelection_v]) ?_
  rfl
noncomputable def laws_eqMapping_S : List Arg → Option (Bool × Res) := fun xs => match xs with
  | [(true, [(.str, TC.s x0), (.int .i64, TC.i x1), (.slice 2, TC.l x2), (.slice 2, TC.l x3), (.slice 2, TC.l x4), (.slice 2, TC.l x5), (.slice 193, TC.l x6), (.int .i64, TC.i x7), (.slice 2, TC.l x8), (.slice 2, TC.l x9), (.slice 2, TC.l x10), (.slice 2, TC.l x11), (.slice 193, TC.l x12)]), (true, [(.str, TC.s y0), (.int .i64, TC.i y1), (.slice 2, TC.l y2), (.slice 2, TC.l y3), (.slice 2, TC.l y4), (.slice 2, TC.l y5), (.slice 193, TC.l y6), (.int .i64, TC.i y7), (.slice 2, TC.l y8), (.slice 2, TC.l y9), (.slice 2, TC.l y10), (.slice 2, TC.l y11), (.slice 193, TC.l y12)])] => some ((laws_eqMapping_c x0 x1 x2 x3 x4 x5 x6 x7 x8 x9 x10 x11 x12 y0 y1 y2 y3 y4 y5 y6 y7 y8 y9 y10 y11 y12), laws_eqMapping_mk (laws_eqMapping_v x0 x1 x2 x3 x4 x5 x6 x7 x8 x9 x10 x11 x12 y0 y1 y2 y3 y4 y5 y6 y7 y8 y9 y10 y11 y12))
  | _ => .none
theorem laws_eqMapping_e (x0 : List UInt8) (x1 : Int) (x2 : List (List TC)) (x3 : List (List TC)) (x4 : List (List TC)) (x5 : List (List TC)) (x6 : List (List TC)) (x7 : Int) (x8 : List (List TC)) (x9 : List (List TC)) (x10 : List (List TC)) (x11 : List (List TC)) (x12 : List (List TC)) (y0 : List UInt8) (y1 : Int) (y2 : List (List TC)) (y3 : List (List TC)) (y4 : List (List TC)) (y5 : List (List TC)) (y6 : List (List TC)) (y7 : Int) (y8 : List (List TC)) (y9 : List (List TC)) (y10 : List (List TC)) (y11 : List (List TC)) (y12 : List (List TC)) : runF tab FT D54 live 113 noLoops [(true, [(.str, TC.s x0), (.int .i64, TC.i x1), (.slice 2, TC.l x2), (.slice 2, TC.l x3), (.slice 2, TC.l x4), (.slice 2, TC.l x5), (.slice 193, TC.l x6), (.int .i64, TC.i x7), (.slice 2, TC.l x8), (.slice 2, TC.l x9), (.slice 2, TC.l x10), (.slice 2, TC.l x11), (.slice 193, TC.l x12)]), (true, [(.str, TC.s y0), (.int .i64, TC.i y1), (.slice 2, TC.l y2), (.slice 2, TC.l y3), (.slice 2, TC.l y4), (.slice 2, TC.l y5), (.slice 193, TC.l y6), (.int .i64, TC.i y7), (.slice 2, TC.l y8), (.slice 2, TC.l y9), (.slice 2, TC.l y10), (.slice 2, TC.l y11), (.slice 193, TC.l y12)])] = (laws_eqMapping_t x0 x1 x2 x3 x4 x5 x6 x7 x8 x9 x10 x11 x12 y0 y1 y2 y3 y4 y5 y6 y7 y8 y9 y10 y11 y12).run fun p => some (laws_eqMapping_mk p) := by kernel_rfl
theorem laws_eqMapping_s : ∀ xs r, laws_eqMapping_S xs = some (true, r) → runF tab FT D54 live 113 noLoops xs = some r := by
  intro xs r h
  unfold laws_eqMapping_S at h
  split at h
  · simp only [Option.some.injEq, Prod.mk.injEq] at h
    obtain ⟨h1, rfl⟩ := h
    exact fun_told (laws_eqMapping_e _ _ _ _ _ _ _ _ _ _ _ _ _ _ _ _ _ _ _ _ _ _ _ _ _ _) (laws_eqMapping_l _ _ _ _ _ _ _ _ _ _ _ _ _ _ _ _ _ _ _ _ _ _ _ _ _ _) h1
  · cases h
noncomputable def D55 : Dt := also D54 113 laws_eqMapping_S
theorem d55 : DOk Go.Proofs.Try.prog tab D55 := d54.also mixed_ok tab_ok names_ok noLoops_ok laws_eqMapping_s
/-! laws_eqMappingS -/
abbrev laws_eqMappingS_4_σ := List (List TC) × List (List TC) × Int
abbrev laws_eqMappingS_4_ω := (Unit) ⊕ (Unit)
noncomputable def laws_eqMappingS_4_step (A : List (List TC)) (C : List (List TC)) (i : Int) : Tr (laws_eqMappingS_4_σ ⊕ laws_eqMappingS_4_ω) := (.ite ((decide (i < (A.length : Int))) = true) (.ite ((0 : Int) ≤ i ∧ i < (A.length : Int)) (.ite ((0 : Int) ≤ i ∧ i < (C.length : Int)) (.ite ((laws_eqMapping_c ((nth (row A i) 0).str) ((nth (row A i) 1).int) ((nth (row A i) 2).list) ((nth (row A i) 3).list) ((nth (row A i) 4).list) ((nth (row A i) 5).list) ((nth (row A i) 6).list) ((nth (row A i) 7).int) ((nth (row A i) 8).list) ((nth (row A i) 9).list) ((nth (row A i) 10).list) ((nth (row A i) 11).list) ((nth (row A i) 12).list) ((nth (row C i) 0).str) ((nth (row C i) 1).int) ((nth (row C i) 2).list) ((nth (row C i) 3).list) ((nth (row C i) 4).list) ((nth (row C i) 5).list) ((nth (row C i) 6).list) ((nth (row C i) 7).int) ((nth (row C i) 8).list) ((nth (row C i) 9).list) ((nth (row C i) 10).list) ((nth (row C i) 11).list) ((nth (row C i) 12).list)) = true) (.ite ((!(laws_eqMapping_v ((nth (row A i) 0).str) ((nth (row A i) 1).int) ((nth (row A i) 2).list) ((nth (row A i) 3).list) ((nth (row A i) 4).list) ((nth (row A i) 5).list) ((nth (row A i) 6).list) ((nth (row A i) 7).int) ((nth (row A i) 8).list) ((nth (row A i) 9).list) ((nth (row A i) 10).list) ((nth (row A i) 11).list) ((nth (row A i) 12).list) ((nth (row C i) 0).str) ((nth (row C i) 1).int) ((nth (row C i) 2).list) ((nth (row C i) 3).list) ((nth (row C i) 4).list) ((nth (row C i) 5).list) ((nth (row C i) 6).list) ((nth (row C i) 7).int) ((nth (row C i) 8).list) ((nth (row C i) 9).list) ((nth (row C i) 10).list) ((nth (row C i) 11).list) ((nth (row C i) 12).list))) = true) (.ok (.inr (.inl ())))
      (.ok (.inl (A, C, (IntKind.wrap .i64 (i + (1 : Int)))))))
     .no)
    .no)
   .no)
  (.ok (.inr (.inr ()))))
noncomputable def laws_eqMappingS_4_st : laws_eqMappingS_4_σ → Tr (laws_eqMappingS_4_σ ⊕ laws_eqMappingS_4_ω) := fun x => (laws_eqMappingS_4_step (x.1) (x.2.1) (x.2.2))
noncomputable def laws_eqMappingS_o4_1 (A : List (List TC)) (C : List (List TC)) (i : Int) : Bool := is (A = C ∧ Typed tab (.slice 128) (.l A) ∧ i = 0)
noncomputable def laws_eqMappingS_4_fin (A : List (List TC)) (C : List (List TC)) (i : Int) : Told laws_eqMappingS_4_ω := (.leaf (laws_eqMappingS_o4_1 A C i) (.inr ()))
def laws_eqMappingS_4_sl (x : laws_eqMappingS_4_σ) : List Slot := [⟨.val false [⟨.slice 128, .sh, TC.l (x.1)⟩], ⟨0, 0⟩⟩, ⟨.val false [⟨.slice 128, .sh, TC.l (x.2.1)⟩], ⟨0, 0⟩⟩, ⟨.val false [⟨.int .i64, .sh, TC.i (x.2.2)⟩], ⟨0, 0⟩⟩]
def laws_eqMappingS_4_out : laws_eqMappingS_4_ω → Ex × List Slot := (Sum.elim (fun x => (.ret, [⟨.val false [⟨.bool, .sh, TC.b false⟩], ⟨0, 0⟩⟩])) (fun x => (.exit 0, [Slot.none])))
noncomputable def laws_eqMappingS_lo4 : List Slot → Option (Told (Ex × List Slot)) := fun s => match s with
  | [⟨.val false [⟨.slice 128, .sh, TC.l A⟩], ⟨0, 0⟩⟩, ⟨.val false [⟨.slice 128, .sh, TC.l C⟩], ⟨0, 0⟩⟩, ⟨.val false [⟨.int .i64, .sh, TC.i i⟩], ⟨0, 0⟩⟩] => some (((laws_eqMappingS_4_fin A C i)).map laws_eqMappingS_4_out)
  | _ => .none
noncomputable def laws_eqMappingS_lo : LoopTeller := fun r s => bif Nat.beq r 4 then laws_eqMappingS_lo4 s else .none
theorem laws_eqMappingS_4_r (A : List (List TC)) (C : List (List TC)) (i : Int) (fuel : Nat) : rounds (rnd tab FT D55 live 86 laws_eqMappingS_lo 0 4) leave (fuel + 1) (laws_eqMappingS_4_sl (A, C, i)) = ((laws_eqMappingS_4_step A C i)).run (goOn (fun s => rounds (rnd tab FT D55 live 86 laws_eqMappingS_lo 0 4) leave fuel (laws_eqMappingS_4_sl s)) fun w => some (laws_eqMappingS_4_out w)) := by kernel_rfl
theorem laws_eqMappingS_4_h (A : List (List TC)) (C : List (List TC)) (i : Int) (ow : laws_eqMappingS_4_ω) : ((laws_eqMappingS_4_fin A C i)).val = some ow → ∃ fuel, loopN laws_eqMappingS_4_st fuel (A, C, i) = some ow := by
  intro h
  refine auto_leaf (R := Sum.inr ()) (fun ho => ?_) h
  obtain ⟨rfl, ht, rfl⟩ := is_iff.1 ho
  have hlen : A.length ≤ 140737488351232 := by have := typed_room ht; simp only [show (tab 128).bytes = 272 from rfl] at this; omega
  refine ⟨_, loopN_run (N := A.length) (fun i => (A, A, (i : Int))) (fun i hi => ?_) ?_ A.length 0 (by omega)⟩
  · have c0 : Typed tab (.str) (.s (nth (A.getD i []) 0).str) := typed_s (typed_cell ht (A.getD i []) (mem_getD hi) 0 (by decide))
    have c2 : Typed tab (.slice 2) (.l (nth (A.getD i []) 2).list) := typed_list (typed_cell ht (A.getD i []) (mem_getD hi) 2 (by decide))
    have c3 : Typed tab (.slice 2) (.l (nth (A.getD i []) 3).list) := typed_list (typed_cell ht (A.getD i []) (mem_getD hi) 3 (by decide))
    have c4 : Typed tab (.slice 2) (.l (nth (A.getD i []) 4).list) := typed_list (typed_cell ht (A.getD i []) (mem_getD hi) 4 (by decide))
    have c5 : Typed tab (.slice 2) (.l (nth (A.getD i []) 5).list) := typed_list (typed_cell ht (A.getD i []) (mem_getD hi) 5 (by decide))
    have c6 : Typed tab (.slice 193) (.l (nth (A.getD i []) 6).list) := typed_list (typed_cell ht (A.getD i []) (mem_getD hi) 6 (by decide))
    have c8 : Typed tab (.slice 2) (.l (nth (A.getD i []) 8).list) := typed_list (typed_cell ht (A.getD i []) (mem_getD hi) 8 (by decide))
    have c9 : Typed tab (.slice 2) (.l (nth (A.getD i []) 9).list) := typed_list (typed_cell ht (A.getD i []) (mem_getD hi) 9 (by decide))
    have c10 : Typed tab (.slice 2) (.l (nth (A.getD i []) 10).list) := typed_list (typed_cell ht (A.getD i []) (mem_getD hi) 10 (by decide))
    have c11 : Typed tab (.slice 2) (.l (nth (A.getD i []) 11).list) := typed_list (typed_cell ht (A.getD i []) (mem_getD hi) 11 (by decide))
    have c12 : Typed tab (.slice 193) (.l (nth (A.getD i []) 12).list) := typed_list (typed_cell ht (A.getD i []) (mem_getD hi) 12 (by decide))
    show (laws_eqMappingS_4_step A A (i : Int)).val = _
    unfold laws_eqMappingS_4_step
    refine Tr.t (by simp; omega) ?_
    refine Tr.t (by first | omega | (constructor <;> omega)) ?_
    refine Tr.t (by first | omega | (constructor <;> omega)) ?_
    refine Tr.t (by first | (apply is_true; and_intros <;> (first | rfl | assumption | (apply laws_szStringS_cc <;> assumption) | (apply laws_szMember_cc <;> assumption) | (apply laws_szMemberS_cc <;> assumption) | (apply laws_szTypeS_cc <;> assumption) | (apply laws_szPoint_cc <;> assumption) | (apply laws_szPointS_cc <;> assumption) | (apply laws_szSelection_cc <;> assumption) | (apply laws_szMapping_cc <;> assumption) | (apply laws_szMappingS_cc <;> assumption) | (apply laws_szVirtual_cc <;> assumption) | (apply spec_SameSelection_cc <;> assumption) | (first | (apply is_true; and_intros <;> (first | rfl | assumption | (apply laws_szStringS_cc <;> assumption) | (apply laws_szMember_cc <;> assumption) | (apply laws_szMemberS_cc <;> assumption) | (apply laws_szTypeS_cc <;> assumption) | (apply laws_szPoint_cc <;> assumption) | (apply laws_szPointS_cc <;> assumption) | (apply laws_szSelection_cc <;> assumption) | (apply laws_szMapping_cc <;> assumption) | (apply laws_szMappingS_cc <;> assumption) | (apply laws_szVirtual_cc <;> assumption) | (apply spec_SameSelection_cc <;> assumption) | (first | (apply is_true; and_intros <;> (first | rfl | assumption | (apply laws_szStringS_cc <;> assumption) | (apply laws_szMember_cc <;> assumption) | (apply laws_szMemberS_cc <;> assumption) | (apply laws_szTypeS_cc <;> assumption) | (apply laws_szPoint_cc <;> assumption) | (apply laws_szPointS_cc <;> assumption) | (apply laws_szSelection_cc <;> assumption) | (apply laws_szMapping_cc <;> assumption) | (apply laws_szMappingS_cc <;> assumption) | (apply laws_szVirtual_cc <;> assumption) | (apply spec_SameSelection_cc <;> assumption) | (first | (apply is_true; and_intros <;> (first | rfl | assumption | (apply laws_szStringS_cc <;> assumption) | (apply laws_szMember_cc <;> assumption) | (apply laws_szMemberS_cc <;> assumption) | (apply laws_szTypeS_cc <;> assumption) | (apply laws_szPoint_cc <;> assumption) | (apply laws_szPointS_cc <;> assumption) | (apply laws_szSelection_cc <;> assumption) | (apply laws_szMapping_cc <;> assumption) | (apply laws_szMappingS_cc <;> assumption) | (apply laws_szVirtual_cc <;> assumption) | (apply spec_SameSelection_cc <;> assumption))) | (apply laws_szStringS_cc <;> assumption) | (apply laws_szMember_cc <;> assumption) | (apply laws_szMemberS_cc <;> assumption) | (apply laws_szTypeS_cc <;> assumption) | (apply laws_szPoint_cc <;> assumption) | (apply laws_szPointS_cc <;> assumption) | (apply laws_szSelection_cc <;> assumption) | (apply laws_szMapping_cc <;> assumption) | (apply laws_szMappingS_cc <;> assumption) | (apply laws_szVirtual_cc <;> assumption) | (apply spec_SameSelection_cc <;> assumption)))) | (apply laws_szStringS_cc <;> assumption) | (apply laws_szMember_cc <;> assumption) | (apply laws_szMemberS_cc <;> assumption) | (apply laws_szTypeS_cc <;> assumption) | (apply laws_szPoint_cc <;> assumption) | (apply laws_szPointS_cc <;> assumption) | (apply laws_szSelection_cc <;> assumption) | (apply laws_szMapping_cc <;> assumption) | (apply laws_szMappingS_cc <;> assumption) | (apply laws_szVirtual_cc <;> assumption) | (apply spec_SameSelection_cc <;> assumption)))) | (apply laws_szStringS_cc <;> assumption) | (apply laws_szMember_cc <;> assumption) | (apply laws_szMemberS_cc <;> assumption) | (apply laws_szTypeS_cc <;> assumption) | (apply laws_szPoint_cc <;> assumption) | (apply laws_szPointS_cc <;> assumption) | (apply laws_szSelection_cc <;> assumption) | (apply laws_szMapping_cc <;> assumption) | (apply laws_szMappingS_cc <;> assumption) | (apply laws_szVirtual_cc <;> assumption) | (apply spec_SameSelection_cc <;> assumption)))) | (apply laws_szStringS_cc <;> assumption) | (apply laws_szMember_cc <;> assumption) | (apply laws_szMemberS_cc <;> assumption) | (apply laws_szTypeS_cc <;> assumption) | (apply laws_szPoint_cc <;> assumption) | (apply laws_szPointS_cc <;> assumption) | (apply laws_szSelection_cc <;> assumption) | (apply laws_szMapping_cc <;> assumption) | (apply laws_szMappingS_cc <;> assumption) | (apply laws_szVirtual_cc <;> assumption) | (apply spec_SameSelection_cc <;> assumption)) ?_
    refine Tr.n (by simp [impl_SameType_rv, laws_eqMapping_v, laws_eqType_rv, laws_szType_rv, laws_toType_rv, spec_SameType_rv]) ?_
    rw [Tr.val_ok, wrap64 (i := (i : Int) + 1) (by omega) (by omega)]; rfl
  · show (laws_eqMappingS_4_step A A (A.length : Int)).val = _
    refine Tr.n (by simp) ?_
    rfl
theorem laws_eqMappingS_is4 : LoopIs tab FT D55 live 86 laws_eqMappingS_lo 0 4 := by
  refine loop_told (sl := laws_eqMappingS_4_sl) (step := laws_eqMappingS_4_st) (out := laws_eqMappingS_4_out) (lor := laws_eqMappingS_lo4) (fin := fun x => (laws_eqMappingS_4_fin (x.1) (x.2.1) (x.2.2))) (fun _ => rfl) ?_ (fun x n => laws_eqMappingS_4_r x.1 x.2.1 x.2.2 n) (fun x ow => laws_eqMappingS_4_h x.1 x.2.1 x.2.2 ow)
  intro s t h
  unfold laws_eqMappingS_lo4 at h
  split at h
  · cases h; exact ⟨(_, _, _), rfl, rfl⟩
  · cases h
noncomputable def laws_eqMappingS_t (A : List (List TC)) (C : List (List TC)) : Tr (Bool) := (.ite ((!((A.length : Int) == (C.length : Int))) = true) (.ok false)
  (.ite ((laws_eqMappingS_o4_1 A C (0 : Int)) = true) (.ok true)
   .no))
def laws_eqMappingS_mk (p : Bool) : Res := [(false, [⟨.bool, .sh, TC.b p⟩])]
noncomputable def laws_eqMappingS_c (A : List (List TC)) (C : List (List TC)) : Bool := is (A = C ∧ Typed tab (.slice 128) (.l A))
noncomputable def laws_eqMappingS_v (A : List (List TC)) (C : List (List TC)) : Bool := true
theorem laws_eqMappingS_l (A : List (List TC)) (C : List (List TC)) : (laws_eqMappingS_c A C) = true → (laws_eqMappingS_t A C).val = some (laws_eqMappingS_v A C) := by
  intro h
  obtain ⟨rfl, ht⟩ := is_iff.1 h
  unfold laws_eqMappingS_t
  refine Tr.n (by simp) ?_
  refine Tr.t (is_true ⟨rfl, ht, rfl⟩) ?_
  rfl
noncomputable def laws_eqMappingS_S : List Arg → Option (Bool × Res) := fun xs => match xs with
  | [(false, [(.slice 128, TC.l A)]), (false, [(.slice 128, TC.l C)])] => some ((laws_eqMappingS_c A C), laws_eqMappingS_mk (laws_eqMappingS_v A C))
  | _ => .none
theorem laws_eqMappingS_e (A : List (List TC)) (C : List (List TC)) : runF tab FT D55 live 86 laws_eqMappingS_lo [(false, [(.slice 128, TC.l A)]), (false, [(.slice 128, TC.l C)])] = (laws_eqMappingS_t A C).run fun p => some (laws_eqMappingS_mk p) := by kernel_rfl
theorem laws_eqMappingS_s : ∀ xs r, laws_eqMappingS_S xs = some (true, r) → runF tab FT D55 live 86 laws_eqMappingS_lo xs = some r := by
  intro xs r h
  unfold laws_eqMappingS_S at h
  split at h
  · simp only [Option.some.injEq, Prod.mk.injEq] at h
    obtain ⟨h1, rfl⟩ := h
    exact fun_told (laws_eqMappingS_e _ _) (laws_eqMappingS_l _ _) h1
  · cases h
noncomputable def D56 : Dt := also D55 86 laws_eqMappingS_S
theorem d56 : DOk Go.Proofs.Try.prog tab D56 := d55.also mixed_ok tab_ok names_ok (fnLoops_one (by kernel_rfl) laws_eqMappingS_is4) laws_eqMappingS_s
/-! laws_eqVirtual -/
noncomputable def laws_eqVirtual_t (x0 : Int) (x1 : Int) (x2 : Bool) (x3 : Bool) (x4 : List (List TC)) (x5 : List (List TC)) (x6 : List (List TC)) (x7 : List (List TC)) (x8 : Int) (x9 : List (List TC)) (x10 : List UInt8) (x11 : List (List TC)) (y0 : Int) (y1 : Int) (y2 : Bool) (y3 : Bool) (y4 : List (List TC)) (y5 : List (List TC)) (y6 : List (List TC)) (y7 : List (List TC)) (y8 : Int) (y9 : List (List TC)) (y10 : List UInt8) (y11 : List (List TC)) : Tr (Bool) := (.ite ((laws_eqType_rc x0 x1 x2 x3 x4 x5 x6 x7 x8 y0 y1 y2 y3 y4 y5 y6 y7 y8) = true) (.ite ((!(laws_eqType_rv x0 x1 x2 x3 x4 x5 x6 x7 x8 y0 y1 y2 y3 y4 y5 y6 y7 y8)) = true) (.ok false)
   (.ite ((laws_eqInt64S_c x9 y9) = true) (.ite ((!(laws_eqInt64S_v x9 y9)) = true) (.ok false)
     (.ite ((!(x10 == y10)) = true) (.ok false)
      (.ite ((laws_eqMappingS_c x11 y11) = true) (.ite ((!(laws_eqMappingS_v x11 y11)) = true) (.ok false)
        (.ok true))
       .no)))
    .no))
  .no)
def laws_eqVirtual_mk (p : Bool) : Res := [(false, [⟨.bool, .sh, TC.b p⟩])]
noncomputable def laws_eqVirtual_c (x0 : Int) (x1 : Int) (x2 : Bool) (x3 : Bool) (x4 : List (List TC)) (x5 : List (List TC)) (x6 : List (List TC)) (x7 : List (List TC)) (x8 : Int) (x9 : List (List TC)) (x10 : List UInt8) (x11 : List (List TC)) (y0 : Int) (y1 : Int) (y2 : Bool) (y3 : Bool) (y4 : List (List TC)) (y5 : List (List TC)) (y6 : List (List TC)) (y7 : List (List TC)) (y8 : Int) (y9 : List (List TC)) (y10 : List UInt8) (y11 : List (List TC)) : Bool := ((laws_eqType_rc x0 x1 x2 x3 x4 x5 x6 x7 x8 y0 y1 y2 y3 y4 y5 y6 y7 y8) && (bif (!(laws_eqType_rv x0 x1 x2 x3 x4 x5 x6 x7 x8 y0 y1 y2 y3 y4 y5 y6 y7 y8)) then true else ((laws_eqInt64S_c x9 y9) && (bif (!(laws_eqInt64S_v x9 y9)) then true else (bif (!(x10 == y10)) then true else ((laws_eqMappingS_c x11 y11) && (bif (!(laws_eqMappingS_v x11 y11)) then true else true)))))))
noncomputable def laws_eqVirtual_v (x0 : Int) (x1 : Int) (x2 : Bool) (x3 : Bool) (x4 : List (List TC)) (x5 : List (List TC)) (x6 : List (List TC)) (x7 : List (List TC)) (x8 : Int) (x9 : List (List TC)) (x10 : List UInt8) (x11 : List (List TC)) (y0 : Int) (y1 : Int) (y2 : Bool) (y3 : Bool) (y4 : List (List TC)) (y5 : List (List TC)) (y6 : List (List TC)) (y7 : List (List TC)) (y8 : Int) (y9 : List (List TC)) (y10 : List UInt8) (y11 : List (List TC)) : Bool := (bif (!(laws_eqType_rv x0 x1 x2 x3 x4 x5 x6 x7 x8 y0 y1 y2 y3 y4 y5 y6 y7 y8)) then false else (bif (!(laws_eqInt64S_v x9 y9)) then false else (bif (!(x10 == y10)) then false else (bif (!(laws_eqMappingS_v x11 y11)) then false else true))))
theorem laws_eqVirtual_l (x0 : Int) (x1 : Int) (x2 : Bool) (x3 : Bool) (x4 : List (List TC)) (x5 : List (List TC)) (x6 : List (List TC)) (x7 : List (List TC)) (x8 : Int) (x9 : List (List TC)) (x10 : List UInt8) (x11 : List (List TC)) (y0 : Int) (y1 : Int) (y2 : Bool) (y3 : Bool) (y4 : List (List TC)) (y5 : List (List TC)) (y6 : List (List TC)) (y7 : List (List TC)) (y8 : Int) (y9 : List (List TC)) (y10 : List UInt8) (y11 : List (List TC)) : (laws_eqVirtual_c x0 x1 x2 x3 x4 x5 x6 x7 x8 x9 x10 x11 y0 y1 y2 y3 y4 y5 y6 y7 y8 y9 y10 y11) = true → (laws_eqVirtual_t x0 x1 x2 x3 x4 x5 x6 x7 x8 x9 x10 x11 y0 y1 y2 y3 y4 y5 y6 y7 y8 y9 y10 y11).val = some (laws_eqVirtual_v x0 x1 x2 x3 x4 x5 x6 x7 x8 x9 x10 x11 y0 y1 y2 y3 y4 y5 y6 y7 y8 y9 y10 y11) := by
  unfold laws_eqVirtual_t laws_eqVirtual_v laws_eqVirtual_c
  exact fun h => (Tr.gb h fun h => (Tr.ss h (fun h => rfl) (fun h => (Tr.gb h fun h => (Tr.ss h (fun h => rfl) (fun h => (Tr.ss h (fun h => rfl) (fun h => (Tr.gb h fun h => (Tr.ss h (fun h => rfl) (fun h => rfl)))))))))))
noncomputable def laws_eqVirtual_S : List Arg → Option (Bool × Res) := fun xs => match xs with
  | [(true, [(.int .i64, TC.i x0), (.int .i64, TC.i x1), (.bool, TC.b x2), (.bool, TC.b x3), (.slice 9, TC.l x4), (.slice 2, TC.l x5), (.slice 147, TC.l x6), (.slice 55, TC.l x7), (.int .i64, TC.i x8), (.slice 2, TC.l x9), (.str, TC.s x10), (.slice 128, TC.l x11)]), (true, [(.int .i64, TC.i y0), (.int .i64, TC.i y1), (.bool, TC.b y2), (.bool, TC.b y3), (.slice 9, TC.l y4), (.slice 2, TC.l y5), (.slice 147, TC.l y6), (.slice 55, TC.l y7), (.int .i64, TC.i y8), (.slice 2, TC.l y9), (.str, TC.s y10), (.slice 128, TC.l y11)])] => some ((laws_eqVirtual_c x0 x1 x2 x3 x4 x5 x6 x7 x8 x9 x10 x11 y0 y1 y2 y3 y4 y5 y6 y7 y8 y9 y10 y11), laws_eqVirtual_mk (laws_eqVirtual_v x0 x1 x2 x3 x4 x5 x6 x7 x8 x9 x10 x11 y0 y1 y2 y3 y4 y5 y6 y7 y8 y9 y10 y11))
  | _ => .none
theorem laws_eqVirtual_e (x0 : Int) (x1 : Int) (x2 : Bool) (x3 : Bool) (x4 : List (List TC)) (x5 : List (List TC)) (x6 : List (List TC)) (x7 : List (List TC)) (x8 : Int) (x9 : List (List TC)) (x10 : List UInt8) (x11 : List (List TC)) (y0 : Int) (y1 : Int) (y2 : Bool) (y3 : Bool) (y4 : List (List TC)) (y5 : List (List TC)) (y6 : List (List TC)) (y7 : List (List TC)) (y8 : Int) (y9 : List (List TC)) (y10 : List UInt8) (y11 : List (List TC)) : runF tab FT D56 live 36 noLoops [(true, [(.int .i64, TC.i x0), (.int .i64, TC.i x1), (.bool, TC.b x2), (.bool, TC.b x3), (.slice 9, TC.l x4), (.slice 2, TC.l x5), (.slice 147, TC.l x6), (.slice 55, TC.l x7), (.int .i64, TC.i x8), (.slice 2, TC.l x9), (.str, TC.s x10), (.slice 128, TC.l x11)]), (true, [(.int .i64, TC.i y0), (.int .i64, TC.i y1), (.bool, TC.b y2), (.bool, TC.b y3), (.slice 9, TC.l y4), (.slice 2, TC.l y5), (.slice 147, TC.l y6), (.slice 55, TC.l y7), (.int .i64, TC.i y8), (.slice 2, TC.l y9), (.str, TC.s y10), (.slice 128, TC.l y11)])] = (laws_eqVirtual_t x0 x1 x2 x3 x4 x5 x6 x7 x8 x9 x10 x11 y0 y1 y2 y3 y4 y5 y6 y7 y8 y9 y10 y11).run fun p => some (laws_eqVirtual_mk p) := by kernel_rfl
theorem laws_eqVirtual_s : ∀ xs r, laws_eqVirtual_S xs = some (true, r) → runF tab FT D56 live 36 noLoops xs = some r := by
  intro xs r h
  unfold laws_eqVirtual_S at h
  split at h
  · simp only [Option.some.injEq, Prod.mk.injEq] at h
    obtain ⟨h1, rfl⟩ := h
    exact fun_told (laws_eqVirtual_e _ _ _ _ _ _ _ _ _ _ _ _ _ _ _ _ _ _ _ _ _ _ _ _) (laws_eqVirtual_l _ _ _ _ _ _ _ _ _ _ _ _ _ _ _ _ _ _ _ _ _ _ _ _) h1
  · cases h
noncomputable def D57 : Dt := also D56 36 laws_eqVirtual_S
theorem d57 : DOk Go.Proofs.Try.prog tab D57 := d56.also mixed_ok tab_ok names_ok noLoops_ok laws_eqVirtual_s
theorem laws_eqVirtual_cc {x0 : Int} {x1 : Int} {x2 : Bool} {x3 : Bool} {x4 : List (List TC)} {x5 : List (List TC)} {x6 : List (List TC)} {x7 : List (List TC)} {x8 : Int} {x9 : List (List TC)} {x10 : List UInt8} {x11 : List (List TC)} (h0 : (laws_eqType_rc x0 x1 x2 x3 x4 x5 x6 x7 x8 x0 x1 x2 x3 x4 x5 x6 x7 x8) = true) (h1 : (laws_eqInt64S_c x9 x9) = true) (h2 : (laws_eqMappingS_c x11 x11) = true) : (laws_eqVirtual_c x0 x1 x2 x3 x4 x5 x6 x7 x8 x9 x10 x11 x0 x1 x2 x3 x4 x5 x6 x7 x8 x9 x10 x11) = true := by
  unfold laws_eqVirtual_c
  simp [h0, h1, h2, laws_szType_rv, laws_toType_rv, spec_SameType_rv, impl_SameType_rv, laws_eqType_rv]
/-! the law -/
noncomputable def laws_FnExactSameVirtual_t (x0 : Int) (x1 : Int) (x2 : Bool) (x3 : Bool) (x4 : List (List TC)) (x5 : List (List TC)) (x6 : List (List TC)) (x7 : List (List TC)) (x8 : Int) (x9 : List (List TC)) (x10 : List UInt8) (x11 : List (List TC)) (x12 : Int) (x13 : Int) (x14 : Bool) (x15 : Bool) (x16 : List (List TC)) (x17 : List (List TC)) (x18 : List (List TC)) (x19 : List (List TC)) (x20 : Int) (x21 : List (List TC)) (x22 : List UInt8) (x23 : List (List TC)) : Tr Bool := (.ite ((laws_szVirtual_c x0 x1 x2 x3 x4 x5 x6 x7 x8 x9 x10 x11 (1048576 : Int)) = true) (.ite ((decide ((laws_szVirtual_v x0 x1 x2 x3 x4 x5 x6 x7 x8 x9 x10 x11 (1048576 : Int)) < (0 : Int))) = true) (.ok true)
   (.ite ((laws_szVirtual_c x12 x13 x14 x15 x16 x17 x18 x19 x20 x21 x22 x23 (laws_szVirtual_v x0 x1 x2 x3 x4 x5 x6 x7 x8 x9 x10 x11 (1048576 : Int))) = true) (.ite ((decide ((laws_szVirtual_v x12 x13 x14 x15 x16 x17 x18 x19 x20 x21 x22 x23 (laws_szVirtual_v x0 x1 x2 x3 x4 x5 x6 x7 x8 x9 x10 x11 (1048576 : Int))) < (0 : Int))) = true) (.ok true)
     (.ite ((laws_toVirtual_c x0 x1 x2 x3 x4 x5 x6 x7 x8 x9 x10 x11) = true) (.ite ((laws_toVirtual_c x12 x13 x14 x15 x16 x17 x18 x19 x20 x21 x22 x23) = true) (.ite ((spec_SameVirtual_c ((laws_toVirtual_v x0 x1 x2 x3 x4 x5 x6 x7 x8 x9 x10 x11).1) ((laws_toVirtual_v x0 x1 x2 x3 x4 x5 x6 x7 x8 x9 x10 x11).2.1) ((laws_toVirtual_v x0 x1 x2 x3 x4 x5 x6 x7 x8 x9 x10 x11).2.2.1) ((laws_toVirtual_v x0 x1 x2 x3 x4 x5 x6 x7 x8 x9 x10 x11).2.2.2.1) ((laws_toVirtual_v x0 x1 x2 x3 x4 x5 x6 x7 x8 x9 x10 x11).2.2.2.2.1) ((laws_toVirtual_v x0 x1 x2 x3 x4 x5 x6 x7 x8 x9 x10 x11).2.2.2.2.2.1) ((laws_toVirtual_v x0 x1 x2 x3 x4 x5 x6 x7 x8 x9 x10 x11).2.2.2.2.2.2.1) ((laws_toVirtual_v x0 x1 x2 x3 x4 x5 x6 x7 x8 x9 x10 x11).2.2.2.2.2.2.2.1) ((laws_toVirtual_v x0 x1 x2 x3 x4 x5 x6 x7 x8 x9 x10 x11).2.2.2.2.2.2.2.2.1) ((laws_toVirtual_v x0 x1 x2 x3 x4 x5 x6 x7 x8 x9 x10 x11).2.2.2.2.2.2.2.2.2.1) ((laws_toVirtual_v x0 x1 x2 x3 x4 x5 x6 x7 x8 x9 x10 x11).2.2.2.2.2.2.2.2.2.2.1) ((laws_toVirtual_v x0 x1 x2 x3 x4 x5 x6 x7 x8 x9 x10 x11).2.2.2.2.2.2.2.2.2.2.2) ((laws_toVirtual_v x12 x13 x14 x15 x16 x17 x18 x19 x20 x21 x22 x23).1) ((laws_toVirtual_v x12 x13 x14 x15 x16 x17 x18 x19 x20 x21 x22 x23).2.1) ((laws_toVirtual_v x12 x13 x14 x15 x16 x17 x18 x19 x20 x21 x22 x23).2.2.1) ((laws_toVirtual_v x12 x13 x14 x15 x16 x17 x18 x19 x20 x21 x22 x23).2.2.2.1) ((laws_toVirtual_v x12 x13 x14 x15 x16 x17 x18 x19 x20 x21 x22 x23).2.2.2.2.1) ((laws_toVirtual_v x12 x13 x14 x15 x16 x17 x18 x19 x20 x21 x22 x23).2.2.2.2.2.1) ((laws_toVirtual_v x12 x13 x14 x15 x16 x17 x18 x19 x20 x21 x22 x23).2.2.2.2.2.2.1) ((laws_toVirtual_v x12 x13 x14 x15 x16 x17 x18 x19 x20 x21 x22 x23).2.2.2.2.2.2.2.1) ((laws_toVirtual_v x12 x13 x14 x15 x16 x17 x18 x19 x20 x21 x22 x23).2.2.2.2.2.2.2.2.1) ((laws_toVirtual_v x12 x13 x14 x15 x16 x17 x18 x19 x20 x21 x22 x23).2.2.2.2.2.2.2.2.2.1) ((laws_toVirtual_v x12 x13 x14 x15 x16 x17 x18 x19 x20 x21 x22 x23).2.2.2.2.2.2.2.2.2.2.1) ((laws_toVirtual_v x12 x13 x14 x15 x16 x17 x18 x19 x20 x21 x22 x23).2.2.2.2.2.2.2.2.2.2.2)) = true) (.ite ((laws_toVirtual_c x0 x1 x2 x3 x4 x5 x6 x7 x8 x9 x10 x11) = true) (.ite ((laws_toVirtual_c x12 x13 x14 x15 x16 x17 x18 x19 x20 x21 x22 x23) = true) (.ite ((impl_SameVirtual_c ((laws_toVirtual_v x0 x1 x2 x3 x4 x5 x6 x7 x8 x9 x10 x11).1) ((laws_toVirtual_v x0 x1 x2 x3 x4 x5 x6 x7 x8 x9 x10 x11).2.1) ((laws_toVirtual_v x0 x1 x2 x3 x4 x5 x6 x7 x8 x9 x10 x11).2.2.1) ((laws_toVirtual_v x0 x1 x2 x3 x4 x5 x6 x7 x8 x9 x10 x11).2.2.2.1) ((laws_toVirtual_v x0 x1 x2 x3 x4 x5 x6 x7 x8 x9 x10 x11).2.2.2.2.1) ((laws_toVirtual_v x0 x1 x2 x3 x4 x5 x6 x7 x8 x9 x10 x11).2.2.2.2.2.1) ((laws_toVirtual_v x0 x1 x2 x3 x4 x5 x6 x7 x8 x9 x10 x11).2.2.2.2.2.2.1) ((laws_toVirtual_v x0 x1 x2 x3 x4 x5 x6 x7 x8 x9 x10 x11).2.2.2.2.2.2.2.1) ((laws_toVirtual_v x0 x1 x2 x3 x4 x5 x6 x7 x8 x9 x10 x11).2.2.2.2.2.2.2.2.1) ((laws_toVirtual_v x0 x1 x2 x3 x4 x5 x6 x7 x8 x9 x10 x11).2.2.2.2.2.2.2.2.2.1) ((laws_toVirtual_v x0 x1 x2 x3 x4 x5 x6 x7 x8 x9 x10 x11).2.2.2.2.2.2.2.2.2.2.1) ((laws_toVirtual_v x0 x1 x2 x3 x4 x5 x6 x7 x8 x9 x10 x11).2.2.2.2.2.2.2.2.2.2.2) ((laws_toVirtual_v x12 x13 x14 x15 x16 x17 x18 x19 x20 x21 x22 x23).1) ((laws_toVirtual_v x12 x13 x14 x15 x16 x17 x18 x19 x20 x21 x22 x23).2.1) ((laws_toVirtual_v x12 x13 x14 x15 x16 x17 x18 x19 x20 x21 x22 x23).2.2.1) ((laws_toVirtual_v x12 x13 x14 x15 x16 x17 x18 x19 x20 x21 x22 x23).2.2.2.1) ((laws_toVirtual_v x12 x13 x14 x15 x16 x17 x18 x19 x20 x21 x22 x23).2.2.2.2.1) ((laws_toVirtual_v x12 x13 x14 x15 x16 x17 x18 x19 x20 x21 x22 x23).2.2.2.2.2.1) ((laws_toVirtual_v x12 x13 x14 x15 x16 x17 x18 x19 x20 x21 x22 x23).2.2.2.2.2.2.1) ((laws_toVirtual_v x12 x13 x14 x15 x16 x17 x18 x19 x20 x21 x22 x23).2.2.2.2.2.2.2.1) ((laws_toVirtual_v x12 x13 x14 x15 x16 x17 x18 x19 x20 x21 x22 x23).2.2.2.2.2.2.2.2.1) ((laws_toVirtual_v x12 x13 x14 x15 x16 x17 x18 x19 x20 x21 x22 x23).2.2.2.2.2.2.2.2.2.1) ((laws_toVirtual_v x12 x13 x14 x15 x16 x17 x18 x19 x20 x21 x22 x23).2.2.2.2.2.2.2.2.2.2.1) ((laws_toVirtual_v x12 x13 x14 x15 x16 x17 x18 x19 x20 x21 x22 x23).2.2.2.2.2.2.2.2.2.2.2)) = true) (.ite ((!((impl_SameVirtual_v ((laws_toVirtual_v x0 x1 x2 x3 x4 x5 x6 x7 x8 x9 x10 x11).1) ((laws_toVirtual_v x0 x1 x2 x3 x4 x5 x6 x7 x8 x9 x10 x11).2.1) ((laws_toVirtual_v x0 x1 x2 x3 x4 x5 x6 x7 x8 x9 x10 x11).2.2.1) ((laws_toVirtual_v x0 x1 x2 x3 x4 x5 x6 x7 x8 x9 x10 x11).2.2.2.1) ((laws_toVirtual_v x0 x1 x2 x3 x4 x5 x6 x7 x8 x9 x10 x11).2.2.2.2.1) ((laws_toVirtual_v x0 x1 x2 x3 x4 x5 x6 x7 x8 x9 x10 x11).2.2.2.2.2.1) ((laws_toVirtual_v x0 x1 x2 x3 x4 x5 x6 x7 x8 x9 x10 x11).2.2.2.2.2.2.1) ((laws_toVirtual_v x0 x1 x2 x3 x4 x5 x6 x7 x8 x9 x10 x11).2.2.2.2.2.2.2.1) ((laws_toVirtual_v x0 x1 x2 x3 x4 x5 x6 x7 x8 x9 x10 x11).2.2.2.2.2.2.2.2.1) ((laws_toVirtual_v x0 x1 x2 x3 x4 x5 x6 x7 x8 x9 x10 x11).2.2.2.2.2.2.2.2.2.1) ((laws_toVirtual_v x0 x1 x2 x3 x4 x5 x6 x7 x8 x9 x10 x11).2.2.2.2.2.2.2.2.2.2.1) ((laws_toVirtual_v x0 x1 x2 x3 x4 x5 x6 x7 x8 x9 x10 x11).2.2.2.2.2.2.2.2.2.2.2) ((laws_toVirtual_v x12 x13 x14 x15 x16 x17 x18 x19 x20 x21 x22 x23).1) ((laws_toVirtual_v x12 x13 x14 x15 x16 x17 x18 x19 x20 x21 x22 x23).2.1) ((laws_toVirtual_v x12 x13 x14 x15 x16 x17 x18 x19 x20 x21 x22 x23).2.2.1) ((laws_toVirtual_v x12 x13 x14 x15 x16 x17 x18 x19 x20 x21 x22 x23).2.2.2.1) ((laws_toVirtual_v x12 x13 x14 x15 x16 x17 x18 x19 x20 x21 x22 x23).2.2.2.2.1) ((laws_toVirtual_v x12 x13 x14 x15 x16 x17 x18 x19 x20 x21 x22 x23).2.2.2.2.2.1) ((laws_toVirtual_v x12 x13 x14 x15 x16 x17 x18 x19 x20 x21 x22 x23).2.2.2.2.2.2.1) ((laws_toVirtual_v x12 x13 x14 x15 x16 x17 x18 x19 x20 x21 x22 x23).2.2.2.2.2.2.2.1) ((laws_toVirtual_v x12 x13 x14 x15 x16 x17 x18 x19 x20 x21 x22 x23).2.2.2.2.2.2.2.2.1) ((laws_toVirtual_v x12 x13 x14 x15 x16 x17 x18 x19 x20 x21 x22 x23).2.2.2.2.2.2.2.2.2.1) ((laws_toVirtual_v x12 x13 x14 x15 x16 x17 x18 x19 x20 x21 x22 x23).2.2.2.2.2.2.2.2.2.2.1) ((laws_toVirtual_v x12 x13 x14 x15 x16 x17 x18 x19 x20 x21 x22 x23).2.2.2.2.2.2.2.2.2.2.2)) == (spec_SameVirtual_v ((laws_toVirtual_v x0 x1 x2 x3 x4 x5 x6 x7 x8 x9 x10 x11).1) ((laws_toVirtual_v x0 x1 x2 x3 x4 x5 x6 x7 x8 x9 x10 x11).2.1) ((laws_toVirtual_v x0 x1 x2 x3 x4 x5 x6 x7 x8 x9 x10 x11).2.2.1) ((laws_toVirtual_v x0 x1 x2 x3 x4 x5 x6 x7 x8 x9 x10 x11).2.2.2.1) ((laws_toVirtual_v x0 x1 x2 x3 x4 x5 x6 x7 x8 x9 x10 x11).2.2.2.2.1) ((laws_toVirtual_v x0 x1 x2 x3 x4 x5 x6 x7 x8 x9 x10 x11).2.2.2.2.2.1) ((laws_toVirtual_v x0 x1 x2 x3 x4 x5 x6 x7 x8 x9 x10 x11).2.2.2.2.2.2.1) ((laws_toVirtual_v x0 x1 x2 x3 x4 x5 x6 x7 x8 x9 x10 x11).2.2.2.2.2.2.2.1) ((laws_toVirtual_v x0 x1 x2 x3 x4 x5 x6 x7 x8 x9 x10 x11).2.2.2.2.2.2.2.2.1) ((laws_toVirtual_v x0 x1 x2 x3 x4 x5 x6 x7 x8 x9 x10 x11).2.2.2.2.2.2.2.2.2.1) ((laws_toVirtual_v x0 x1 x2 x3 x4 x5 x6 x7 x8 x9 x10 x11).2.2.2.2.2.2.2.2.2.2.1) ((laws_toVirtual_v x0 x1 x2 x3 x4 x5 x6 x7 x8 x9 x10 x11).2.2.2.2.2.2.2.2.2.2.2) ((laws_toVirtual_v x12 x13 x14 x15 x16 x17 x18 x19 x20 x21 x22 x23).1) ((laws_toVirtual_v x12 x13 x14 x15 x16 x17 x18 x19 x20 x21 x22 x23).2.1) ((laws_toVirtual_v x12 x13 x14 x15 x16 x17 x18 x19 x20 x21 x22 x23).2.2.1) ((laws_toVirtual_v x12 x13 x14 x15 x16 x17 x18 x19 x20 x21 x22 x23).2.2.2.1) ((laws_toVirtual_v x12 x13 x14 x15 x16 x17 x18 x19 x20 x21 x22 x23).2.2.2.2.1) ((laws_toVirtual_v x12 x13 x14 x15 x16 x17 x18 x19 x20 x21 x22 x23).2.2.2.2.2.1) ((laws_toVirtual_v x12 x13 x14 x15 x16 x17 x18 x19 x20 x21 x22 x23).2.2.2.2.2.2.1) ((laws_toVirtual_v x12 x13 x14 x15 x16 x17 x18 x19 x20 x21 x22 x23).2.2.2.2.2.2.2.1) ((laws_toVirtual_v x12 x13 x14 x15 x16 x17 x18 x19 x20 x21 x22 x23).2.2.2.2.2.2.2.2.1) ((laws_toVirtual_v x12 x13 x14 x15 x16 x17 x18 x19 x20 x21 x22 x23).2.2.2.2.2.2.2.2.2.1) ((laws_toVirtual_v x12 x13 x14 x15 x16 x17 x18 x19 x20 x21 x22 x23).2.2.2.2.2.2.2.2.2.2.1) ((laws_toVirtual_v x12 x13 x14 x15 x16 x17 x18 x19 x20 x21 x22 x23).2.2.2.2.2.2.2.2.2.2.2)))) = true) (.ok false)
            (.ite ((laws_toVirtual_c x0 x1 x2 x3 x4 x5 x6 x7 x8 x9 x10 x11) = true) (.ite ((laws_eqVirtual_c ((laws_toVirtual_v x0 x1 x2 x3 x4 x5 x6 x7 x8 x9 x10 x11).1) ((laws_toVirtual_v x0 x1 x2 x3 x4 x5 x6 x7 x8 x9 x10 x11).2.1) ((laws_toVirtual_v x0 x1 x2 x3 x4 x5 x6 x7 x8 x9 x10 x11).2.2.1) ((laws_toVirtual_v x0 x1 x2 x3 x4 x5 x6 x7 x8 x9 x10 x11).2.2.2.1) ((laws_toVirtual_v x0 x1 x2 x3 x4 x5 x6 x7 x8 x9 x10 x11).2.2.2.2.1) ((laws_toVirtual_v x0 x1 x2 x3 x4 x5 x6 x7 x8 x9 x10 x11).2.2.2.2.2.1) ((laws_toVirtual_v x0 x1 x2 x3 x4 x5 x6 x7 x8 x9 x10 x11).2.2.2.2.2.2.1) ((laws_toVirtual_v x0 x1 x2 x3 x4 x5 x6 x7 x8 x9 x10 x11).2.2.2.2.2.2.2.1) ((laws_toVirtual_v x0 x1 x2 x3 x4 x5 x6 x7 x8 x9 x10 x11).2.2.2.2.2.2.2.2.1) ((laws_toVirtual_v x0 x1 x2 x3 x4 x5 x6 x7 x8 x9 x10 x11).2.2.2.2.2.2.2.2.2.1) ((laws_toVirtual_v x0 x1 x2 x3 x4 x5 x6 x7 x8 x9 x10 x11).2.2.2.2.2.2.2.2.2.2.1) ((laws_toVirtual_v x0 x1 x2 x3 x4 x5 x6 x7 x8 x9 x10 x11).2.2.2.2.2.2.2.2.2.2.2) ((laws_toVirtual_v x0 x1 x2 x3 x4 x5 x6 x7 x8 x9 x10 x11).1) ((laws_toVirtual_v x0 x1 x2 x3 x4 x5 x6 x7 x8 x9 x10 x11).2.1) ((laws_toVirtual_v x0 x1 x2 x3 x4 x5 x6 x7 x8 x9 x10 x11).2.2.1) ((laws_toVirtual_v x0 x1 x2 x3 x4 x5 x6 x7 x8 x9 x10 x11).2.2.2.1) ((laws_toVirtual_v x0 x1 x2 x3 x4 x5 x6 x7 x8 x9 x10 x11).2.2.2.2.1) ((laws_toVirtual_v x0 x1 x2 x3 x4 x5 x6 x7 x8 x9 x10 x11).2.2.2.2.2.1) ((laws_toVirtual_v x0 x1 x2 x3 x4 x5 x6 x7 x8 x9 x10 x11).2.2.2.2.2.2.1) ((laws_toVirtual_v x0 x1 x2 x3 x4 x5 x6 x7 x8 x9 x10 x11).2.2.2.2.2.2.2.1) ((laws_toVirtual_v x0 x1 x2 x3 x4 x5 x6 x7 x8 x9 x10 x11).2.2.2.2.2.2.2.2.1) ((laws_toVirtual_v x0 x1 x2 x3 x4 x5 x6 x7 x8 x9 x10 x11).2.2.2.2.2.2.2.2.2.1) ((laws_toVirtual_v x0 x1 x2 x3 x4 x5 x6 x7 x8 x9 x10 x11).2.2.2.2.2.2.2.2.2.2.1) ((laws_toVirtual_v x0 x1 x2 x3 x4 x5 x6 x7 x8 x9 x10 x11).2.2.2.2.2.2.2.2.2.2.2)) = true) (.ite ((!(laws_eqVirtual_v ((laws_toVirtual_v x0 x1 x2 x3 x4 x5 x6 x7 x8 x9 x10 x11).1) ((laws_toVirtual_v x0 x1 x2 x3 x4 x5 x6 x7 x8 x9 x10 x11).2.1) ((laws_toVirtual_v x0 x1 x2 x3 x4 x5 x6 x7 x8 x9 x10 x11).2.2.1) ((laws_toVirtual_v x0 x1 x2 x3 x4 x5 x6 x7 x8 x9 x10 x11).2.2.2.1) ((laws_toVirtual_v x0 x1 x2 x3 x4 x5 x6 x7 x8 x9 x10 x11).2.2.2.2.1) ((laws_toVirtual_v x0 x1 x2 x3 x4 x5 x6 x7 x8 x9 x10 x11).2.2.2.2.2.1) ((laws_toVirtual_v x0 x1 x2 x3 x4 x5 x6 x7 x8 x9 x10 x11).2.2.2.2.2.2.1) ((laws_toVirtual_v x0 x1 x2 x3 x4 x5 x6 x7 x8 x9 x10 x11).2.2.2.2.2.2.2.1) ((laws_toVirtual_v x0 x1 x2 x3 x4 x5 x6 x7 x8 x9 x10 x11).2.2.2.2.2.2.2.2.1) ((laws_toVirtual_v x0 x1 x2 x3 x4 x5 x6 x7 x8 x9 x10 x11).2.2.2.2.2.2.2.2.2.1) ((laws_toVirtual_v x0 x1 x2 x3 x4 x5 x6 x7 x8 x9 x10 x11).2.2.2.2.2.2.2.2.2.2.1) ((laws_toVirtual_v x0 x1 x2 x3 x4 x5 x6 x7 x8 x9 x10 x11).2.2.2.2.2.2.2.2.2.2.2) ((laws_toVirtual_v x0 x1 x2 x3 x4 x5 x6 x7 x8 x9 x10 x11).1) ((laws_toVirtual_v x0 x1 x2 x3 x4 x5 x6 x7 x8 x9 x10 x11).2.1) ((laws_toVirtual_v x0 x1 x2 x3 x4 x5 x6 x7 x8 x9 x10 x11).2.2.1) ((laws_toVirtual_v x0 x1 x2 x3 x4 x5 x6 x7 x8 x9 x10 x11).2.2.2.1) ((laws_toVirtual_v x0 x1 x2 x3 x4 x5 x6 x7 x8 x9 x10 x11).2.2.2.2.1) ((laws_toVirtual_v x0 x1 x2 x3 x4 x5 x6 x7 x8 x9 x10 x11).2.2.2.2.2.1) ((laws_toVirtual_v x0 x1 x2 x3 x4 x5 x6 x7 x8 x9 x10 x11).2.2.2.2.2.2.1) ((laws_toVirtual_v x0 x1 x2 x3 x4 x5 x6 x7 x8 x9 x10 x11).2.2.2.2.2.2.2.1) ((laws_toVirtual_v x0 x1 x2 x3 x4 x5 x6 x7 x8 x9 x10 x11).2.2.2.2.2.2.2.2.1) ((laws_toVirtual_v x0 x1 x2 x3 x4 x5 x6 x7 x8 x9 x10 x11).2.2.2.2.2.2.2.2.2.1) ((laws_toVirtual_v x0 x1 x2 x3 x4 x5 x6 x7 x8 x9 x10 x11).2.2.2.2.2.2.2.2.2.2.1) ((laws_toVirtual_v x0 x1 x2 x3 x4 x5 x6 x7 x8 x9 x10 x11).2.2.2.2.2.2.2.2.2.2.2))) = true) (.ok false)
               (.ite ((laws_toVirtual_c x12 x13 x14 x15 x16 x17 x18 x19 x20 x21 x22 x23) = true) (.ite ((laws_eqVirtual_c ((laws_toVirtual_v x12 x13 x14 x15 x16 x17 x18 x19 x20 x21 x22 x23).1) ((laws_toVirtual_v x12 x13 x14 x15 x16 x17 x18 x19 x20 x21 x22 x23).2.1) ((laws_toVirtual_v x12 x13 x14 x15 x16 x17 x18 x19 x20 x21 x22 x23).2.2.1) ((laws_toVirtual_v x12 x13 x14 x15 x16 x17 x18 x19 x20 x21 x22 x23).2.2.2.1) ((laws_toVirtual_v x12 x13 x14 x15 x16 x17 x18 x19 x20 x21 x22 x23).2.2.2.2.1) ((laws_toVirtual_v x12 x13 x14 x15 x16 x17 x18 x19 x20 x21 x22 x23).2.2.2.2.2.1) ((laws_toVirtual_v x12 x13 x14 x15 x16 x17 x18 x19 x20 x21 x22 x23).2.2.2.2.2.2.1) ((laws_toVirtual_v x12 x13 x14 x15 x16 x17 x18 x19 x20 x21 x22 x23).2.2.2.2.2.2.2.1) ((laws_toVirtual_v x12 x13 x14 x15 x16 x17 x18 x19 x20 x21 x22 x23).2.2.2.2.2.2.2.2.1) ((laws_toVirtual_v x12 x13 x14 x15 x16 x17 x18 x19 x20 x21 x22 x23).2.2.2.2.2.2.2.2.2.1) ((laws_toVirtual_v x12 x13 x14 x15 x16 x17 x18 x19 x20 x21 x22 x23).2.2.2.2.2.2.2.2.2.2.1) ((laws_toVirtual_v x12 x13 x14 x15 x16 x17 x18 x19 x20 x21 x22 x23).2.2.2.2.2.2.2.2.2.2.2) ((laws_toVirtual_v x12 x13 x14 x15 x16 x17 x18 x19 x20 x21 x22 x23).1) ((laws_toVirtual_v x12 x13 x14 x15 x16 x17 x18 x19 x20 x21 x22 x23).2.1) ((laws_toVirtual_v x12 x13 x14 x15 x16 x17 x18 x19 x20 x21 x22 x23).2.2.1) ((laws_toVirtual_v x12 x13 x14 x15 x16 x17 x18 x19 x20 x21 x22 x23).2.2.2.1) ((laws_toVirtual_v x12 x13 x14 x15 x16 x17 x18 x19 x20 x21 x22 x23).2.2.2.2.1) ((laws_toVirtual_v x12 x13 x14 x15 x16 x17 x18 x19 x20 x21 x22 x23).2.2.2.2.2.1) ((laws_toVirtual_v x12 x13 x14 x15 x16 x17 x18 x19 x20 x21 x22 x23).2.2.2.2.2.2.1) ((laws_toVirtual_v x12 x13 x14 x15 x16 x17 x18 x19 x20 x21 x22 x23).2.2.2.2.2.2.2.1) ((laws_toVirtual_v x12 x13 x14 x15 x16 x17 x18 x19 x20 x21 x22 x23).2.2.2.2.2.2.2.2.1) ((laws_toVirtual_v x12 x13 x14 x15 x16 x17 x18 x19 x20 x21 x22 x23).2.2.2.2.2.2.2.2.2.1) ((laws_toVirtual_v x12 x13 x14 x15 x16 x17 x18 x19 x20 x21 x22 x23).2.2.2.2.2.2.2.2.2.2.1) ((laws_toVirtual_v x12 x13 x14 x15 x16 x17 x18 x19 x20 x21 x22 x23).2.2.2.2.2.2.2.2.2.2.2)) = true) (.ite ((!(laws_eqVirtual_v ((laws_toVirtual_v x12 x13 x14 x15 x16 x17 x18 x19 x20 x21 x22 x23).1) ((laws_toVirtual_v x12 x13 x14 x15 x16 x17 x18 x19 x20 x21 x22 x23).2.1) ((laws_toVirtual_v x12 x13 x14 x15 x16 x17 x18 x19 x20 x21 x22 x23).2.2.1) ((laws_toVirtual_v x12 x13 x14 x15 x16 x17 x18 x19 x20 x21 x22 x23).2.2.2.1) ((laws_toVirtual_v x12 x13 x14 x15 x16 x17 x18 x19 x20 x21 x22 x23).2.2.2.2.1) ((laws_toVirtual_v x12 x13 x14 x15 x16 x17 x18 x19 x20 x21 x22 x23).2.2.2.2.2.1) ((laws_toVirtual_v x12 x13 x14 x15 x16 x17 x18 x19 x20 x21 x22 x23).2.2.2.2.2.2.1) ((laws_toVirtual_v x12 x13 x14 x15 x16 x17 x18 x19 x20 x21 x22 x23).2.2.2.2.2.2.2.1) ((laws_toVirtual_v x12 x13 x14 x15 x16 x17 x18 x19 x20 x21 x22 x23).2.2.2.2.2.2.2.2.1) ((laws_toVirtual_v x12 x13 x14 x15 x16 x17 x18 x19 x20 x21 x22 x23).2.2.2.2.2.2.2.2.2.1) ((laws_toVirtual_v x12 x13 x14 x15 x16 x17 x18 x19 x20 x21 x22 x23).2.2.2.2.2.2.2.2.2.2.1) ((laws_toVirtual_v x12 x13 x14 x15 x16 x17 x18 x19 x20 x21 x22 x23).2.2.2.2.2.2.2.2.2.2.2) ((laws_toVirtual_v x12 x13 x14 x15 x16 x17 x18 x19 x20 x21 x22 x23).1) ((laws_toVirtual_v x12 x13 x14 x15 x16 x17 x18 x19 x20 x21 x22 x23).2.1) ((laws_toVirtual_v x12 x13 x14 x15 x16 x17 x18 x19 x20 x21 x22 x23).2.2.1) ((laws_toVirtual_v x12 x13 x14 x15 x16 x17 x18 x19 x20 x21 x22 x23).2.2.2.1) ((laws_toVirtual_v x12 x13 x14 x15 x16 x17 x18 x19 x20 x21 x22 x23).2.2.2.2.1) ((laws_toVirtual_v x12 x13 x14 x15 x16 x17 x18 x19 x20 x21 x22 x23).2.2.2.2.2.1) ((laws_toVirtual_v x12 x13 x14 x15 x16 x17 x18 x19 x20 x21 x22 x23).2.2.2.2.2.2.1) ((laws_toVirtual_v x12 x13 x14 x15 x16 x17 x18 x19 x20 x21 x22 x23).2.2.2.2.2.2.2.1) ((laws_toVirtual_v x12 x13 x14 x15 x16 x17 x18 x19 x20 x21 x22 x23).2.2.2.2.2.2.2.2.1) ((laws_toVirtual_v x12 x13 x14 x15 x16 x17 x18 x19 x20 x21 x22 x23).2.2.2.2.2.2.2.2.2.1) ((laws_toVirtual_v x12 x13 x14 x15 x16 x17 x18 x19 x20 x21 x22 x23).2.2.2.2.2.2.2.2.2.2.1) ((laws_toVirtual_v x12 x13 x14 x15 x16 x17 x18 x19 x20 x21 x22 x23).2.2.2.2.2.2.2.2.2.2.2))) = true) (.ok false)
                  (.ok true))
                 .no)
                .no))
              .no)
             .no))
           .no)
          .no)
         .no)
        .no)
       .no)
      .no))
    .no))
  .no)
theorem laws_FnExactSameVirtual_e (x0 : Int) (x1 : Int) (x2 : Bool) (x3 : Bool) (x4 : List (List TC)) (x5 : List (List TC)) (x6 : List (List TC)) (x7 : List (List TC)) (x8 : Int) (x9 : List (List TC)) (x10 : List UInt8) (x11 : List (List TC)) (x12 : Int) (x13 : Int) (x14 : Bool) (x15 : Bool) (x16 : List (List TC)) (x17 : List (List TC)) (x18 : List (List TC)) (x19 : List (List TC)) (x20 : Int) (x21 : List (List TC)) (x22 : List UInt8) (x23 : List (List TC)) : runF tab FT D57 live 8 noLoops [(true, [(.int .i64, TC.i x0), (.int .i64, TC.i x1), (.bool, TC.b x2), (.bool, TC.b x3), (.slice 9, TC.l x4), (.slice 2, TC.l x5), (.slice 189, TC.l x6), (.slice 45, TC.l x7), (.int .i64, TC.i x8), (.slice 2, TC.l x9), (.str, TC.s x10), (.slice 163, TC.l x11)]), (true, [(.int .i64, TC.i x12), (.int .i64, TC.i x13), (.bool, TC.b x14), (.bool, TC.b x15), (.slice 9, TC.l x16), (.slice 2, TC.l x17), (.slice 189, TC.l x18), (.slice 45, TC.l x19), (.int .i64, TC.i x20), (.slice 2, TC.l x21), (.str, TC.s x22), (.slice 163, TC.l x23)])] = (laws_FnExactSameVirtual_t x0 x1 x2 x3 x4 x5 x6 x7 x8 x9 x10 x11 x12 x13 x14 x15 x16 x17 x18 x19 x20 x21 x22 x23).run fun p => some [(false, [⟨.bool, .sh, .b p⟩])] := by kernel_rfl
theorem tyArgsType {A B C E : List (List TC)} (a4 : Typed tab (.slice 9) (.l A)) (a5 : Typed tab (.slice 2) (.l B)) (a6 : Typed tab (.slice 189) (.l C)) (a7 : Typed tab (.slice 45) (.l E)) : Typed tab (.slice 9) (.l A) ∧ Typed tab (.slice 2) (.l B) ∧ Typed tab (.slice 147) (.l C) ∧ Typed tab (.slice 55) (.l E) :=
  ⟨typed_iso iso_ok a4 (by decide), typed_iso iso_ok a5 (by decide), typed_iso iso_ok a6 (by decide), typed_iso iso_ok a7 (by decide)⟩
theorem eqType_rv {x0 : Int} {x1 : Int} {x2 : Bool} {x3 : Bool} {x4 : List (List TC)} {x5 : List (List TC)} {x6 : List (List TC)} {x7 : List (List TC)} {x8 : Int} {y0 : Int} {y1 : Int} {y2 : Bool} {y3 : Bool} {y4 : List (List TC)} {y5 : List (List TC)} {y6 : List (List TC)} {y7 : List (List TC)} {y8 : Int} : ¬(!(laws_eqType_rv x0 x1 x2 x3 x4 x5 x6 x7 x8 y0 y1 y2 y3 y4 y5 y6 y7 y8)) = true := by
  show ¬(!true) = true
  decide
theorem neg_same {a : Bool} : ¬(!(a == a)) = true := by cases a <;> decide
theorem laws_FnExactSameVirtual_p (x0 : Int) (x1 : Int) (x2 : Bool) (x3 : Bool) (x4 : List (List TC)) (x5 : List (List TC)) (x6 : List (List TC)) (x7 : List (List TC)) (x8 : Int) (x9 : List (List TC)) (x10 : List UInt8) (x11 : List (List TC)) (x12 : Int) (x13 : Int) (x14 : Bool) (x15 : Bool) (x16 : List (List TC)) (x17 : List (List TC)) (x18 : List (List TC)) (x19 : List (List TC)) (x20 : Int) (x21 : List (List TC)) (x22 : List UInt8) (x23 : List (List TC)) (h0 : Typed tab (.int .i64) (.i x0)) (h1 : Typed tab (.int .i64) (.i x1)) (h2 : Typed tab (.bool) (.b x2)) (h3 : Typed tab (.bool) (.b x3)) (h4 : Typed tab (.slice 9) (.l x4)) (h5 : Typed tab (.slice 2) (.l x5)) (h6 : Typed tab (.slice 189) (.l x6)) (h7 : Typed tab (.slice 45) (.l x7)) (h8 : Typed tab (.int .i64) (.i x8)) (h9 : Typed tab (.slice 2) (.l x9)) (h10 : Typed tab (.str) (.s x10)) (h11 : Typed tab (.slice 163) (.l x11)) (h12 : Typed tab (.int .i64) (.i x12)) (h13 : Typed tab (.int .i64) (.i x13)) (h14 : Typed tab (.bool) (.b x14)) (h15 : Typed tab (.bool) (.b x15)) (h16 : Typed tab (.slice 9) (.l x16)) (h17 : Typed tab (.slice 2) (.l x17)) (h18 : Typed tab (.slice 189) (.l x18)) (h19 : Typed tab (.slice 45) (.l x19)) (h20 : Typed tab (.int .i64) (.i x20)) (h21 : Typed tab (.slice 2) (.l x21)) (h22 : Typed tab (.str) (.s x22)) (h23 : Typed tab (.slice 163) (.l x23)) (NN : Nat) (eN : NN = rowsDep x4 + rowsDep x5 + rowsDep x6 + rowsDep x7 + rowsDep x9 + rowsDep x11 + rowsDep x16 + rowsDep x17 + rowsDep x18 + rowsDep x19 + rowsDep x21 + rowsDep x23 + 1) (r_laws_szType : ∀ (x0 : Int) (x1 : Int) (x2 : Bool) (x3 : Bool) (x4 : List (List TC)) (x5 : List (List TC)) (x6 : List (List TC)) (x7 : List (List TC)) (x8 : Int) (x9 : Int), max (rowsDep x6) (rowsDep x7) < NN ∧ Typed tab (.slice 9) (.l x4) ∧ Typed tab (.slice 2) (.l x5) ∧ Typed tab (.slice 189) (.l x6) ∧ Typed tab (.slice 45) (.l x7) → (laws_szType_rc x0 x1 x2 x3 x4 x5 x6 x7 x8 x9) = true) (n_laws_toType : NN ≤ laws_toType_O.n) (n_spec_SameType : NN ≤ spec_SameType_O.n) (n_impl_SameType : NN ≤ impl_SameType_O.n) (n_laws_eqType : NN ≤ laws_eqType_O.n) : (laws_FnExactSameVirtual_t x0 x1 x2 x3 x4 x5 x6 x7 x8 x9 x10 x11 x12 x13 x14 x15 x16 x17 x18 x19 x20 x21 x22 x23).val = some true := by
  have t4_9 := laws_toStringS_ty h4
  have t5_2 := laws_toInt64S_ty h5
  have t6_147 := laws_toMemberS_ty h6
  have t7_55 := laws_toTypeS_ty h7
  have t9_2 := laws_toInt64S_ty h9
  have t11_128 := laws_toMappingS_ty h11
  have t16_9 := laws_toStringS_ty h16
  have t17_2 := laws_toInt64S_ty h17
  have t18_147 := laws_toMemberS_ty h18
  have t19_55 := laws_toTypeS_ty h19
  have t21_2 := laws_toInt64S_ty h21
  have t23_128 := laws_toMappingS_ty h23
  obtain ⟨i4, i5, i6, i7⟩ := tyArgsType h4 h5 h6 h7
  have zt0 : ∀ left : Int, laws_szType_rc x0 x1 x2 x3 x4 x5 x6 x7 x8 left = true := fun left => r_laws_szType x0 x1 x2 x3 x4 x5 x6 x7 x8 left ⟨by omega, h4, h5, h6, h7⟩
  have tt0 : laws_toType_rc x0 x1 x2 x3 x4 x5 x6 x7 x8 = true := is_true ⟨by omega, h4, h5, h6, h7⟩
  have et0 : laws_eqType_rc x0 x1 x2 x3 x4 x5 x6 x7 x8 x0 x1 x2 x3 x4 x5 x6 x7 x8 = true := is_true ⟨by omega, rfl, rfl, rfl, rfl, rfl, rfl, rfl, rfl, rfl, i4, i5, i6, i7⟩
  have ti9 : laws_toInt64S_c x9 = true := is_true h9
  have ii9 := laws_toInt64S_ty h9
  have ei9 : laws_eqInt64S_c x9 x9 = true := is_true ⟨rfl, ii9⟩
  have ti11 : laws_toMappingS_c x11 = true := is_true h11
  have ii11 := laws_toMappingS_ty h11
  have ei11 : laws_eqMappingS_c x11 x11 = true := is_true ⟨rfl, ii11⟩
  obtain ⟨i16, i17, i18, i19⟩ := tyArgsType h16 h17 h18 h19
  have zt12 : ∀ left : Int, laws_szType_rc x12 x13 x14 x15 x16 x17 x18 x19 x20 left = true := fun left => r_laws_szType x12 x13 x14 x15 x16 x17 x18 x19 x20 left ⟨by omega, h16, h17, h18, h19⟩
  have tt12 : laws_toType_rc x12 x13 x14 x15 x16 x17 x18 x19 x20 = true := is_true ⟨by omega, h16, h17, h18, h19⟩
  have et12 : laws_eqType_rc x12 x13 x14 x15 x16 x17 x18 x19 x20 x12 x13 x14 x15 x16 x17 x18 x19 x20 = true := is_true ⟨by omega, rfl, rfl, rfl, rfl, rfl, rfl, rfl, rfl, rfl, i16, i17, i18, i19⟩
  have ti21 : laws_toInt64S_c x21 = true := is_true h21
  have ii21 := laws_toInt64S_ty h21
  have ei21 : laws_eqInt64S_c x21 x21 = true := is_true ⟨rfl, ii21⟩
  have ti23 : laws_toMappingS_c x23 = true := is_true h23
  have ii23 := laws_toMappingS_ty h23
  have ei23 : laws_eqMappingS_c x23 x23 = true := is_true ⟨rfl, ii23⟩
  have ss : spec_SameType_rc x0 x1 x2 x3 x4 x5 x6 x7 x8 x12 x13 x14 x15 x16 x17 x18 x19 x20 = true := is_true ⟨by omega, i4, i5, i6, i7, i16, i17, i18, i19⟩
  have si : impl_SameType_rc x0 x1 x2 x3 x4 x5 x6 x7 x8 x12 x13 x14 x15 x16 x17 x18 x19 x20 = true := is_true ⟨by omega, i4, i5, i6, i7, i16, i17, i18, i19⟩
  unfold laws_FnExactSameVirtual_t
  simp only [show laws_toVirtual_v x0 x1 x2 x3 x4 x5 x6 x7 x8 x9 x10 x11 = (x0, x1, x2, x3, x4, x5, x6, x7, x8, x9, x10, x11) from rfl, show laws_toVirtual_v x12 x13 x14 x15 x16 x17 x18 x19 x20 x21 x22 x23 = (x12, x13, x14, x15, x16, x17, x18, x19, x20, x21, x22, x23) from rfl]
  refine Tr.t (by apply laws_szVirtual_cc <;> first | assumption | skip) ?_
  refine Tr.y ?_
  refine Tr.t (by apply laws_szVirtual_cc <;> first | assumption | skip) ?_
  refine Tr.y ?_
  refine Tr.t (by simp [laws_toVirtual_c, tt0, tt12, ti9, ti11, ti21, ti23, is_iff, bif_same]) ?_
  refine Tr.t (by simp [laws_toVirtual_c, tt0, tt12, ti9, ti11, ti21, ti23, is_iff, bif_same]) ?_
  refine Tr.t (by exact spec_SameVirtual_cc ss ii9 ii11) ?_
  refine Tr.t (by simp [laws_toVirtual_c, tt0, tt12, ti9, ti11, ti21, ti23, is_iff, bif_same]) ?_
  refine Tr.t (by simp [laws_toVirtual_c, tt0, tt12, ti9, ti11, ti21, ti23, is_iff, bif_same]) ?_
  refine Tr.t (by exact impl_SameVirtual_cc si ii9 ii11) ?_
  refine Tr.n (by first | (rw [spec_SameVirtual_q ii9 ii21 ii11 ii23, impl_SameVirtual_q ii9 ii21 ii11 ii23]; exact neg_same) | (simp [laws_eqVirtual_v, laws_eqInt64S_v, laws_eqMappingS_v, laws_eqType_rv])) ?_
  refine Tr.t (by simp [laws_toVirtual_c, tt0, tt12, ti9, ti11, ti21, ti23, is_iff, bif_same]) ?_
  refine Tr.t (by simp [laws_eqVirtual_c, et0, et12, ei9, ei11, ei21, ei23, ii9, ii11, ii21, ii23, is_iff, bif_same]) ?_
  refine Tr.n (by first | (rw [spec_SameVirtual_q ii9 ii21 ii11 ii23, impl_SameVirtual_q ii9 ii21 ii11 ii23]; exact neg_same) | (simp [laws_eqVirtual_v, laws_eqInt64S_v, laws_eqMappingS_v, laws_eqType_rv])) ?_
  refine Tr.t (by simp [laws_toVirtual_c, tt0, tt12, ti9, ti11, ti21, ti23, is_iff, bif_same]) ?_
  refine Tr.t (by simp [laws_eqVirtual_c, et0, et12, ei9, ei11, ei21, ei23, ii9, ii11, ii21, ii23, is_iff, bif_same]) ?_
  refine Tr.n (by first | (rw [spec_SameVirtual_q ii9 ii21 ii11 ii23, impl_SameVirtual_q ii9 ii21 ii11 ii23]; exact neg_same) | (simp [laws_eqVirtual_v, laws_eqInt64S_v, laws_eqMappingS_v, laws_eqType_rv])) ?_
  rfl
end
theorem laws_eqType_none : ∀ xs r, laws_eqType_rS (i_laws_eqType := ⟨0⟩) xs ≠ some (true, r) := by
  intro xs r h
  unfold laws_eqType_rS at h
  split at h
  · simp only [Option.some.injEq, Prod.mk.injEq] at h
    have h1 := is_iff.1 h.1
    exact absurd h1.1 (Nat.not_lt_zero _)
  · cases h
theorem laws_eqType_good : ∀ n : Nat, laws_eqType_G (i_laws_eqType := ⟨n⟩) := by
  intro n
  induction n with
  | zero => exact laws_eqType_G.mk (i_laws_eqType := ⟨0⟩) (DOk.also0 d47 laws_eqType_none)
  | succ n ih => exact laws_eqType_step (i_laws_eqType := ⟨n⟩) (g_laws_eqType := ih)
end
theorem impl_SameType_none : ∀ xs r, impl_SameType_rS (i_impl_SameType := ⟨0⟩) xs ≠ some (true, r) := by
  intro xs r h
  unfold impl_SameType_rS at h
  split at h
  · simp only [Option.some.injEq, Prod.mk.injEq] at h
    have h1 := is_iff.1 h.1
    exact absurd h1.1 (Nat.not_lt_zero _)
  · cases h
theorem impl_SameType_good : ∀ n : Nat, impl_SameType_G (i_impl_SameType := ⟨n⟩) := by
  intro n
  induction n with
  | zero => exact impl_SameType_G.mk (i_impl_SameType := ⟨0⟩) (DOk.also0 d33 impl_SameType_none)
  | succ n ih => exact impl_SameType_step (i_impl_SameType := ⟨n⟩) (g_impl_SameType := ih)
end
theorem spec_SameType_none : ∀ xs r, spec_SameType_rS (i_spec_SameType := ⟨0⟩) xs ≠ some (true, r) := by
  intro xs r h
  unfold spec_SameType_rS at h
  split at h
  · simp only [Option.some.injEq, Prod.mk.injEq] at h
    have h1 := is_iff.1 h.1
    exact absurd h1.1 (Nat.not_lt_zero _)
  · cases h
theorem spec_SameType_good : ∀ n : Nat, spec_SameType_G (i_spec_SameType := ⟨n⟩) := by
  intro n
  induction n with
  | zero => exact spec_SameType_G.mk (i_spec_SameType := ⟨0⟩) (DOk.also0 d24 spec_SameType_none)
  | succ n ih => exact spec_SameType_step (i_spec_SameType := ⟨n⟩) (g_spec_SameType := ih)
end
theorem laws_toType_none : ∀ xs r, laws_toType_rS (i_laws_toType := ⟨0⟩) xs ≠ some (true, r) := by
  intro xs r h
  unfold laws_toType_rS at h
  split at h
  · simp only [Option.some.injEq, Prod.mk.injEq] at h
    have h1 := is_iff.1 h.1
    exact absurd h1.1 (Nat.not_lt_zero _)
  · cases h
theorem laws_toType_good : ∀ n : Nat, laws_toType_G (i_laws_toType := ⟨n⟩) := by
  intro n
  induction n with
  | zero => exact laws_toType_G.mk (i_laws_toType := ⟨0⟩) (DOk.also0 d14 laws_toType_none)
  | succ n ih => exact laws_toType_step (i_laws_toType := ⟨n⟩) (g_laws_toType := ih)
end
@[reducible] noncomputable def laws_szType_orc : Nat → laws_szType_O
  | 0 => ⟨fun _ _ _ _ _ _ _ _ _ _ => (false, default)⟩
  | n + 1 => ⟨laws_szType_next (i_laws_szType := laws_szType_orc n)⟩
theorem laws_szType_none : ∀ xs r, laws_szType_rS (i_laws_szType := laws_szType_orc 0) xs ≠ some (true, r) := by
  intro xs r h
  unfold laws_szType_rS at h
  split at h
  · simp only [Option.some.injEq, Prod.mk.injEq] at h
    exact absurd h.1 (by show ¬(false = true); simp)
  · cases h
theorem laws_szType_good : ∀ n, laws_szType_G (i_laws_szType := laws_szType_orc n) := by
  intro n
  induction n with
  | zero => exact laws_szType_G.mk (i_laws_szType := laws_szType_orc 0) (DOk.also0 d2 laws_szType_none)
  | succ n ih => exact laws_szType_step (i_laws_szType := laws_szType_orc n) (g_laws_szType := ih)
theorem laws_szType_hr : ∀ (n : Nat) (x0 : Int) (x1 : Int) (x2 : Bool) (x3 : Bool) (x4 : List (List TC)) (x5 : List (List TC)) (x6 : List (List TC)) (x7 : List (List TC)) (x8 : Int) (x9 : Int), max (rowsDep x6) (rowsDep x7) < n ∧ Typed tab (.slice 9) (.l x4) ∧ Typed tab (.slice 2) (.l x5) ∧ Typed tab (.slice 189) (.l x6) ∧ Typed tab (.slice 45) (.l x7) → laws_szType_rc (i_laws_szType := laws_szType_orc n) x0 x1 x2 x3 x4 x5 x6 x7 x8 x9 = true := by
  intro n
  induction n with
  | zero => intro x0 x1 x2 x3 x4 x5 x6 x7 x8 x9 h; exact absurd h.1 (Nat.not_lt_zero _)
  | succ n ih =>
    intro x0 x1 x2 x3 x4 x5 x6 x7 x8 x9 h
    exact laws_szType_nx (i_laws_szType := laws_szType_orc n) (g_laws_szType := laws_szType_good n) n ih x0 x1 x2 x3 x4 x5 x6 x7 x8 x9 h
theorem laws_FnExactSameVirtual_pure : ∀ xs, ArgsTyped tab [77, 77] xs → ∃ (D : Dt) (lo : LoopTeller), DOk Go.Proofs.Try.prog tab D ∧ FnLoops tab (fun f => Go.Proofs.Try.prog.funcs[f]?) D live 8 lo ∧ runF tab (fun f => Go.Proofs.Try.prog.funcs[f]?) D live 8 lo xs = yes := by
  intro xs h
  cases h with | cons l0 g0 h =>
  obtain ⟨z0_0, z0_1, z0_2, z0_3, z0_4, z0_5, z0_6, z0_7, z0_8, z0_9, z0_10, z0_11, rfl⟩ := len_12 l0
  have q0 := g0 0 (by decide)
  have q0 : Typed tab (.int .i64) z0_0 := q0
  obtain ⟨y0, rfl⟩ := typed_int q0
  have q1 := g0 1 (by decide)
  have q1 : Typed tab (.int .i64) z0_1 := q1
  obtain ⟨y1, rfl⟩ := typed_int q1
  have q2 := g0 2 (by decide)
  have q2 : Typed tab (.bool) z0_2 := q2
  obtain ⟨y2, rfl⟩ := typed_bool q2
  have q3 := g0 3 (by decide)
  have q3 : Typed tab (.bool) z0_3 := q3
  obtain ⟨y3, rfl⟩ := typed_bool q3
  have q4 := g0 4 (by decide)
  have q4 : Typed tab (.slice 9) z0_4 := q4
  obtain ⟨y4, rfl⟩ := typed_slice q4
  have q5 := g0 5 (by decide)
  have q5 : Typed tab (.slice 2) z0_5 := q5
  obtain ⟨y5, rfl⟩ := typed_slice q5
  have q6 := g0 6 (by decide)
  have q6 : Typed tab (.slice 189) z0_6 := q6
  obtain ⟨y6, rfl⟩ := typed_slice q6
  have q7 := g0 7 (by decide)
  have q7 : Typed tab (.slice 45) z0_7 := q7
  obtain ⟨y7, rfl⟩ := typed_slice q7
  have q8 := g0 8 (by decide)
  have q8 : Typed tab (.int .i64) z0_8 := q8
  obtain ⟨y8, rfl⟩ := typed_int q8
  have q9 := g0 9 (by decide)
  have q9 : Typed tab (.slice 2) z0_9 := q9
  obtain ⟨y9, rfl⟩ := typed_slice q9
  have q10 := g0 10 (by decide)
  have q10 : Typed tab (.str) z0_10 := q10
  obtain ⟨y10, rfl⟩ := typed_str q10
  have q11 := g0 11 (by decide)
  have q11 : Typed tab (.slice 163) z0_11 := q11
  obtain ⟨y11, rfl⟩ := typed_slice q11
  cases h with | cons l1 g1 h =>
  obtain ⟨z1_0, z1_1, z1_2, z1_3, z1_4, z1_5, z1_6, z1_7, z1_8, z1_9, z1_10, z1_11, rfl⟩ := len_12 l1
  have q12 := g1 0 (by decide)
  have q12 : Typed tab (.int .i64) z1_0 := q12
  obtain ⟨y12, rfl⟩ := typed_int q12
  have q13 := g1 1 (by decide)
  have q13 : Typed tab (.int .i64) z1_1 := q13
  obtain ⟨y13, rfl⟩ := typed_int q13
  have q14 := g1 2 (by decide)
  have q14 : Typed tab (.bool) z1_2 := q14
  obtain ⟨y14, rfl⟩ := typed_bool q14
  have q15 := g1 3 (by decide)
  have q15 : Typed tab (.bool) z1_3 := q15
  obtain ⟨y15, rfl⟩ := typed_bool q15
  have q16 := g1 4 (by decide)
  have q16 : Typed tab (.slice 9) z1_4 := q16
  obtain ⟨y16, rfl⟩ := typed_slice q16
  have q17 := g1 5 (by decide)
  have q17 : Typed tab (.slice 2) z1_5 := q17
  obtain ⟨y17, rfl⟩ := typed_slice q17
  have q18 := g1 6 (by decide)
  have q18 : Typed tab (.slice 189) z1_6 := q18
  obtain ⟨y18, rfl⟩ := typed_slice q18
  have q19 := g1 7 (by decide)
  have q19 : Typed tab (.slice 45) z1_7 := q19
  obtain ⟨y19, rfl⟩ := typed_slice q19
  have q20 := g1 8 (by decide)
  have q20 : Typed tab (.int .i64) z1_8 := q20
  obtain ⟨y20, rfl⟩ := typed_int q20
  have q21 := g1 9 (by decide)
  have q21 : Typed tab (.slice 2) z1_9 := q21
  obtain ⟨y21, rfl⟩ := typed_slice q21
  have q22 := g1 10 (by decide)
  have q22 : Typed tab (.str) z1_10 := q22
  obtain ⟨y22, rfl⟩ := typed_str q22
  have q23 := g1 11 (by decide)
  have q23 : Typed tab (.slice 163) z1_11 := q23
  obtain ⟨y23, rfl⟩ := typed_slice q23
  cases h
  letI i_laws_szType : laws_szType_O := laws_szType_orc (rowsDep y4 + rowsDep y5 + rowsDep y6 + rowsDep y7 + rowsDep y9 + rowsDep y11 + rowsDep y16 + rowsDep y17 + rowsDep y18 + rowsDep y19 + rowsDep y21 + rowsDep y23 + 1)
  letI g_laws_szType : laws_szType_G := laws_szType_good (rowsDep y4 + rowsDep y5 + rowsDep y6 + rowsDep y7 + rowsDep y9 + rowsDep y11 + rowsDep y16 + rowsDep y17 + rowsDep y18 + rowsDep y19 + rowsDep y21 + rowsDep y23 + 1)
  letI i_laws_toType : laws_toType_O := ⟨rowsDep y4 + rowsDep y5 + rowsDep y6 + rowsDep y7 + rowsDep y9 + rowsDep y11 + rowsDep y16 + rowsDep y17 + rowsDep y18 + rowsDep y19 + rowsDep y21 + rowsDep y23 + 1⟩
  letI g_laws_toType : laws_toType_G := laws_toType_good (rowsDep y4 + rowsDep y5 + rowsDep y6 + rowsDep y7 + rowsDep y9 + rowsDep y11 + rowsDep y16 + rowsDep y17 + rowsDep y18 + rowsDep y19 + rowsDep y21 + rowsDep y23 + 1)
  letI i_spec_SameType : spec_SameType_O := ⟨rowsDep y4 + rowsDep y5 + rowsDep y6 + rowsDep y7 + rowsDep y9 + rowsDep y11 + rowsDep y16 + rowsDep y17 + rowsDep y18 + rowsDep y19 + rowsDep y21 + rowsDep y23 + 1⟩
  letI g_spec_SameType : spec_SameType_G := spec_SameType_good (rowsDep y4 + rowsDep y5 + rowsDep y6 + rowsDep y7 + rowsDep y9 + rowsDep y11 + rowsDep y16 + rowsDep y17 + rowsDep y18 + rowsDep y19 + rowsDep y21 + rowsDep y23 + 1)
  letI i_impl_SameType : impl_SameType_O := ⟨rowsDep y4 + rowsDep y5 + rowsDep y6 + rowsDep y7 + rowsDep y9 + rowsDep y11 + rowsDep y16 + rowsDep y17 + rowsDep y18 + rowsDep y19 + rowsDep y21 + rowsDep y23 + 1⟩
  letI g_impl_SameType : impl_SameType_G := impl_SameType_good (rowsDep y4 + rowsDep y5 + rowsDep y6 + rowsDep y7 + rowsDep y9 + rowsDep y11 + rowsDep y16 + rowsDep y17 + rowsDep y18 + rowsDep y19 + rowsDep y21 + rowsDep y23 + 1)
  letI i_laws_eqType : laws_eqType_O := ⟨rowsDep y4 + rowsDep y5 + rowsDep y6 + rowsDep y7 + rowsDep y9 + rowsDep y11 + rowsDep y16 + rowsDep y17 + rowsDep y18 + rowsDep y19 + rowsDep y21 + rowsDep y23 + 1⟩
  letI g_laws_eqType : laws_eqType_G := laws_eqType_good (rowsDep y4 + rowsDep y5 + rowsDep y6 + rowsDep y7 + rowsDep y9 + rowsDep y11 + rowsDep y16 + rowsDep y17 + rowsDep y18 + rowsDep y19 + rowsDep y21 + rowsDep y23 + 1)
  refine ⟨D57, noLoops, d57, noLoops_ok, (laws_FnExactSameVirtual_e y0 y1 y2 y3 y4 y5 y6 y7 y8 y9 y10 y11 y12 y13 y14 y15 y16 y17 y18 y19 y20 y21 y22 y23).trans ?_⟩
  rw [Tr.run_eq, laws_FnExactSameVirtual_p y0 y1 y2 y3 y4 y5 y6 y7 y8 y9 y10 y11 y12 y13 y14 y15 y16 y17 y18 y19 y20 y21 y22 y23 q0 q1 q2 q3 q4 q5 q6 q7 q8 q9 q10 q11 q12 q13 q14 q15 q16 q17 q18 q19 q20 q21 q22 q23 (rowsDep y4 + rowsDep y5 + rowsDep y6 + rowsDep y7 + rowsDep y9 + rowsDep y11 + rowsDep y16 + rowsDep y17 + rowsDep y18 + rowsDep y19 + rowsDep y21 + rowsDep y23 + 1) rfl (laws_szType_hr (rowsDep y4 + rowsDep y5 + rowsDep y6 + rowsDep y7 + rowsDep y9 + rowsDep y11 + rowsDep y16 + rowsDep y17 + rowsDep y18 + rowsDep y19 + rowsDep y21 + rowsDep y23 + 1)) (Nat.le_refl _) (Nat.le_refl _) (Nat.le_refl _) (Nat.le_refl _)]
  rfl
end Go.Proofs.Ytghbndlkekaipaa.V
