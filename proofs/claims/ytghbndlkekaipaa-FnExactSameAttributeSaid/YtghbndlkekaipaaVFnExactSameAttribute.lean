/- What the functions of FnExactSameAttribute answer. No condition. -/
import Derived.Test.YtghbndlkekaipaaVFnExactSameAttributeP2
namespace Go.Proofs.Ytghbndlkekaipaa.V
open Go
set_option maxRecDepth 100000
set_option linter.unusedVariables false
set_option linter.unusedSectionVars false
set_option linter.unusedSimpArgs false
section
variable [i_laws_szType : laws_szType_O]
variable [g_laws_szType : laws_szType_G]
section
variable [i_laws_toType : laws_toType_O]
variable [g_laws_toType : laws_toType_G]
section
variable [i_spec_SameType : spec_SameType_O]
variable [g_spec_SameType : spec_SameType_G]
section
variable [i_impl_SameType : impl_SameType_O]
variable [g_impl_SameType : impl_SameType_G]
section
variable [i_laws_eqType : laws_eqType_O]
variable [g_laws_eqType : laws_eqType_G]
end
theorem laws_eqType_none : ∀ xs r, laws_eqType_rS (i_laws_eqType := ⟨0⟩) xs ≠ some (true, r) := by
  intro xs r h
  unfold laws_eqType_rS at h
  split at h
  · simp only [Option.some.injEq, Prod.mk.injEq] at h
    have h1 := is_iff.1 h.1
    exact absurd h1.1 (Nat.not_lt_zero _)
  · cases h
theorem laws_eqType_good : ∀ n : Nat, laws_eqType_G (i_laws_eqType := ⟨n⟩) := by
  intro n
  induction n with
  | zero => exact laws_eqType_G.mk (i_laws_eqType := ⟨0⟩) (DOk.also0 d32 laws_eqType_none)
  | succ n ih => exact laws_eqType_step (i_laws_eqType := ⟨n⟩) (g_laws_eqType := ih)
end
theorem impl_SameType_none : ∀ xs r, impl_SameType_rS (i_impl_SameType := ⟨0⟩) xs ≠ some (true, r) := by
  intro xs r h
  unfold impl_SameType_rS at h
  split at h
  · simp only [Option.some.injEq, Prod.mk.injEq] at h
    have h1 := is_iff.1 h.1
    exact absurd h1.1 (Nat.not_lt_zero _)
  · cases h
theorem impl_SameType_good : ∀ n : Nat, impl_SameType_G (i_impl_SameType := ⟨n⟩) := by
  intro n
  induction n with
  | zero => exact impl_SameType_G.mk (i_impl_SameType := ⟨0⟩) (DOk.also0 d24 impl_SameType_none)
  | succ n ih => exact impl_SameType_step (i_impl_SameType := ⟨n⟩) (g_impl_SameType := ih)
end
theorem spec_SameType_none : ∀ xs r, spec_SameType_rS (i_spec_SameType := ⟨0⟩) xs ≠ some (true, r) := by
  intro xs r h
  unfold spec_SameType_rS at h
  split at h
  · simp only [Option.some.injEq, Prod.mk.injEq] at h
    have h1 := is_iff.1 h.1
    exact absurd h1.1 (Nat.not_lt_zero _)
  · cases h
theorem spec_SameType_good : ∀ n : Nat, spec_SameType_G (i_spec_SameType := ⟨n⟩) := by
  intro n
  induction n with
  | zero => exact spec_SameType_G.mk (i_spec_SameType := ⟨0⟩) (DOk.also0 d16 spec_SameType_none)
  | succ n ih => exact spec_SameType_step (i_spec_SameType := ⟨n⟩) (g_spec_SameType := ih)
end
theorem laws_toType_none : ∀ xs r, laws_toType_rS (i_laws_toType := ⟨0⟩) xs ≠ some (true, r) := by
  intro xs r h
  unfold laws_toType_rS at h
  split at h
  · simp only [Option.some.injEq, Prod.mk.injEq] at h
    have h1 := is_iff.1 h.1
    exact absurd h1.1 (Nat.not_lt_zero _)
  · cases h
theorem laws_toType_good : ∀ n : Nat, laws_toType_G (i_laws_toType := ⟨n⟩) := by
  intro n
  induction n with
  | zero => exact laws_toType_G.mk (i_laws_toType := ⟨0⟩) (DOk.also0 d10 laws_toType_none)
  | succ n ih => exact laws_toType_step (i_laws_toType := ⟨n⟩) (g_laws_toType := ih)
end
@[reducible] noncomputable def laws_szType_orc : Nat → laws_szType_O
  | 0 => ⟨fun _ _ _ _ _ _ _ _ _ _ => (false, default)⟩
  | n + 1 => ⟨laws_szType_next (i_laws_szType := laws_szType_orc n)⟩
theorem laws_szType_none : ∀ xs r, laws_szType_rS (i_laws_szType := laws_szType_orc 0) xs ≠ some (true, r) := by
  intro xs r h
  unfold laws_szType_rS at h
  split at h
  · simp only [Option.some.injEq, Prod.mk.injEq] at h
    exact absurd h.1 (by show ¬(false = true); simp)
  · cases h
theorem laws_szType_good : ∀ n, laws_szType_G (i_laws_szType := laws_szType_orc n) := by
  intro n
  induction n with
  | zero => exact laws_szType_G.mk (i_laws_szType := laws_szType_orc 0) (DOk.also0 d2 laws_szType_none)
  | succ n ih => exact laws_szType_step (i_laws_szType := laws_szType_orc n) (g_laws_szType := ih)
theorem laws_szType_hr : ∀ (n : Nat) (x0 : Int) (x1 : Int) (x2 : Bool) (x3 : Bool) (x4 : List (List TC)) (x5 : List (List TC)) (x6 : List (List TC)) (x7 : List (List TC)) (x8 : Int) (x9 : Int), max (rowsDep x6) (rowsDep x7) < n ∧ Typed tab (.slice 9) (.l x4) ∧ Typed tab (.slice 2) (.l x5) ∧ Typed tab (.slice 189) (.l x6) ∧ Typed tab (.slice 45) (.l x7) → laws_szType_rc (i_laws_szType := laws_szType_orc n) x0 x1 x2 x3 x4 x5 x6 x7 x8 x9 = true := by
  intro n
  induction n with
  | zero => intro x0 x1 x2 x3 x4 x5 x6 x7 x8 x9 h; exact absurd h.1 (Nat.not_lt_zero _)
  | succ n ih =>
    intro x0 x1 x2 x3 x4 x5 x6 x7 x8 x9 h
    exact laws_szType_nx (i_laws_szType := laws_szType_orc n) (g_laws_szType := laws_szType_good n) n ih x0 x1 x2 x3 x4 x5 x6 x7 x8 x9 h
theorem laws_FnExactSameAttribute_pure : ∀ xs, ArgsTyped tab [49, 49] xs → ∃ (D : Dt) (lo : LoopTeller), DOk Go.Proofs.Try.prog tab D ∧ FnLoops tab (fun f => Go.Proofs.Try.prog.funcs[f]?) D live 6 lo ∧ runF tab (fun f => Go.Proofs.Try.prog.funcs[f]?) D live 6 lo xs = yes := by
  intro xs h
  cases h with | cons l0 g0 h =>
  obtain ⟨z0_0, z0_1, z0_2, z0_3, z0_4, z0_5, z0_6, z0_7, z0_8, z0_9, z0_10, z0_11, rfl⟩ := len_12 l0
  have q0 := g0 0 (by decide)
  have q0 : Typed tab (.str) z0_0 := q0
  obtain ⟨y0, rfl⟩ := typed_str q0
  have q1 := g0 1 (by decide)
  have q1 : Typed tab (.int .i64) z0_1 := q1
  obtain ⟨y1, rfl⟩ := typed_int q1
  have q2 := g0 2 (by decide)
  have q2 : Typed tab (.int .i64) z0_2 := q2
  obtain ⟨y2, rfl⟩ := typed_int q2
  have q3 := g0 3 (by decide)
  have q3 : Typed tab (.bool) z0_3 := q3
  obtain ⟨y3, rfl⟩ := typed_bool q3
  have q4 := g0 4 (by decide)
  have q4 : Typed tab (.bool) z0_4 := q4
  obtain ⟨y4, rfl⟩ := typed_bool q4
  have q5 := g0 5 (by decide)
  have q5 : Typed tab (.slice 9) z0_5 := q5
  obtain ⟨y5, rfl⟩ := typed_slice q5
  have q6 := g0 6 (by decide)
  have q6 : Typed tab (.slice 2) z0_6 := q6
  obtain ⟨y6, rfl⟩ := typed_slice q6
  have q7 := g0 7 (by decide)
  have q7 : Typed tab (.slice 189) z0_7 := q7
  obtain ⟨y7, rfl⟩ := typed_slice q7
  have q8 := g0 8 (by decide)
  have q8 : Typed tab (.slice 45) z0_8 := q8
  obtain ⟨y8, rfl⟩ := typed_slice q8
  have q9 := g0 9 (by decide)
  have q9 : Typed tab (.int .i64) z0_9 := q9
  obtain ⟨y9, rfl⟩ := typed_int q9
  have q10 := g0 10 (by decide)
  have q10 : Typed tab (.slice 2) z0_10 := q10
  obtain ⟨y10, rfl⟩ := typed_slice q10
  have q11 := g0 11 (by decide)
  have q11 : Typed tab (.str) z0_11 := q11
  obtain ⟨y11, rfl⟩ := typed_str q11
  cases h with | cons l1 g1 h =>
  obtain ⟨z1_0, z1_1, z1_2, z1_3, z1_4, z1_5, z1_6, z1_7, z1_8, z1_9, z1_10, z1_11, rfl⟩ := len_12 l1
  have q12 := g1 0 (by decide)
  have q12 : Typed tab (.str) z1_0 := q12
  obtain ⟨y12, rfl⟩ := typed_str q12
  have q13 := g1 1 (by decide)
  have q13 : Typed tab (.int .i64) z1_1 := q13
  obtain ⟨y13, rfl⟩ := typed_int q13
  have q14 := g1 2 (by decide)
  have q14 : Typed tab (.int .i64) z1_2 := q14
  obtain ⟨y14, rfl⟩ := typed_int q14
  have q15 := g1 3 (by decide)
  have q15 : Typed tab (.bool) z1_3 := q15
  obtain ⟨y15, rfl⟩ := typed_bool q15
  have q16 := g1 4 (by decide)
  have q16 : Typed tab (.bool) z1_4 := q16
  obtain ⟨y16, rfl⟩ := typed_bool q16
  have q17 := g1 5 (by decide)
  have q17 : Typed tab (.slice 9) z1_5 := q17
  obtain ⟨y17, rfl⟩ := typed_slice q17
  have q18 := g1 6 (by decide)
  have q18 : Typed tab (.slice 2) z1_6 := q18
  obtain ⟨y18, rfl⟩ := typed_slice q18
  have q19 := g1 7 (by decide)
  have q19 : Typed tab (.slice 189) z1_7 := q19
  obtain ⟨y19, rfl⟩ := typed_slice q19
  have q20 := g1 8 (by decide)
  have q20 : Typed tab (.slice 45) z1_8 := q20
  obtain ⟨y20, rfl⟩ := typed_slice q20
  have q21 := g1 9 (by decide)
  have q21 : Typed tab (.int .i64) z1_9 := q21
  obtain ⟨y21, rfl⟩ := typed_int q21
  have q22 := g1 10 (by decide)
  have q22 : Typed tab (.slice 2) z1_10 := q22
  obtain ⟨y22, rfl⟩ := typed_slice q22
  have q23 := g1 11 (by decide)
  have q23 : Typed tab (.str) z1_11 := q23
  obtain ⟨y23, rfl⟩ := typed_str q23
  cases h
  letI i_laws_szType : laws_szType_O := laws_szType_orc (rowsDep y5 + rowsDep y6 + rowsDep y7 + rowsDep y8 + rowsDep y10 + rowsDep y17 + rowsDep y18 + rowsDep y19 + rowsDep y20 + rowsDep y22 + 1)
  letI g_laws_szType : laws_szType_G := laws_szType_good (rowsDep y5 + rowsDep y6 + rowsDep y7 + rowsDep y8 + rowsDep y10 + rowsDep y17 + rowsDep y18 + rowsDep y19 + rowsDep y20 + rowsDep y22 + 1)
  letI i_laws_toType : laws_toType_O := ⟨rowsDep y5 + rowsDep y6 + rowsDep y7 + rowsDep y8 + rowsDep y10 + rowsDep y17 + rowsDep y18 + rowsDep y19 + rowsDep y20 + rowsDep y22 + 1⟩
  letI g_laws_toType : laws_toType_G := laws_toType_good (rowsDep y5 + rowsDep y6 + rowsDep y7 + rowsDep y8 + rowsDep y10 + rowsDep y17 + rowsDep y18 + rowsDep y19 + rowsDep y20 + rowsDep y22 + 1)
  letI i_spec_SameType : spec_SameType_O := ⟨rowsDep y5 + rowsDep y6 + rowsDep y7 + rowsDep y8 + rowsDep y10 + rowsDep y17 + rowsDep y18 + rowsDep y19 + rowsDep y20 + rowsDep y22 + 1⟩
  letI g_spec_SameType : spec_SameType_G := spec_SameType_good (rowsDep y5 + rowsDep y6 + rowsDep y7 + rowsDep y8 + rowsDep y10 + rowsDep y17 + rowsDep y18 + rowsDep y19 + rowsDep y20 + rowsDep y22 + 1)
  letI i_impl_SameType : impl_SameType_O := ⟨rowsDep y5 + rowsDep y6 + rowsDep y7 + rowsDep y8 + rowsDep y10 + rowsDep y17 + rowsDep y18 + rowsDep y19 + rowsDep y20 + rowsDep y22 + 1⟩
  letI g_impl_SameType : impl_SameType_G := impl_SameType_good (rowsDep y5 + rowsDep y6 + rowsDep y7 + rowsDep y8 + rowsDep y10 + rowsDep y17 + rowsDep y18 + rowsDep y19 + rowsDep y20 + rowsDep y22 + 1)
  letI i_laws_eqType : laws_eqType_O := ⟨rowsDep y5 + rowsDep y6 + rowsDep y7 + rowsDep y8 + rowsDep y10 + rowsDep y17 + rowsDep y18 + rowsDep y19 + rowsDep y20 + rowsDep y22 + 1⟩
  letI g_laws_eqType : laws_eqType_G := laws_eqType_good (rowsDep y5 + rowsDep y6 + rowsDep y7 + rowsDep y8 + rowsDep y10 + rowsDep y17 + rowsDep y18 + rowsDep y19 + rowsDep y20 + rowsDep y22 + 1)
  refine ⟨D38, noLoops, d38, noLoops_ok, (laws_FnExactSameAttribute_e y0 y1 y2 y3 y4 y5 y6 y7 y8 y9 y10 y11 y12 y13 y14 y15 y16 y17 y18 y19 y20 y21 y22 y23).trans ?_⟩
  rw [Tr.run_eq, laws_FnExactSameAttribute_p y0 y1 y2 y3 y4 y5 y6 y7 y8 y9 y10 y11 y12 y13 y14 y15 y16 y17 y18 y19 y20 y21 y22 y23 q0 q1 q2 q3 q4 q5 q6 q7 q8 q9 q10 q11 q12 q13 q14 q15 q16 q17 q18 q19 q20 q21 q22 q23 (rowsDep y5 + rowsDep y6 + rowsDep y7 + rowsDep y8 + rowsDep y10 + rowsDep y17 + rowsDep y18 + rowsDep y19 + rowsDep y20 + rowsDep y22 + 1) rfl (laws_szType_hr (rowsDep y5 + rowsDep y6 + rowsDep y7 + rowsDep y8 + rowsDep y10 + rowsDep y17 + rowsDep y18 + rowsDep y19 + rowsDep y20 + rowsDep y22 + 1)) (Nat.le_refl _) (Nat.le_refl _) (Nat.le_refl _) (Nat.le_refl _)]
  rfl
end Go.Proofs.Ytghbndlkekaipaa.V
