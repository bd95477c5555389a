/- What the functions of FnExactClampNumber answer. No condition. -/
import Derived.Test.YtdcafhfnkblfkaaVFnExactClampNumberP4
namespace Go.Proofs.Ytdcafhfnkblfkaa.V
open Go
set_option maxRecDepth 100000
set_option linter.unusedVariables false
set_option linter.unusedSectionVars false
set_option linter.unusedSimpArgs false
set_option maxHeartbeats 2000000
section
variable [i_laws_szType : qba_O]
variable [g_laws_szType : qba_G]
section
variable [i_laws_toType : qj_O]
variable [g_laws_toType : qj_G]
section
variable [i_spec_l02Size : qn_O]
variable [g_spec_l02Size : qn_G]
theorem qf_good : ∀ n : Nat, qf_G (i_spec_l02Depth := ⟨n⟩) := by
  intro n
  induction n with
  | zero => exact qf_G.mk (i_spec_l02Depth := ⟨0⟩) (DOk.also0 d13 qf_none)
  | succ n ih => exact qf_step (i_spec_l02Depth := ⟨n⟩) (g_spec_l02Depth := ih)
end
theorem qn_none : ∀ xs r, qn_rS (i_spec_l02Size := ⟨0⟩) xs ≠ some (true, r) := by
  intro xs r h
  unfold qn_rS at h
  split at h
  · simp only [Option.some.injEq, Prod.mk.injEq] at h
    have h1 := is_iff.1 h.1
    exact absurd h1.1 (Nat.not_lt_zero _)
  · cases h
theorem qn_good : ∀ n : Nat, qn_G (i_spec_l02Size := ⟨n⟩) := by
  intro n
  induction n with
  | zero => exact qn_G.mk (i_spec_l02Size := ⟨0⟩) (DOk.also0 d12 qn_none)
  | succ n ih => exact qn_step (i_spec_l02Size := ⟨n⟩) (g_spec_l02Size := ih)
end
theorem qj_none : ∀ xs r, qj_rS (i_laws_toType := ⟨0⟩) xs ≠ some (true, r) := by
  intro xs r h
  unfold qj_rS at h
  split at h
  · simp only [Option.some.injEq, Prod.mk.injEq] at h
    have h1 := is_iff.1 h.1
    exact absurd h1.1 (Nat.not_lt_zero _)
  · cases h
theorem qj_good : ∀ n : Nat, qj_G (i_laws_toType := ⟨n⟩) := by
  intro n
  induction n with
  | zero => exact qj_G.mk (i_laws_toType := ⟨0⟩) (DOk.also0 d8 qj_none)
  | succ n ih => exact qj_step (i_laws_toType := ⟨n⟩) (g_laws_toType := ih)
end
@[reducible] noncomputable def qba_orc : Nat → qba_O
  | 0 => ⟨fun _ _ _ _ _ _ _ _ _ _ => (false, default)⟩
  | n + 1 => ⟨qba_next (i_laws_szType := qba_orc n)⟩
theorem qba_none : ∀ xs r, qba_rS (i_laws_szType := qba_orc 0) xs ≠ some (true, r) := by
  intro xs r h
  unfold qba_rS at h
  split at h
  · simp only [Option.some.injEq, Prod.mk.injEq] at h
    exact absurd h.1 (by show ¬(false = true); simp)
  · cases h
theorem qba_good : ∀ n, qba_G (i_laws_szType := qba_orc n) := by
  intro n
  induction n with
  | zero => exact qba_G.mk (i_laws_szType := qba_orc 0) (DOk.also0 d2 qba_none)
  | succ n ih => exact qba_step (i_laws_szType := qba_orc n) (g_laws_szType := ih)
theorem qba_hr : ∀ (n : Nat) (x0 x1 : Int) (x2 x3 : Bool) (x4 x5 x6 x7 : LL) (x8 x9 : Int), max (rowsDep x6) (rowsDep x7) < n ∧ Typed tab (.slice 9) (.l x4) ∧ Typed tab (.slice 2) (.l x5) ∧ Typed tab (.slice 67) (.l x6) ∧ Typed tab (.slice 27) (.l x7) → qba_rc (i_laws_szType := qba_orc n) x0 x1 x2 x3 x4 x5 x6 x7 x8 x9 = true := by
  intro n
  induction n with
  | zero => intro x0 x1 x2 x3 x4 x5 x6 x7 x8 x9 h; exact absurd h.1 (Nat.not_lt_zero _)
  | succ n ih =>
    intro x0 x1 x2 x3 x4 x5 x6 x7 x8 x9 h
    exact qba_nx (i_laws_szType := qba_orc n) (g_laws_szType := qba_good n) n ih x0 x1 x2 x3 x4 x5 x6 x7 x8 x9 h
theorem laws_FnExactClampNumber_pure : ∀ xs, ArgsTyped tab [27, 2] xs → ∃ (D : Dt) (lo : LoopTeller), DOk Go.Proofs.Try.prog tab D ∧ FnLoops tab (fun f => Go.Proofs.Try.prog.funcs[f]?) D live 6 lo ∧ runF tab (fun f => Go.Proofs.Try.prog.funcs[f]?) D live 6 lo xs = yes := by
  intro xs h
  cases h with | cons l0 g0 h =>
  obtain ⟨z0_0, z0_1, z0_2, z0_3, z0_4, z0_5, z0_6, z0_7, z0_8, rfl⟩ := len_9 l0
  have q0 := g0 0 (by decide)
  have q0 : Typed tab (.int .i64) z0_0 := q0
  obtain ⟨y0, rfl⟩ := typed_int q0
  have q1 := g0 1 (by decide)
  have q1 : Typed tab (.int .i64) z0_1 := q1
  obtain ⟨y1, rfl⟩ := typed_int q1
  have q2 := g0 2 (by decide)
  have q2 : Typed tab (.bool) z0_2 := q2
  obtain ⟨y2, rfl⟩ := typed_bool q2
  have q3 := g0 3 (by decide)
  have q3 : Typed tab (.bool) z0_3 := q3
  obtain ⟨y3, rfl⟩ := typed_bool q3
  have q4 := g0 4 (by decide)
  have q4 : Typed tab (.slice 9) z0_4 := q4
  obtain ⟨y4, rfl⟩ := typed_slice q4
  have q5 := g0 5 (by decide)
  have q5 : Typed tab (.slice 2) z0_5 := q5
  obtain ⟨y5, rfl⟩ := typed_slice q5
  have q6 := g0 6 (by decide)
  have q6 : Typed tab (.slice 67) z0_6 := q6
  obtain ⟨y6, rfl⟩ := typed_slice q6
  have q7 := g0 7 (by decide)
  have q7 : Typed tab (.slice 27) z0_7 := q7
  obtain ⟨y7, rfl⟩ := typed_slice q7
  have q8 := g0 8 (by decide)
  have q8 : Typed tab (.int .i64) z0_8 := q8
  obtain ⟨y8, rfl⟩ := typed_int q8
  cases h with | cons l1 g1 h =>
  obtain ⟨z1_0, rfl⟩ := len_1 l1
  have q9 := g1 0 (by decide)
  have q9 : Typed tab (.int .i64) z1_0 := q9
  obtain ⟨y9, rfl⟩ := typed_int q9
  cases h
  letI i_laws_szType : qba_O := qba_orc (rowsDep y4 + rowsDep y5 + rowsDep y6 + rowsDep y7 + 1)
  letI g_laws_szType : qba_G := qba_good (rowsDep y4 + rowsDep y5 + rowsDep y6 + rowsDep y7 + 1)
  letI i_laws_toType : qj_O := ⟨rowsDep y4 + rowsDep y5 + rowsDep y6 + rowsDep y7 + 1⟩
  letI g_laws_toType : qj_G := qj_good (rowsDep y4 + rowsDep y5 + rowsDep y6 + rowsDep y7 + 1)
  letI i_spec_l02Size : qn_O := ⟨rowsDep y4 + rowsDep y5 + rowsDep y6 + rowsDep y7 + 1⟩
  letI g_spec_l02Size : qn_G := qn_good (rowsDep y4 + rowsDep y5 + rowsDep y6 + rowsDep y7 + 1)
  letI i_spec_l02Depth : qf_O := ⟨rowsDep y4 + rowsDep y5 + rowsDep y6 + rowsDep y7 + 1⟩
  letI g_spec_l02Depth : qf_G := qf_good (rowsDep y4 + rowsDep y5 + rowsDep y6 + rowsDep y7 + 1)
  letI i_spec_l02Ok : qbf_O := ⟨rowsDep y4 + rowsDep y5 + rowsDep y6 + rowsDep y7 + 1⟩
  letI g_spec_l02Ok : qbf_G := qbf_good (rowsDep y4 + rowsDep y5 + rowsDep y6 + rowsDep y7 + 1)
  letI i_impl_Type_size : qx_O := ⟨rowsDep y4 + rowsDep y5 + rowsDep y6 + rowsDep y7 + 1⟩
  letI g_impl_Type_size : qx_G := qx_good (rowsDep y4 + rowsDep y5 + rowsDep y6 + rowsDep y7 + 1)
  letI i_impl_SameType : qz_O := ⟨rowsDep y4 + rowsDep y5 + rowsDep y6 + rowsDep y7 + 1⟩
  letI g_impl_SameType : qz_G := qz_good (rowsDep y4 + rowsDep y5 + rowsDep y6 + rowsDep y7 + 1)
  letI i_impl_Type_valid : qt_O := ⟨rowsDep y4 + rowsDep y5 + rowsDep y6 + rowsDep y7 + 1⟩
  letI g_impl_Type_valid : qt_G := qt_good (rowsDep y4 + rowsDep y5 + rowsDep y6 + rowsDep y7 + 1)
  letI i_laws_eqType : qbm_O := ⟨rowsDep y4 + rowsDep y5 + rowsDep y6 + rowsDep y7 + 1⟩
  letI g_laws_eqType : qbm_G := qbm_good (rowsDep y4 + rowsDep y5 + rowsDep y6 + rowsDep y7 + 1)
  refine ⟨D66, noLoops, d66, noLoops_ok, (laws_FnExactClampNumber_e y0 y1 y2 y3 y4 y5 y6 y7 y8 y9).trans ?_⟩
  rw [Tr.run_eq, laws_FnExactClampNumber_p y0 y1 y2 y3 y4 y5 y6 y7 y8 y9 q0 q1 q2 q3 q4 q5 q6 q7 q8 q9 (rowsDep y4 + rowsDep y5 + rowsDep y6 + rowsDep y7 + 1) rfl (qba_hr (rowsDep y4 + rowsDep y5 + rowsDep y6 + rowsDep y7 + 1)) (Nat.le_refl _) (Nat.le_refl _) (Nat.le_refl _) (Nat.le_refl _) (Nat.le_refl _) (Nat.le_refl _) (Nat.le_refl _) (Nat.le_refl _)]
  rfl
end Go.Proofs.Ytdcafhfnkblfkaa.V
