/- What the functions of FnExactNamesInExp answer. No condition. -/
import Derived.Test.YtabdjbkbfilhkaaVFnExactNamesInExpP2
namespace Go.Proofs.Ytabdjbkbfilhkaa.V
open Go
set_option maxRecDepth 100000
set_option linter.unusedVariables false
set_option linter.unusedSectionVars false
set_option linter.unusedSimpArgs false
set_option maxHeartbeats 2000000
noncomputable section
section
variable [i_laws_szExp : qq_O]
variable [g_laws_szExp : qq_G]
section
variable [i_laws_toExp : qc_O]
variable [g_laws_toExp : qc_G]
section
variable [i_spec_l25Size : qh_O]
variable [g_spec_l25Size : qh_G]
section
variable [i_spec_l25Names : qg_O]
variable [g_spec_l25Names : qg_G]
section
variable [i_impl_Exp_count : qd_O]
variable [g_impl_Exp_count : qd_G]
section
variable [i_impl_Exp_names : qf_O]
variable [g_impl_Exp_names : qf_G]
section
variable [i_laws_eqExp : qba_O]
variable [g_laws_eqExp : qba_G]
section
variable [i_laws_markExpS : qe_O]
variable [g_laws_markExpS : qe_G]
theorem laws_FnExactNamesInExp_p (x0 x1 : Int) (x2 : BS) (x3 x4 : LL) (h0 : Typed tab (.int .i64) (.i x0)) (h1 : Typed tab (.int .i64) (.i x1)) (h2 : Typed tab (.str) (.s x2)) (h3 : Typed tab (.slice 25) (.l x3)) (h4 : Typed tab (.slice 61) (.l x4)) (NN : Nat) (eN : NN = rowsDep x3 + rowsDep x4 + 1) (r_laws_szExp : ∀ (x0 x1 : Int) (x2 : BS) (x3 x4 : LL) (x5 : Int), rowsDep x3 < NN ∧ Typed tab (.slice 25) (.l x3) ∧ Typed tab (.slice 61) (.l x4) → (qq_rc x0 x1 x2 x3 x4 x5) = true) (b_laws_szExp : ∀ (x0 x1 : Int) (x2 : BS) (x3 x4 : LL) (x5 : Int), rowsDep x3 < NN ∧ Typed tab (.slice 25) (.l x3) ∧ Typed tab (.slice 61) (.l x4) → Typed tab .str (.s x2) → 0 ≤ x5 → x5 ≤ 1048576 → 0 ≤ qq_rv x0 x1 x2 x3 x4 x5 → qq_rv x0 x1 x2 x3 x4 x5 ≤ x5 ∧ (kdE x3 : Int) ≤ x5 ∧ 3 * qq_rv x0 x1 x2 x3 x4 x5 + (cnX x3 : Int) + 3 * (x4.length : Int) ≤ 3 * x5) (n_laws_toExp : NN ≤ qc_O.n) (n_spec_l25Size : NN ≤ qh_O.n) (n_spec_l25Names : NN ≤ qg_O.n) (n_impl_Exp_count : NN ≤ qd_O.n) (n_impl_Exp_names : NN ≤ qf_O.n) (n_laws_eqExp : NN ≤ qba_O.n) (n_laws_markExpS : NN ≤ qe_O.n) : (laws_FnExactNamesInExp_t x0 x1 x2 x3 x4).val = some true := by
  have t3_31 := qy_ty h3
  have t4_59 := qu_ty h4
  obtain ⟨i3, i4⟩ := tyArgsExp h3 h4
  unfold laws_FnExactNamesInExp_t
  simp only [show qc_rv x0 x1 x2 x3 x4 = (x0, x1, x2, x3, x4) from rfl]
  refine Tr.t (by first | (exact r_laws_szExp _ _ _ _ _ _ ⟨by omega, h3, h4⟩)) ?_
  refine Tr.yk (fun hk0 => ?_)
  refine Tr.t (by first | (exact is_true ⟨by omega, h3, h4⟩)) ?_
  refine Tr.t (by first | (exact andT (is_true ⟨by show rowsDep x3 < _; omega, i3, i4, h2, (by have hb := b_laws_szExp x0 x1 x2 x3 x4 1048576 ⟨by omega, h3, h4⟩ h2 (by decide) (by decide) (by have hk := hk0; simp only [decide_eq_true_eq] at hk; omega); show kdE x3 ≤ 1048576; omega)⟩) (bifT (fun _ => rfl) fun b => andT (is_true ⟨by show rowsDep x3 < _; omega, i3, by have hv : decide (szE x0 x1 x2 x3 x4 ≤ 40) = true := (by have b2 : qbj_v x0 x1 x2 x3 x4 = true := (by simpa using b); exact b2); rw [sz_valid] at hv; have := (cnt_parts hv).2; show 0 + numE x3 ≤ 40000; omega⟩) rfl))) ?_
  refine Tr.t (by first | (exact is_true ⟨by omega, h3, h4⟩)) ?_
  refine Tr.t (by first | (exact andT (is_true ⟨by omega, i3, i4, h2, by decide, by decide⟩) (bifT (fun _ => rfl) fun b => (have hv : (cntV x0 x1 x2 x3 x4 40).2 = true := (by have b2 : qbn_v x0 x1 x2 x3 x4 = true := (by simpa using b); exact b2); have hn := (cnt_parts hv).2; have hl := (nmS_len (k := x0) (tx := x2) (K := x3)).2; andT (is_true ⟨by omega, i3, by omega⟩) (andT (is_true (by show (nmE x0 x2 x3).length ≤ _; omega)) (andT (is_true (by show (rowsOf TC.s ((elems TC.str (nmE x0 x2 x3)).mergeSort fun x y => decide (x ≤ y))).length ≤ _; unfold rowsOf; rw [List.length_map, List.length_mergeSort]; unfold elems; rw [List.length_map]; omega)) rfl)))))) ?_
  refine Tr.t (by first | (rw [impl_nm, spec_nm]; exact is_true ⟨rfl, (nmV_ty h2 i3).1⟩)) ?_
  refine Tr.n (by first | (exact eqExp_rv) | (rw [impl_nm, spec_nm]; first | (simp; done) | (simp [qr_v]; done)) | (show ¬ decide ((mkX x3 1).2 + 3 * (x4.length : Int) < 0) = true; rw [mark_sum]; simp only [decide_eq_true_eq]; omega) | (rw [qk_vm]; first | (simp; done) | (rw [qi_v2]; simp; omega))) ?_
  refine Tr.t (by first | (exact is_true ⟨by omega, h3, h4⟩)) ?_
  refine Tr.t (by first | (exact is_true ⟨by omega, rfl, rfl, rfl, rfl, rfl, i3, i4⟩)) ?_
  refine Tr.n (by first | (exact eqExp_rv) | (rw [impl_nm, spec_nm]; first | (simp; done) | (simp [qr_v]; done)) | (show ¬ decide ((mkX x3 1).2 + 3 * (x4.length : Int) < 0) = true; rw [mark_sum]; simp only [decide_eq_true_eq]; omega) | (rw [qk_vm]; first | (simp; done) | (rw [qi_v2]; simp; omega))) ?_
  refine Tr.t (by first | (have hk := hk0; simp only [decide_eq_true_eq] at hk; have hb := b_laws_szExp x0 x1 x2 x3 x4 1048576 ⟨by omega, h3, h4⟩ h2 (by decide) (by decide) (by omega); exact is_true ⟨is_true ⟨by omega, i3, by decide, by omega⟩, by show qo_c x4 (mkX x3 1).2 = true; rw [mark_sum]; exact qo_cc i4 (by omega) (by omega) (by omega)⟩)) ?_
  refine Tr.n (by first | (exact eqExp_rv) | (rw [impl_nm, spec_nm]; first | (simp; done) | (simp [qr_v]; done)) | (show ¬ decide ((mkX x3 1).2 + 3 * (x4.length : Int) < 0) = true; rw [mark_sum]; simp only [decide_eq_true_eq]; omega) | (rw [qk_vm]; first | (simp; done) | (rw [qi_v2]; simp; omega))) ?_
  refine Tr.t (by first | (rw [impl_nm, spec_nm]; exact is_true ⟨rfl, (nmV_ty h2 i3).1⟩)) ?_
  refine Tr.n (by first | (exact eqExp_rv) | (rw [impl_nm, spec_nm]; first | (simp; done) | (simp [qr_v]; done)) | (show ¬ decide ((mkX x3 1).2 + 3 * (x4.length : Int) < 0) = true; rw [mark_sum]; simp only [decide_eq_true_eq]; omega) | (rw [qk_vm]; first | (simp; done) | (rw [qi_v2]; simp; omega))) ?_
  refine Tr.t (by first | (rw [impl_nm]; exact qi_cc (nmV_ty h2 i3).1 (by have := (nmV_ty (k := x0) (n := x1) (R := x4) h2 i3).2; omega) (by decide) (by decide))) ?_
  refine Tr.t (by first | (rw [impl_nm]; exact qk_cc (by have := (nmV_ty (k := x0) (n := x1) (R := x4) h2 i3).2; omega) (by decide) (by decide))) ?_
  refine Tr.n (by first | (exact eqExp_rv) | (rw [impl_nm, spec_nm]; first | (simp; done) | (simp [qr_v]; done)) | (show ¬ decide ((mkX x3 1).2 + 3 * (x4.length : Int) < 0) = true; rw [mark_sum]; simp only [decide_eq_true_eq]; omega) | (rw [qk_vm]; first | (simp; done) | (rw [qi_v2]; simp; omega))) ?_
  refine Tr.n (by first | (exact eqExp_rv) | (rw [impl_nm, spec_nm]; first | (simp; done) | (simp [qr_v]; done)) | (show ¬ decide ((mkX x3 1).2 + 3 * (x4.length : Int) < 0) = true; rw [mark_sum]; simp only [decide_eq_true_eq]; omega) | (rw [qk_vm]; first | (simp; done) | (rw [qi_v2]; simp; omega))) ?_
  refine Tr.t (by first | (exact is_true ⟨by omega, h3, h4⟩)) ?_
  refine Tr.t (by first | (exact andT (is_true ⟨by omega, i3, i4, h2, by decide, by decide⟩) (bifT (fun _ => rfl) fun b => (have hv : (cntV x0 x1 x2 x3 x4 40).2 = true := (by have b2 : qbn_v x0 x1 x2 x3 x4 = true := (by simpa using b); exact b2); have hn := (cnt_parts hv).2; have hl := (nmS_len (k := x0) (tx := x2) (K := x3)).2; andT (is_true ⟨by omega, i3, by omega⟩) (andT (is_true (by show (nmE x0 x2 x3).length ≤ _; omega)) (andT (is_true (by show (rowsOf TC.s ((elems TC.str (nmE x0 x2 x3)).mergeSort fun x y => decide (x ≤ y))).length ≤ _; unfold rowsOf; rw [List.length_map, List.length_mergeSort]; unfold elems; rw [List.length_map]; omega)) rfl)))))) ?_
  refine Tr.t (by first | (rw [impl_nm, spec_nm]; exact is_true ⟨rfl, (nmV_ty h2 i3).1⟩)) ?_
  refine Tr.n (by first | (exact eqExp_rv) | (rw [impl_nm, spec_nm]; first | (simp; done) | (simp [qr_v]; done)) | (show ¬ decide ((mkX x3 1).2 + 3 * (x4.length : Int) < 0) = true; rw [mark_sum]; simp only [decide_eq_true_eq]; omega) | (rw [qk_vm]; first | (simp; done) | (rw [qi_v2]; simp; omega))) ?_
  refine Tr.t (by first | (rw [impl_nm]; exact qk_cc (by have := (nmV_ty (k := x0) (n := x1) (R := x4) h2 i3).2; omega) (by decide) (by decide))) ?_
  refine Tr.n (by first | (exact eqExp_rv) | (rw [impl_nm, spec_nm]; first | (simp; done) | (simp [qr_v]; done)) | (show ¬ decide ((mkX x3 1).2 + 3 * (x4.length : Int) < 0) = true; rw [mark_sum]; simp only [decide_eq_true_eq]; omega) | (rw [qk_vm]; first | (simp; done) | (rw [qi_v2]; simp; omega))) ?_
  refine Tr.n (by first | (exact eqExp_rv) | (rw [impl_nm, spec_nm]; first | (simp; done) | (simp [qr_v]; done)) | (show ¬ decide ((mkX x3 1).2 + 3 * (x4.length : Int) < 0) = true; rw [mark_sum]; simp only [decide_eq_true_eq]; omega) | (rw [qk_vm]; first | (simp; done) | (rw [qi_v2]; simp; omega))) ?_
  rfl
end
theorem qe_none : ∀ xs r, qe_rS (i_laws_markExpS := ⟨0⟩) xs ≠ some (true, r) := by
  intro xs r h
  unfold qe_rS at h
  split at h
  · simp only [Option.some.injEq, Prod.mk.injEq] at h
    have h1 := is_iff.1 h.1
    exact absurd h1.1 (Nat.not_lt_zero _)
  · cases h
theorem qe_good : ∀ n : Nat, qe_G (i_laws_markExpS := ⟨n⟩) := by
  intro n
  induction n with
  | zero => exact qe_G.mk (i_laws_markExpS := ⟨0⟩) (DOk.also0W d44 qe_none)
  | succ n ih => exact qe_step (i_laws_markExpS := ⟨n⟩) (g_laws_markExpS := ih)
end
theorem qba_none : ∀ xs r, qba_rS (i_laws_eqExp := ⟨0⟩) xs ≠ some (true, r) := by
  intro xs r h
  unfold qba_rS at h
  split at h
  · simp only [Option.some.injEq, Prod.mk.injEq] at h
    have h1 := is_iff.1 h.1
    exact absurd h1.1 (Nat.not_lt_zero _)
  · cases h
theorem qba_good : ∀ n : Nat, qba_G (i_laws_eqExp := ⟨n⟩) := by
  intro n
  induction n with
  | zero => exact qba_G.mk (i_laws_eqExp := ⟨0⟩) (DOk.also0 d38 qba_none)
  | succ n ih => exact qba_step (i_laws_eqExp := ⟨n⟩) (g_laws_eqExp := ih)
end
theorem qf_none : ∀ xs r, qf_rS (i_impl_Exp_names := ⟨0⟩) xs ≠ some (true, r) := by
  intro xs r h
  unfold qf_rS at h
  split at h
  · simp only [Option.some.injEq, Prod.mk.injEq] at h
    have h1 := is_iff.1 h.1
    exact absurd h1.1 (Nat.not_lt_zero _)
  · cases h
theorem qf_good : ∀ n : Nat, qf_G (i_impl_Exp_names := ⟨n⟩) := by
  intro n
  induction n with
  | zero => exact qf_G.mk (i_impl_Exp_names := ⟨0⟩) (DOk.also0 d33 qf_none)
  | succ n ih => exact qf_step (i_impl_Exp_names := ⟨n⟩) (g_impl_Exp_names := ih)
end
theorem qd_none : ∀ xs r, qd_rS (i_impl_Exp_count := ⟨0⟩) xs ≠ some (true, r) := by
  intro xs r h
  unfold qd_rS at h
  split at h
  · simp only [Option.some.injEq, Prod.mk.injEq] at h
    have h1 := is_iff.1 h.1
    exact absurd h1.1 (Nat.not_lt_zero _)
  · cases h
theorem qd_good : ∀ n : Nat, qd_G (i_impl_Exp_count := ⟨n⟩) := by
  intro n
  induction n with
  | zero => exact qd_G.mk (i_impl_Exp_count := ⟨0⟩) (DOk.also0 d31 qd_none)
  | succ n ih => exact qd_step (i_impl_Exp_count := ⟨n⟩) (g_impl_Exp_count := ih)
end
theorem qg_none : ∀ xs r, qg_rS (i_spec_l25Names := ⟨0⟩) xs ≠ some (true, r) := by
  intro xs r h
  unfold qg_rS at h
  split at h
  · simp only [Option.some.injEq, Prod.mk.injEq] at h
    have h1 := is_iff.1 h.1
    exact absurd h1.1 (Nat.not_lt_zero _)
  · cases h
theorem qg_good : ∀ n : Nat, qg_G (i_spec_l25Names := ⟨n⟩) := by
  intro n
  induction n with
  | zero => exact qg_G.mk (i_spec_l25Names := ⟨0⟩) (DOk.also0W d17 qg_none)
  | succ n ih => exact qg_step (i_spec_l25Names := ⟨n⟩) (g_spec_l25Names := ih)
end
theorem qh_none : ∀ xs r, qh_rS (i_spec_l25Size := ⟨0⟩) xs ≠ some (true, r) := by
  intro xs r h
  unfold qh_rS at h
  split at h
  · simp only [Option.some.injEq, Prod.mk.injEq] at h
    have h1 := is_iff.1 h.1
    exact absurd h1.1 (Nat.not_lt_zero _)
  · cases h
theorem qh_good : ∀ n : Nat, qh_G (i_spec_l25Size := ⟨n⟩) := by
  intro n
  induction n with
  | zero => exact qh_G.mk (i_spec_l25Size := ⟨0⟩) (DOk.also0 d14 qh_none)
  | succ n ih => exact qh_step (i_spec_l25Size := ⟨n⟩) (g_spec_l25Size := ih)
end
theorem qc_none : ∀ xs r, qc_rS (i_laws_toExp := ⟨0⟩) xs ≠ some (true, r) := by
  intro xs r h
  unfold qc_rS at h
  split at h
  · simp only [Option.some.injEq, Prod.mk.injEq] at h
    have h1 := is_iff.1 h.1
    exact absurd h1.1 (Nat.not_lt_zero _)
  · cases h
theorem qc_good : ∀ n : Nat, qc_G (i_laws_toExp := ⟨n⟩) := by
  intro n
  induction n with
  | zero => exact qc_G.mk (i_laws_toExp := ⟨0⟩) (DOk.also0 d3 qc_none)
  | succ n ih => exact qc_step (i_laws_toExp := ⟨n⟩) (g_laws_toExp := ih)
end
@[reducible] noncomputable def qq_orc : Nat → qq_O
  | 0 => ⟨fun _ _ _ _ _ _ => (false, default)⟩
  | n + 1 => ⟨qq_next (i_laws_szExp := qq_orc n)⟩
theorem qq_none : ∀ xs r, qq_rS (i_laws_szExp := qq_orc 0) xs ≠ some (true, r) := by
  intro xs r h
  unfold qq_rS at h
  split at h
  · simp only [Option.some.injEq, Prod.mk.injEq] at h
    exact absurd h.1 (by show ¬(false = true); simp)
  · cases h
theorem qq_good : ∀ n, qq_G (i_laws_szExp := qq_orc n) := by
  intro n
  induction n with
  | zero => exact qq_G.mk (i_laws_szExp := qq_orc 0) (DOk.also0 d0 qq_none)
  | succ n ih => exact qq_step (i_laws_szExp := qq_orc n) (g_laws_szExp := ih)
theorem qq_hr : ∀ (n : Nat) (x0 x1 : Int) (x2 : BS) (x3 x4 : LL) (x5 : Int), rowsDep x3 < n ∧ Typed tab (.slice 25) (.l x3) ∧ Typed tab (.slice 61) (.l x4) → qq_rc (i_laws_szExp := qq_orc n) x0 x1 x2 x3 x4 x5 = true := by
  intro n
  induction n with
  | zero => intro x0 x1 x2 x3 x4 x5 h; exact absurd h.1 (Nat.not_lt_zero _)
  | succ n ih =>
    intro x0 x1 x2 x3 x4 x5 h
    exact qq_nx (i_laws_szExp := qq_orc n) (g_laws_szExp := qq_good n) n ih x0 x1 x2 x3 x4 x5 h
theorem qq_bd : ∀ n : Nat, ∀ (x0 x1 : Int) (x2 : BS) (x3 x4 : LL) (x5 : Int), rowsDep x3 < n ∧ Typed tab (.slice 25) (.l x3) ∧ Typed tab (.slice 61) (.l x4) → Typed tab .str (.s x2) → 0 ≤ x5 → x5 ≤ 1048576 → 0 ≤ qq_rv (i_laws_szExp := qq_orc n) x0 x1 x2 x3 x4 x5 → qq_rv (i_laws_szExp := qq_orc n) x0 x1 x2 x3 x4 x5 ≤ x5 ∧ (kdE x3 : Int) ≤ x5 ∧ 3 * qq_rv (i_laws_szExp := qq_orc n) x0 x1 x2 x3 x4 x5 + (cnX x3 : Int) + 3 * (x4.length : Int) ≤ 3 * x5 := by
  intro n
  induction n with
  | zero => intro x0 x1 x2 x3 x4 x5 h; exact absurd h.1 (Nat.not_lt_zero _)
  | succ n ih =>
    intro x0 x1 x2 x3 x4 x5 h ht h0 h1 hv
    exact qq_bs (i_laws_szExp := qq_orc n) (g_laws_szExp := qq_good n) n (qq_hr n) ih x0 x1 x2 x3 x4 x5 h ht h0 h1 hv
theorem laws_FnExactNamesInExp_pure : ∀ xs, ArgsTyped tab [25] xs → ∃ (D : Dt) (lo : LoopTeller), DOk Go.Proofs.Try.prog tab D ∧ FnLoops tab (fun f => Go.Proofs.Try.prog.funcs[f]?) D live 4 lo ∧ runF tab (fun f => Go.Proofs.Try.prog.funcs[f]?) D live 4 lo xs = yes := by
  intro xs h
  cases h with | cons l0 g0 h =>
  obtain ⟨z0_0, z0_1, z0_2, z0_3, z0_4, rfl⟩ := len_5 l0
  have q0 := g0 0 (by decide)
  have q0 : Typed tab (.int .i64) z0_0 := q0
  obtain ⟨y0, rfl⟩ := typed_int q0
  have q1 := g0 1 (by decide)
  have q1 : Typed tab (.int .i64) z0_1 := q1
  obtain ⟨y1, rfl⟩ := typed_int q1
  have q2 := g0 2 (by decide)
  have q2 : Typed tab (.str) z0_2 := q2
  obtain ⟨y2, rfl⟩ := typed_str q2
  have q3 := g0 3 (by decide)
  have q3 : Typed tab (.slice 25) z0_3 := q3
  obtain ⟨y3, rfl⟩ := typed_slice q3
  have q4 := g0 4 (by decide)
  have q4 : Typed tab (.slice 61) z0_4 := q4
  obtain ⟨y4, rfl⟩ := typed_slice q4
  cases h
  letI i_laws_szExp : qq_O := qq_orc (rowsDep y3 + rowsDep y4 + 1)
  letI g_laws_szExp : qq_G := qq_good (rowsDep y3 + rowsDep y4 + 1)
  letI i_laws_toExp : qc_O := ⟨rowsDep y3 + rowsDep y4 + 1⟩
  letI g_laws_toExp : qc_G := qc_good (rowsDep y3 + rowsDep y4 + 1)
  letI i_spec_l25Size : qh_O := ⟨rowsDep y3 + rowsDep y4 + 1⟩
  letI g_spec_l25Size : qh_G := qh_good (rowsDep y3 + rowsDep y4 + 1)
  letI i_spec_l25Names : qg_O := ⟨rowsDep y3 + rowsDep y4 + 1⟩
  letI g_spec_l25Names : qg_G := qg_good (rowsDep y3 + rowsDep y4 + 1)
  letI i_impl_Exp_count : qd_O := ⟨rowsDep y3 + rowsDep y4 + 1⟩
  letI g_impl_Exp_count : qd_G := qd_good (rowsDep y3 + rowsDep y4 + 1)
  letI i_impl_Exp_names : qf_O := ⟨rowsDep y3 + rowsDep y4 + 1⟩
  letI g_impl_Exp_names : qf_G := qf_good (rowsDep y3 + rowsDep y4 + 1)
  letI i_laws_eqExp : qba_O := ⟨rowsDep y3 + rowsDep y4 + 1⟩
  letI g_laws_eqExp : qba_G := qba_good (rowsDep y3 + rowsDep y4 + 1)
  letI i_laws_markExpS : qe_O := ⟨rowsDep y3 + rowsDep y4 + 1⟩
  letI g_laws_markExpS : qe_G := qe_good (rowsDep y3 + rowsDep y4 + 1)
  refine ⟨D48, noLoops, d48, noLoops_ok, (laws_FnExactNamesInExp_e y0 y1 y2 y3 y4).trans ?_⟩
  rw [Tr.run_eq, laws_FnExactNamesInExp_p y0 y1 y2 y3 y4 q0 q1 q2 q3 q4 (rowsDep y3 + rowsDep y4 + 1) rfl (qq_hr (rowsDep y3 + rowsDep y4 + 1)) (qq_bd (rowsDep y3 + rowsDep y4 + 1)) (Nat.le_refl _) (Nat.le_refl _) (Nat.le_refl _) (Nat.le_refl _) (Nat.le_refl _) (Nat.le_refl _) (Nat.le_refl _)]
  rfl
end
end Go.Proofs.Ytabdjbkbfilhkaa.V
