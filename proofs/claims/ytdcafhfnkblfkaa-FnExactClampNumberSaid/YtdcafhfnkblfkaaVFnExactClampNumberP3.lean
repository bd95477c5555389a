/- What the functions of FnExactClampNumber answer. No condition. -/
import Derived.Test.YtdcafhfnkblfkaaVFnExactClampNumberP2
namespace Go.Proofs.Ytdcafhfnkblfkaa.V
open Go
set_option maxRecDepth 100000
set_option linter.unusedVariables false
set_option linter.unusedSectionVars false
set_option linter.unusedSimpArgs false
set_option maxHeartbeats 2000000
section
variable [i_laws_szType : qba_O]
variable [g_laws_szType : qba_G]
section
variable [i_laws_toType : qj_O]
variable [g_laws_toType : qj_G]
section
variable [i_spec_l02Size : qn_O]
variable [g_spec_l02Size : qn_G]
section
variable [i_spec_l02Depth : qf_O]
variable [g_spec_l02Depth : qf_G]
section
variable [i_spec_l02Ok : qbf_O]
variable [g_spec_l02Ok : qbf_G]
theorem qbz_s : ∀ xs r, qbz_S xs = some (true, r) → runF tab FT D27 live 86 noLoops xs = some r := by
  intro xs r h
  unfold qbz_S at h
  split at h
  · simp only [Option.some.injEq, Prod.mk.injEq] at h
    obtain ⟨h1, rfl⟩ := h
    exact fun_told (qbz_e _ _ _ _ _ _ _ _ _) (qbz_l _ _ _ _ _ _ _ _ _) h1
  · cases h
noncomputable def D28 : Dt := also D27 86 qbz_S
theorem d28 : DOk Go.Proofs.Try.prog tab D28 := d27.also mixed_ok tab_ok names_ok noLoops_ok qbz_s
theorem qbz_ok {k s : Int} {sg bg : Bool} {NA NU ME BA : LL} {ct : Int} (h : okV k s sg bg NA NU ME BA ct = true) (hn : numK k = true) : qbj_c k s sg bg NA NU ME BA ct = true ∧ (qbj_v k s sg bg NA NU ME BA ct).2.2.2.2.2.2.2.2.2 = true ∧ qbz_c k s sg bg NA NU ME BA ct = true ∧ qbz_v k s sg bg NA NU ME BA ct = rangeT k s sg NU := by
  rcases okV_kind h with rfl | rfl | rfl | rfl | rfl | rfl
  · have hI := okV_int h
    refine ⟨rfl, rfl, ?_, ?_⟩
    · show (true && (qw_c 1 s sg bg NA NU ME BA ct && true)) = true
      rw [qw_cc]; rfl
    · show ((qw_v 1 s sg bg NA NU ME BA ct).1, (qw_v 1 s sg bg NA NU ME BA ct).2) = (loV s sg, hiV s sg)
      rw [(range_lo hI).1, (range_lo hI).2]
  · cases hn
  · obtain ⟨e1, e2, -, e3, -⟩ := okV_enum h
    have hw : IntKind.wrap .i64 ((NU.length : Int) - (1 : Int)) = (NU.length : Int) - 1 := wrap64 (by omega) (by omega)
    refine ⟨?_, rfl, ?_, rfl⟩
    · show (is ((0 : Int) ≤ (0 : Int) ∧ (0 : Int) < (BA.length : Int)) && true) = true
      exact andT (is_true ⟨by omega, by omega⟩) rfl
    · show (is ((0 : Int) ≤ (0 : Int) ∧ (0 : Int) < (NU.length : Int)) && (is ((0 : Int) ≤ (IntKind.wrap .i64 ((NU.length : Int) - (1 : Int))) ∧ (IntKind.wrap .i64 ((NU.length : Int) - (1 : Int))) < (NU.length : Int)) && true)) = true
      rw [hw]
      exact andT (is_true ⟨by omega, by omega⟩) (andT (is_true ⟨by omega, by omega⟩) rfl)
  · cases hn
  · cases hn
  · refine ⟨rfl, rfl, ?_, ?_⟩
    · show (true && (qw_c 1 2 false false [] [] [] [] 0 && true)) = true
      rw [qw_cc]; rfl
    · show ((qw_v 1 2 false false [] [] [] [] 0).1, (qw_v 1 2 false false [] [] [] [] 0).2) = (0, 65535)
      unfold qw_v
      decide
theorem qbj_no {k s : Int} {sg bg : Bool} {NA NU ME BA : LL} {ct : Int} (hn : numK k = false) : qbj_c k s sg bg NA NU ME BA ct = true ∧ (qbj_v k s sg bg NA NU ME BA ct).2.2.2.2.2.2.2.2.2 = false := by
  unfold numK at hn
  unfold qbj_c qbj_v
  cases h1 : (k == 1) <;> cases h3 : (k == 3) <;> cases h6 : (k == 6) <;> rw [h1, h3, h6] at hn <;> first | (cases hn; done) | exact ⟨rfl, rfl⟩
noncomputable def qcn_t (a0 a1 : Int) : Tr (Int) := (.ite ((decide (a0 < a1)) = true) (.ok a0)
  (.ok a1))
def qcn_mk (p : Int) : Res := [(false, [⟨.int .i64, .sh, TC.i p⟩])]
noncomputable def qcn_c (a0 a1 : Int) : Bool := true
noncomputable def qcn_v (a0 a1 : Int) : Int := (bif (decide (a0 < a1)) then a0 else a1)
theorem qcn_l (a0 a1 : Int) : (qcn_c a0 a1) = true → (qcn_t a0 a1).val = some (qcn_v a0 a1) := by
  intro h
  skip
  unfold qcn_t qcn_v
  exact (Tr.s rfl rfl)
noncomputable def qcn_S : List Arg → Option (Bool × Res) := fun xs => match xs with
  | [(false, [(.int .i64, TC.i a0)]), (false, [(.int .i64, TC.i a1)])] => some (true, qcn_mk (qcn_v a0 a1))
  | _ => .none
theorem qcn_e (a0 a1 : Int) : runF tab FT D28 live 88 noLoops [(false, [(.int .i64, TC.i a0)]), (false, [(.int .i64, TC.i a1)])] = (qcn_t a0 a1).run fun p => some (qcn_mk p) := by kernel_rfl
theorem qcn_s : ∀ xs r, qcn_S xs = some (true, r) → runF tab FT D28 live 88 noLoops xs = some r := by
  intro xs r h
  unfold qcn_S at h
  split at h
  · simp only [Option.some.injEq, Prod.mk.injEq] at h
    obtain ⟨h1, rfl⟩ := h
    exact fun_told (qcn_e _ _) (qcn_l _ _) rfl
  · cases h
noncomputable def D29 : Dt := also D28 88 qcn_S
theorem d29 : DOk Go.Proofs.Try.prog tab D29 := d28.also mixed_ok tab_ok names_ok noLoops_ok qcn_s
noncomputable def qu_f7 (m k s : Int) (sg bg : Bool) (NA NU ME BA : LL) (ct i best : Int) : (Int) ⊕ ((Int × Int × Bool × Bool × LL × LL × LL × LL × Int × Int)) := (bif (decide ((nth (row NU i) 0).int ≤ m)) then (.inl ((nth (row NU i) 0).int)) else (bif (decide ((IntKind.wrap .u64 ((IntKind.wrap .u64 ((nth (row NU i) 0).int)) - (IntKind.wrap .u64 m))) < (IntKind.wrap .u64 ((IntKind.wrap .u64 m) - (IntKind.wrap .u64 best))))) then (.inr (k, s, sg, bg, NA, NU, ME, BA, ct, (nth (row NU i) 0).int)) else (.inr (k, s, sg, bg, NA, NU, ME, BA, ct, best))))
noncomputable def qu_e7 (m k s : Int) (sg bg : Bool) (NA NU ME BA : LL) (ct best : Int) : (Int × Int × Bool × Bool × LL × LL × LL × LL × Int × Int) := (k, s, sg, bg, NA, NU, ME, BA, ct, best)
noncomputable def qu_R7 (m k s : Int) (sg bg : Bool) (NA NU ME BA : LL) (ct best i : Int) : (Int × Int × Bool × Bool × LL × LL × LL × LL × Int × Int) := iter (fun i a => (qu_f7 m k s sg bg NA NU ME BA ct (i : Int) a)) (fun a => (qu_e7 m k s sg bg NA NU ME BA ct a)) (NU.length) 0 best
abbrev qu_7_σ := Int × Int × Int × Bool × Bool × LL × LL × LL × LL × Int × Int × Int
abbrev qu_7_ω := (Int × Int × Bool × Bool × LL × LL × LL × LL × Int × Int)
noncomputable def qu_7_step (m k s : Int) (sg bg : Bool) (NA NU ME BA : LL) (ct best i : Int) : Tr (qu_7_σ ⊕ qu_7_ω) := (.ite ((decide (i < (NU.length : Int))) = true) (.ite ((0 : Int) ≤ i ∧ i < (NU.length : Int)) (.ite ((decide ((nth (row NU i) 0).int ≤ m)) = true) (.ok (.inl (m, k, s, sg, bg, NA, NU, ME, BA, ct, (nth (row NU i) 0).int, (IntKind.wrap .i64 (i + (1 : Int))))))
    (.ite ((decide ((IntKind.wrap .u64 ((IntKind.wrap .u64 ((nth (row NU i) 0).int)) - (IntKind.wrap .u64 m))) < (IntKind.wrap .u64 ((IntKind.wrap .u64 m) - (IntKind.wrap .u64 best))))) = true) (.ok (.inr (k, s, sg, bg, NA, NU, ME, BA, ct, (nth (row NU i) 0).int)))
     (.ok (.inr (k, s, sg, bg, NA, NU, ME, BA, ct, best)))))
   .no)
  (.ok (.inr (k, s, sg, bg, NA, NU, ME, BA, ct, best))))
noncomputable def qu_7_st : qu_7_σ → Tr (qu_7_σ ⊕ qu_7_ω) := fun x => (qu_7_step (x.1) (x.2.1) (x.2.2.1) (x.2.2.2.1) (x.2.2.2.2.1) (x.2.2.2.2.2.1) (x.2.2.2.2.2.2.1) (x.2.2.2.2.2.2.2.1) (x.2.2.2.2.2.2.2.2.1) (x.2.2.2.2.2.2.2.2.2.1) (x.2.2.2.2.2.2.2.2.2.2.1) (x.2.2.2.2.2.2.2.2.2.2.2))
noncomputable def qu_o7_1 (m k s : Int) (sg bg : Bool) (NA NU ME BA : LL) (ct best i : Int) : Bool := is (i = 0 ∧ NU.length ≤ 140737488355328)
noncomputable def qu_u7_1_0 (m k s : Int) (sg bg : Bool) (NA NU ME BA : LL) (ct best i : Int) : Int := (qu_R7 m k s sg bg NA NU ME BA ct best i).1
noncomputable def qu_u7_1_1 (m k s : Int) (sg bg : Bool) (NA NU ME BA : LL) (ct best i : Int) : Int := (qu_R7 m k s sg bg NA NU ME BA ct best i).2.1
noncomputable def qu_u7_1_2 (m k s : Int) (sg bg : Bool) (NA NU ME BA : LL) (ct best i : Int) : Bool := (qu_R7 m k s sg bg NA NU ME BA ct best i).2.2.1
noncomputable def qu_u7_1_3 (m k s : Int) (sg bg : Bool) (NA NU ME BA : LL) (ct best i : Int) : Bool := (qu_R7 m k s sg bg NA NU ME BA ct best i).2.2.2.1
noncomputable def qu_u7_1_4 (m k s : Int) (sg bg : Bool) (NA NU ME BA : LL) (ct best i : Int) : LL := (qu_R7 m k s sg bg NA NU ME BA ct best i).2.2.2.2.1
noncomputable def qu_u7_1_5 (m k s : Int) (sg bg : Bool) (NA NU ME BA : LL) (ct best i : Int) : LL := (qu_R7 m k s sg bg NA NU ME BA ct best i).2.2.2.2.2.1
noncomputable def qu_u7_1_6 (m k s : Int) (sg bg : Bool) (NA NU ME BA : LL) (ct best i : Int) : LL := (qu_R7 m k s sg bg NA NU ME BA ct best i).2.2.2.2.2.2.1
noncomputable def qu_u7_1_7 (m k s : Int) (sg bg : Bool) (NA NU ME BA : LL) (ct best i : Int) : LL := (qu_R7 m k s sg bg NA NU ME BA ct best i).2.2.2.2.2.2.2.1
noncomputable def qu_u7_1_8 (m k s : Int) (sg bg : Bool) (NA NU ME BA : LL) (ct best i : Int) : Int := (qu_R7 m k s sg bg NA NU ME BA ct best i).2.2.2.2.2.2.2.2.1
noncomputable def qu_u7_1_9 (m k s : Int) (sg bg : Bool) (NA NU ME BA : LL) (ct best i : Int) : Int := (qu_R7 m k s sg bg NA NU ME BA ct best i).2.2.2.2.2.2.2.2.2
noncomputable def qu_7_fin (m k s : Int) (sg bg : Bool) (NA NU ME BA : LL) (ct best i : Int) : Told qu_7_ω := (.leaf (qu_o7_1 m k s sg bg NA NU ME BA ct best i) ((qu_u7_1_0 m k s sg bg NA NU ME BA ct best i), (qu_u7_1_1 m k s sg bg NA NU ME BA ct best i), (qu_u7_1_2 m k s sg bg NA NU ME BA ct best i), (qu_u7_1_3 m k s sg bg NA NU ME BA ct best i), (qu_u7_1_4 m k s sg bg NA NU ME BA ct best i), (qu_u7_1_5 m k s sg bg NA NU ME BA ct best i), (qu_u7_1_6 m k s sg bg NA NU ME BA ct best i), (qu_u7_1_7 m k s sg bg NA NU ME BA ct best i), (qu_u7_1_8 m k s sg bg NA NU ME BA ct best i), (qu_u7_1_9 m k s sg bg NA NU ME BA ct best i)))
def qu_7_sl (x : qu_7_σ) : List Slot := [⟨.val false [⟨.int .i64, .sh, TC.i (x.1)⟩], ⟨0, 0⟩⟩, ⟨.bx 32 [⟨.int .i64, .sh, TC.i (x.2.1)⟩, ⟨.int .i64, .sh, TC.i (x.2.2.1)⟩, ⟨.bool, .sh, TC.b (x.2.2.2.1)⟩, ⟨.bool, .sh, TC.b (x.2.2.2.2.1)⟩, ⟨.slice 9, .sh, TC.l (x.2.2.2.2.2.1)⟩, ⟨.slice 2, .sh, TC.l (x.2.2.2.2.2.2.1)⟩, ⟨.slice 71, .sh, TC.l (x.2.2.2.2.2.2.2.1)⟩, ⟨.slice 32, .sh, TC.l (x.2.2.2.2.2.2.2.2.1)⟩, ⟨.int .i64, .sh, TC.i (x.2.2.2.2.2.2.2.2.2.1)⟩], ⟨0, 0⟩⟩, ⟨.val false [⟨.int .i64, .sh, TC.i (x.2.2.2.2.2.2.2.2.2.2.1)⟩], ⟨0, 0⟩⟩, ⟨.val false [⟨.int .i64, .sh, TC.i (x.2.2.2.2.2.2.2.2.2.2.2)⟩], ⟨0, 0⟩⟩]
def qu_7_out : qu_7_ω → Ex × List Slot := (fun x => (.exit 0, [⟨.bx 32 [⟨.int .i64, .sh, TC.i (x.1)⟩, ⟨.int .i64, .sh, TC.i (x.2.1)⟩, ⟨.bool, .sh, TC.b (x.2.2.1)⟩, ⟨.bool, .sh, TC.b (x.2.2.2.1)⟩, ⟨.slice 9, .sh, TC.l (x.2.2.2.2.1)⟩, ⟨.slice 2, .sh, TC.l (x.2.2.2.2.2.1)⟩, ⟨.slice 71, .sh, TC.l (x.2.2.2.2.2.2.1)⟩, ⟨.slice 32, .sh, TC.l (x.2.2.2.2.2.2.2.1)⟩, ⟨.int .i64, .sh, TC.i (x.2.2.2.2.2.2.2.2.1)⟩], ⟨0, 0⟩⟩, Slot.none, ⟨.val false [⟨.int .i64, .sh, TC.i (x.2.2.2.2.2.2.2.2.2)⟩], ⟨0, 0⟩⟩]))
noncomputable def qu_lo7 : List Slot → Option (Told (Ex × List Slot)) := fun s => match s with
  | [⟨.val false [⟨.int .i64, .sh, TC.i m⟩], ⟨0, 0⟩⟩, ⟨.bx 32 [⟨.int .i64, .sh, TC.i k⟩, ⟨.int .i64, .sh, TC.i s⟩, ⟨.bool, .sh, TC.b sg⟩, ⟨.bool, .sh, TC.b bg⟩, ⟨.slice 9, .sh, TC.l NA⟩, ⟨.slice 2, .sh, TC.l NU⟩, ⟨.slice 71, .sh, TC.l ME⟩, ⟨.slice 32, .sh, TC.l BA⟩, ⟨.int .i64, .sh, TC.i ct⟩], ⟨0, 0⟩⟩, ⟨.val false [⟨.int .i64, .sh, TC.i best⟩], ⟨0, 0⟩⟩, ⟨.val false [⟨.int .i64, .sh, TC.i i⟩], ⟨0, 0⟩⟩] => some (((qu_7_fin m k s sg bg NA NU ME BA ct best i)).map qu_7_out)
  | _ => .none
noncomputable def qu_lo : LoopTeller := fun r s => bif Nat.beq r 7 then qu_lo7 s else .none
theorem qu_7_r (m k s : Int) (sg bg : Bool) (NA NU ME BA : LL) (ct best i : Int) (fuel : Nat) : rounds (rnd tab FT D29 live 55 qu_lo 0 7) leave (fuel + 1) (qu_7_sl (m, k, s, sg, bg, NA, NU, ME, BA, ct, best, i)) = ((qu_7_step m k s sg bg NA NU ME BA ct best i)).run (goOn (fun s => rounds (rnd tab FT D29 live 55 qu_lo 0 7) leave fuel (qu_7_sl s)) fun w => some (qu_7_out w)) := by kernel_rfl
theorem qu_7_h (m k s : Int) (sg bg : Bool) (NA NU ME BA : LL) (ct best i : Int) (ow : qu_7_ω) : ((qu_7_fin m k s sg bg NA NU ME BA ct best i)).val = some ow → ∃ fuel, loopN qu_7_st fuel (m, k, s, sg, bg, NA, NU, ME, BA, ct, best, i) = some ow := by
  refine auto_leaf (R := (qu_R7 m k s sg bg NA NU ME BA ct best i)) ?_
  intro ho
  have ho : is (i = 0 ∧ NU.length ≤ 140737488355328) = true := ho
  obtain ⟨rfl, hl⟩ := is_iff.1 ho
  skip
  refine ⟨(NU.length) + 1, ?_⟩
  refine iter_loop (step := qu_7_st) (NU.length) (fun i a => (qu_f7 m k s sg bg NA NU ME BA ct (i : Int) a)) (fun a => (qu_e7 m k s sg bg NA NU ME BA ct a)) (fun i a => (m, k, s, sg, bg, NA, NU, ME, BA, ct, a, (i : Int))) (fun _ _ => True) trivial (fun i a hi hI => ⟨?_, fun _ _ => trivial⟩) (fun a hI => ?_)
  · show (qu_7_step m k s sg bg NA NU ME BA ct a (i : Int)).val = _
    unfold qu_7_step qu_f7
    skip
    refine Tr.t (by simp; omega) ?_
    exact (Tr.t (by first | omega | (constructor <;> omega)) (Tr.bf (by rw [Tr.val_ok, wrap64 (i := (i : Int) + 1) (by omega) (by omega)]; rfl) (Tr.bf rfl rfl)))
  · show (qu_7_step m k s sg bg NA NU ME BA ct a (NU.length : Int)).val = _
    refine Tr.n (by first | (simp; done) | (simp; omega) | omega) ?_
    rfl
theorem qu_is7 : LoopIs tab FT D29 live 55 qu_lo 0 7 := by
  refine loop_told (sl := qu_7_sl) (step := qu_7_st) (out := qu_7_out) (lor := qu_lo7) (fin := fun x => (qu_7_fin (x.1) (x.2.1) (x.2.2.1) (x.2.2.2.1) (x.2.2.2.2.1) (x.2.2.2.2.2.1) (x.2.2.2.2.2.2.1) (x.2.2.2.2.2.2.2.1) (x.2.2.2.2.2.2.2.2.1) (x.2.2.2.2.2.2.2.2.2.1) (x.2.2.2.2.2.2.2.2.2.2.1) (x.2.2.2.2.2.2.2.2.2.2.2))) (fun _ => rfl) ?_ (fun x n => qu_7_r x.1 x.2.1 x.2.2.1 x.2.2.2.1 x.2.2.2.2.1 x.2.2.2.2.2.1 x.2.2.2.2.2.2.1 x.2.2.2.2.2.2.2.1 x.2.2.2.2.2.2.2.2.1 x.2.2.2.2.2.2.2.2.2.1 x.2.2.2.2.2.2.2.2.2.2.1 x.2.2.2.2.2.2.2.2.2.2.2 n) (fun x ow => qu_7_h x.1 x.2.1 x.2.2.1 x.2.2.2.1 x.2.2.2.2.1 x.2.2.2.2.2.1 x.2.2.2.2.2.2.1 x.2.2.2.2.2.2.2.1 x.2.2.2.2.2.2.2.2.1 x.2.2.2.2.2.2.2.2.2.1 x.2.2.2.2.2.2.2.2.2.2.1 x.2.2.2.2.2.2.2.2.2.2.2 ow)
  intro s t h
  unfold qu_lo7 at h
  split at h
  · cases h; exact ⟨(_, _, _, _, _, _, _, _, _, _, _, _), rfl, rfl⟩
  · cases h
noncomputable def qu_t (k s : Int) (sg bg : Bool) (NA NU ME BA : LL) (ct n : Int) : Tr (Int) := (.ite ((qbz_c k s sg bg NA NU ME BA ct) = true) (.ite ((!(k == (3 : Int))) = true) (.ok (qcl_v ((qbz_v k s sg bg NA NU ME BA ct).1) (qcn_v ((qbz_v k s sg bg NA NU ME BA ct).2) n)))
   (.ite ((0 : Int) ≤ (0 : Int) ∧ (0 : Int) < (NU.length : Int)) (.ite ((qu_o7_1 (qcl_v ((qbz_v k s sg bg NA NU ME BA ct).1) (qcn_v ((qbz_v k s sg bg NA NU ME BA ct).2) n)) k s sg bg NA NU ME BA ct ((nth (row NU (0 : Int)) 0).int) (0 : Int)) = true) (.ok (qu_u7_1_9 (qcl_v ((qbz_v k s sg bg NA NU ME BA ct).1) (qcn_v ((qbz_v k s sg bg NA NU ME BA ct).2) n)) k s sg bg NA NU ME BA ct ((nth (row NU (0 : Int)) 0).int) (0 : Int)))
     .no)
    .no))
  .no)
def qu_mk (p : Int) : Res := [(false, [⟨.int .i64, .sh, TC.i p⟩])]
noncomputable def qu_c (k s : Int) (sg bg : Bool) (NA NU ME BA : LL) (ct n : Int) : Bool := ((qbz_c k s sg bg NA NU ME BA ct) && (bif (!(k == (3 : Int))) then true else (is ((0 : Int) ≤ (0 : Int) ∧ (0 : Int) < (NU.length : Int)) && ((qu_o7_1 (qcl_v ((qbz_v k s sg bg NA NU ME BA ct).1) (qcn_v ((qbz_v k s sg bg NA NU ME BA ct).2) n)) k s sg bg NA NU ME BA ct ((nth (row NU (0 : Int)) 0).int) (0 : Int)) && true))))
noncomputable def qu_v (k s : Int) (sg bg : Bool) (NA NU ME BA : LL) (ct n : Int) : Int := (bif (!(k == (3 : Int))) then (qcl_v ((qbz_v k s sg bg NA NU ME BA ct).1) (qcn_v ((qbz_v k s sg bg NA NU ME BA ct).2) n)) else (qu_u7_1_9 (qcl_v ((qbz_v k s sg bg NA NU ME BA ct).1) (qcn_v ((qbz_v k s sg bg NA NU ME BA ct).2) n)) k s sg bg NA NU ME BA ct ((nth (row NU (0 : Int)) 0).int) (0 : Int)))
theorem qu_l (k s : Int) (sg bg : Bool) (NA NU ME BA : LL) (ct n : Int) : (qu_c k s sg bg NA NU ME BA ct n) = true → (qu_t k s sg bg NA NU ME BA ct n).val = some (qu_v k s sg bg NA NU ME BA ct n) := by
  unfold qu_t qu_v qu_c
  exact fun h => (Tr.gb h fun h => (Tr.ss h (fun h => rfl) (fun h => (Tr.gs h fun h => (Tr.gb h fun h => rfl)))))
noncomputable def qu_S : List Arg → Option (Bool × Res) := fun xs => match xs with
  | [(true, [(.int .i64, TC.i k), (.int .i64, TC.i s), (.bool, TC.b sg), (.bool, TC.b bg), (.slice 9, TC.l NA), (.slice 2, TC.l NU), (.slice 71, TC.l ME), (.slice 32, TC.l BA), (.int .i64, TC.i ct)]), (false, [(.int .i64, TC.i n)])] => some ((qu_c k s sg bg NA NU ME BA ct n), qu_mk (qu_v k s sg bg NA NU ME BA ct n))
  | _ => .none
theorem qu_e (k s : Int) (sg bg : Bool) (NA NU ME BA : LL) (ct n : Int) : runF tab FT D29 live 55 qu_lo [(true, [(.int .i64, TC.i k), (.int .i64, TC.i s), (.bool, TC.b sg), (.bool, TC.b bg), (.slice 9, TC.l NA), (.slice 2, TC.l NU), (.slice 71, TC.l ME), (.slice 32, TC.l BA), (.int .i64, TC.i ct)]), (false, [(.int .i64, TC.i n)])] = (qu_t k s sg bg NA NU ME BA ct n).run fun p => some (qu_mk p) := by kernel_rfl
theorem qu_s : ∀ xs r, qu_S xs = some (true, r) → runF tab FT D29 live 55 qu_lo xs = some r := by
  intro xs r h
  unfold qu_S at h
  split at h
  · simp only [Option.some.injEq, Prod.mk.injEq] at h
    obtain ⟨h1, rfl⟩ := h
    exact fun_told (qu_e _ _ _ _ _ _ _ _ _ _) (qu_l _ _ _ _ _ _ _ _ _ _) h1
  · cases h
noncomputable def D30 : Dt := also D29 55 qu_S
theorem d30 : DOk Go.Proofs.Try.prog tab D30 := d29.also mixed_ok tab_ok names_ok (fnLoops_one (by kernel_rfl) qu_is7) qu_s
theorem clamp_R {k s : Int} {sg bg : Bool} {NA NU ME BA : LL} {ct : Int} {m : Int} (h1 : 1 ≤ NU.length) (ha : ascU NU) (hb : ∀ i : Nat, i < NU.length → -9223372036854775808 ≤ intAt NU (i : Int) ∧ intAt NU (i : Int) ≤ 9223372036854775807) (hm : intAt NU ((0 : Nat) : Int) ≤ m) (hm2 : m ≤ intAt NU ((NU.length - 1 : Nat) : Int)) :
    qu_R7 m k s sg bg NA NU ME BA ct (intAt NU ((0 : Nat) : Int)) 0 = (k, s, sg, bg, NA, NU, ME, BA, ct, nearE NU m) := by
  obtain ⟨kx, a1, a2, a3, -⟩ := idx_split (fun i : Nat => decide (intAt NU (i : Int) ≤ m)) NU.length
  have a2 : ∀ j : Nat, j < kx → intAt NU (j : Int) ≤ m := fun j hj => of_decide_eq_true (a2 j hj)
  have a3 : kx < NU.length → m < intAt NU (kx : Int) := fun hk => by have := of_decide_eq_false (a3 hk); omega
  have hk0 : 0 < kx := by
    rcases Nat.eq_zero_or_pos kx with h | h
    · subst h; have := a3 (by omega); omega
    · exact h
  rw [near_eq a1 a2 a3]
  unfold qu_R7
  refine iter_stop (k := kx) (fun j => intAt NU ((j - 1 : Nat) : Int)) (fun j hj => ?_) a1 (fun hk => ?_) (fun hk => ?_)
  · unfold qu_f7
    rw [show decide ((nth (row NU (j : Int)) 0).int ≤ m) = true from decide_eq_true (a2 j hj)]
    rfl
  · have q := a3 hk
    have q2 := hb kx hk
    have q3 := hb (kx - 1) (by omega)
    have q4 := a2 (kx - 1) (by omega)
    have q5 := hb (NU.length - 1) (by omega)
    unfold qu_f7
    rw [show decide ((nth (row NU (kx : Int)) 0).int ≤ m) = false from decide_eq_false (show ¬ (intAt NU (kx : Int) ≤ m) by omega)]
    rw [if_neg (show ¬ kx = NU.length by omega)]
    show (bif decide (IntKind.wrap .u64 (IntKind.wrap .u64 (intAt NU (kx : Int)) - IntKind.wrap .u64 m) < IntKind.wrap .u64 (IntKind.wrap .u64 m - IntKind.wrap .u64 (intAt NU ((kx - 1 : Nat) : Int)))) then _ else _) = _
    rw [u64_sub (by omega) (by omega), u64_sub (by omega) (by omega)]
    by_cases hc : intAt NU (kx : Int) - m < m - intAt NU ((kx - 1 : Nat) : Int)
    · rw [decide_eq_true hc, if_pos hc]; rfl
    · rw [decide_eq_false hc, if_neg hc]; rfl
  · rw [if_pos hk, hk]; rfl
noncomputable def qbx_t (k s : Int) (sg bg : Bool) (NA NU ME BA : LL) (ct n : Int) : Tr (Int × Bool) := (.ite ((qbf_rc k s sg bg NA NU ME BA ct) = true) (.ite ((!(qbf_rv k s sg bg NA NU ME BA ct)) = true) (.ok ((0 : Int), false))
   (.ite ((qbj_c k s sg bg NA NU ME BA ct) = true) (.ite ((!(qbj_v k s sg bg NA NU ME BA ct).2.2.2.2.2.2.2.2.2) = true) (.ok ((0 : Int), false))
     (.ite ((qu_c k s sg bg NA NU ME BA ct n) = true) (.ok ((qu_v k s sg bg NA NU ME BA ct n), true))
      .no))
    .no))
  .no)
def qbx_mk (p : Int × Bool) : Res := [(false, [⟨.int .i64, .sh, TC.i (p.1)⟩]), (false, [⟨.bool, .sh, TC.b (p.2)⟩])]
noncomputable def qbx_c (k s : Int) (sg bg : Bool) (NA NU ME BA : LL) (ct n : Int) : Bool := ((qbf_rc k s sg bg NA NU ME BA ct) && (bif (!(qbf_rv k s sg bg NA NU ME BA ct)) then true else ((qbj_c k s sg bg NA NU ME BA ct) && (bif (!(qbj_v k s sg bg NA NU ME BA ct).2.2.2.2.2.2.2.2.2) then true else ((qu_c k s sg bg NA NU ME BA ct n) && true)))))
noncomputable def qbx_v (k s : Int) (sg bg : Bool) (NA NU ME BA : LL) (ct n : Int) : Int × Bool := (bif (!(qbf_rv k s sg bg NA NU ME BA ct)) then ((0 : Int), false) else (bif (!(qbj_v k s sg bg NA NU ME BA ct).2.2.2.2.2.2.2.2.2) then ((0 : Int), false) else ((qu_v k s sg bg NA NU ME BA ct n), true)))
theorem qbx_l (k s : Int) (sg bg : Bool) (NA NU ME BA : LL) (ct n : Int) : (qbx_c k s sg bg NA NU ME BA ct n) = true → (qbx_t k s sg bg NA NU ME BA ct n).val = some (qbx_v k s sg bg NA NU ME BA ct n) := by
  unfold qbx_t qbx_v qbx_c
  exact fun h => (Tr.gb h fun h => (Tr.ss h (fun h => rfl) (fun h => (Tr.gb h fun h => (Tr.ss h (fun h => rfl) (fun h => (Tr.gb h fun h => rfl)))))))
noncomputable def qbx_S : List Arg → Option (Bool × Res) := fun xs => match xs with
  | [(true, [(.int .i64, TC.i k), (.int .i64, TC.i s), (.bool, TC.b sg), (.bool, TC.b bg), (.slice 9, TC.l NA), (.slice 2, TC.l NU), (.slice 71, TC.l ME), (.slice 32, TC.l BA), (.int .i64, TC.i ct)]), (false, [(.int .i64, TC.i n)])] => some ((qbx_c k s sg bg NA NU ME BA ct n), qbx_mk (qbx_v k s sg bg NA NU ME BA ct n))
  | _ => .none
theorem qbx_e (k s : Int) (sg bg : Bool) (NA NU ME BA : LL) (ct n : Int) : runF tab FT D30 live 20 noLoops [(true, [(.int .i64, TC.i k), (.int .i64, TC.i s), (.bool, TC.b sg), (.bool, TC.b bg), (.slice 9, TC.l NA), (.slice 2, TC.l NU), (.slice 71, TC.l ME), (.slice 32, TC.l BA), (.int .i64, TC.i ct)]), (false, [(.int .i64, TC.i n)])] = (qbx_t k s sg bg NA NU ME BA ct n).run fun p => some (qbx_mk p) := by kernel_rfl
theorem qbx_s : ∀ xs r, qbx_S xs = some (true, r) → runF tab FT D30 live 20 noLoops xs = some r := by
  intro xs r h
  unfold qbx_S at h
  split at h
  · simp only [Option.some.injEq, Prod.mk.injEq] at h
    obtain ⟨h1, rfl⟩ := h
    exact fun_told (qbx_e _ _ _ _ _ _ _ _ _ _) (qbx_l _ _ _ _ _ _ _ _ _ _) h1
  · cases h
noncomputable def D31 : Dt := also D30 20 qbx_S
theorem d31 : DOk Go.Proofs.Try.prog tab D31 := d30.also mixed_ok tab_ok names_ok noLoops_ok qbx_s
theorem near_low {A : LL} (h1 : 1 ≤ A.length) (ha : ascU A) : nearE A (intAt A ((0 : Nat) : Int)) = intAt A ((0 : Nat) : Int) := by
  rw [near_eq (k := 1) h1 (fun j hj => by rw [show j = 0 by omega]; exact Int.le_refl _) (fun hk => ha 0 1 (by omega) hk)]
  by_cases hl : 1 = A.length
  · rw [if_pos hl]
  · rw [if_neg hl, if_neg (by have := ha 0 1 (by omega) (by omega); show ¬ (_ : Int) < intAt A ((0 : Nat) : Int) - intAt A ((0 : Nat) : Int); omega)]
theorem near_high {A : LL} (h1 : 1 ≤ A.length) (ha : ascU A) : nearE A (intAt A ((A.length - 1 : Nat) : Int)) = intAt A ((A.length - 1 : Nat) : Int) := by
  rw [near_eq (k := A.length) (Nat.le_refl _) (fun j hj => by
    rcases Nat.lt_or_ge j (A.length - 1) with h | h
    · exact Int.le_of_lt (ha j _ h (by omega))
    · rw [show j = A.length - 1 by omega]; exact Int.le_refl _) (fun hk => absurd hk (Nat.lt_irrefl _)), if_pos rfl]
theorem spec_clamp_ok {k s : Int} {sg bg : Bool} {NA NU ME BA : LL} {ct : Int} (h : okV k s sg bg NA NU ME BA ct = true) (hn : numK k = true) (hle : (rangeT k s sg NU).1 ≤ (rangeT k s sg NU).2) (n : Int) : qbj_c k s sg bg NA NU ME BA ct = true ∧ (qbj_v k s sg bg NA NU ME BA ct).2.2.2.2.2.2.2.2.2 = true ∧ qu_c k s sg bg NA NU ME BA ct n = true ∧ qu_v k s sg bg NA NU ME BA ct n = clampV k s sg NU n := by
  obtain ⟨b1, b2, rc, rv⟩ := qbz_ok h hn
  refine ⟨b1, b2, ?_⟩
  unfold qu_c qu_v clampV
  rw [rc, rv]
  have hm : qcl_v (rangeT k s sg NU).1 (qcn_v (rangeT k s sg NU).2 n) = if n ≤ (rangeT k s sg NU).1 then (rangeT k s sg NU).1 else if n ≥ (rangeT k s sg NU).2 then (rangeT k s sg NU).2 else n := by
    unfold qcl_v qcn_v
    generalize (rangeT k s sg NU).1 = lo at hle ⊢
    generalize (rangeT k s sg NU).2 = hi at hle ⊢
    by_cases c1 : hi < n
    · rw [decide_eq_true c1, if_pos (show n ≥ hi by omega)]
      simp only [cond_true]
      by_cases c2 : lo > hi
      · omega
      · rw [decide_eq_false c2]
        by_cases c3 : n ≤ lo
        · rw [if_pos c3]; simp only [cond_false]; omega
        · rw [if_neg c3]; rfl
    · rw [decide_eq_false c1]
      simp only [cond_false]
      by_cases c2 : n ≤ lo
      · rw [if_pos c2]
        by_cases c3 : lo > n
        · rw [decide_eq_true c3]; rfl
        · rw [decide_eq_false c3]; simp only [cond_false]; omega
      · rw [if_neg c2, decide_eq_false (by omega)]
        by_cases c3 : n ≥ hi
        · rw [if_pos c3]; simp only [cond_false]; omega
        · rw [if_neg c3]; rfl
  rw [hm]
  cases h3 : (k == 3) with
  | false => exact ⟨rfl, rfl⟩
  | true =>
    have hk : k = 3 := eq_of_beq h3
    subst hk
    obtain ⟨e1, e2, -⟩ := okV_enum h
    obtain ⟨ha, hb⟩ := enum_asc h
    have hr : rangeT 3 s sg NU = (intAt NU ((0 : Nat) : Int), intAt NU ((NU.length - 1 : Nat) : Int)) := by
      show (intAt NU 0, intAt NU (IntKind.wrap .i64 ((NU.length : Int) - (1 : Int)))) = _
      rw [wrap64 (by omega) (by omega), show (NU.length : Int) - 1 = ((NU.length - 1 : Nat) : Int) by omega]
      rfl
    rw [hr] at hle ⊢
    dsimp only at hle ⊢
    refine ⟨andT rfl (andT (is_true ⟨by omega, by omega⟩) (andT (is_true ⟨rfl, by omega⟩) rfl)), ?_⟩
    have key : ∀ m, intAt NU ((0 : Nat) : Int) ≤ m → m ≤ intAt NU ((NU.length - 1 : Nat) : Int) → qu_u7_1_9 m 3 s sg bg NA NU ME BA ct (nth (row NU (0 : Int)) 0).int (0 : Int) = nearE NU m := fun m c1 c2 => by
      unfold qu_u7_1_9
      rw [show (nth (row NU (0 : Int)) 0).int = intAt NU ((0 : Nat) : Int) from rfl, clamp_R (k := 3) e1 ha hb c1 c2]
    by_cases c1 : n ≤ intAt NU ((0 : Nat) : Int)
    · rw [if_pos c1, if_pos c1]
      show qu_u7_1_9 _ _ _ _ _ _ _ _ _ _ _ _ = _
      rw [key _ (Int.le_refl _) hle, near_low e1 ha]
    · rw [if_neg c1, if_neg c1]
      by_cases c2 : n ≥ intAt NU ((NU.length - 1 : Nat) : Int)
      · rw [if_pos c2, if_pos c2]
        show qu_u7_1_9 _ _ _ _ _ _ _ _ _ _ _ _ = _
        rw [key _ hle (Int.le_refl _), near_high e1 ha]
      · rw [if_neg c2, if_neg c2]
        exact key n (by omega) (by omega)
section
class qx_O where n : Nat
variable [i_impl_Type_size : qx_O]
noncomputable def qx_rc (k s : Int) (sg bg : Bool) (NA NU ME BA : LL) (ct : Int) : Bool := is (rowsDep BA < qx_O.n ∧ isizeC k BA = true)
noncomputable def qx_rv (k s : Int) (sg bg : Bool) (NA NU ME BA : LL) (ct : Int) : Int := isizeV k s BA ct
def qx_rmk (p : Int) : Res := [(false, [⟨.int .i64, .sh, TC.i p⟩])]
noncomputable def qx_rS : List Arg → Option (Bool × Res) := fun xs => match xs with
  | [(true, [(.int .i64, TC.i k), (.int .i64, TC.i s), (.bool, TC.b sg), (.bool, TC.b bg), (.slice 9, TC.l NA), (.slice 2, TC.l NU), (.slice 71, TC.l ME), (.slice 32, TC.l BA), (.int .i64, TC.i ct)])] => some ((qx_rc k s sg bg NA NU ME BA ct), qx_rmk (qx_rv k s sg bg NA NU ME BA ct))
  | _ => .none
noncomputable def D32 : Dt := also D31 75 qx_rS
class qx_G : Prop where ok : DOk Go.Proofs.Try.prog tab D32
variable [g_impl_Type_size : qx_G]
theorem d32 : DOk Go.Proofs.Try.prog tab D32 := qx_G.ok
noncomputable def qx_t (k s : Int) (sg bg : Bool) (NA NU ME BA : LL) (ct : Int) : Tr (Int) := (.ite ((k == (3 : Int)) = true) (.ite ((0 : Int) ≤ (0 : Int) ∧ (0 : Int) < (BA.length : Int)) (.ite ((qx_rc ((nth (row BA (0 : Int)) 0).int) ((nth (row BA (0 : Int)) 1).int) ((nth (row BA (0 : Int)) 2).bool) ((nth (row BA (0 : Int)) 3).bool) ((nth (row BA (0 : Int)) 4).list) ((nth (row BA (0 : Int)) 5).list) ((nth (row BA (0 : Int)) 6).list) ((nth (row BA (0 : Int)) 7).list) ((nth (row BA (0 : Int)) 8).int)) = true) (.ok (qx_rv ((nth (row BA (0 : Int)) 0).int) ((nth (row BA (0 : Int)) 1).int) ((nth (row BA (0 : Int)) 2).bool) ((nth (row BA (0 : Int)) 3).bool) ((nth (row BA (0 : Int)) 4).list) ((nth (row BA (0 : Int)) 5).list) ((nth (row BA (0 : Int)) 6).list) ((nth (row BA (0 : Int)) 7).list) ((nth (row BA (0 : Int)) 8).int)))
    .no)
   .no)
  (.ite ((k == (5 : Int)) = true) (.ite ((0 : Int) ≤ (0 : Int) ∧ (0 : Int) < (BA.length : Int)) (.ite ((qx_rc ((nth (row BA (0 : Int)) 0).int) ((nth (row BA (0 : Int)) 1).int) ((nth (row BA (0 : Int)) 2).bool) ((nth (row BA (0 : Int)) 3).bool) ((nth (row BA (0 : Int)) 4).list) ((nth (row BA (0 : Int)) 5).list) ((nth (row BA (0 : Int)) 6).list) ((nth (row BA (0 : Int)) 7).list) ((nth (row BA (0 : Int)) 8).int)) = true) (.ok (IntKind.wrap .i64 (ct * (qx_rv ((nth (row BA (0 : Int)) 0).int) ((nth (row BA (0 : Int)) 1).int) ((nth (row BA (0 : Int)) 2).bool) ((nth (row BA (0 : Int)) 3).bool) ((nth (row BA (0 : Int)) 4).list) ((nth (row BA (0 : Int)) 5).list) ((nth (row BA (0 : Int)) 6).list) ((nth (row BA (0 : Int)) 7).list) ((nth (row BA (0 : Int)) 8).int)))))
     .no)
    .no)
   (.ok s)))
def qx_mk (p : Int) : Res := [(false, [⟨.int .i64, .sh, TC.i p⟩])]
noncomputable def qx_c (k s : Int) (sg bg : Bool) (NA NU ME BA : LL) (ct : Int) : Bool := (bif (k == (3 : Int)) then (is ((0 : Int) ≤ (0 : Int) ∧ (0 : Int) < (BA.length : Int)) && ((qx_rc ((nth (row BA (0 : Int)) 0).int) ((nth (row BA (0 : Int)) 1).int) ((nth (row BA (0 : Int)) 2).bool) ((nth (row BA (0 : Int)) 3).bool) ((nth (row BA (0 : Int)) 4).list) ((nth (row BA (0 : Int)) 5).list) ((nth (row BA (0 : Int)) 6).list) ((nth (row BA (0 : Int)) 7).list) ((nth (row BA (0 : Int)) 8).int)) && true)) else (bif (k == (5 : Int)) then (is ((0 : Int) ≤ (0 : Int) ∧ (0 : Int) < (BA.length : Int)) && ((qx_rc ((nth (row BA (0 : Int)) 0).int) ((nth (row BA (0 : Int)) 1).int) ((nth (row BA (0 : Int)) 2).bool) ((nth (row BA (0 : Int)) 3).bool) ((nth (row BA (0 : Int)) 4).list) ((nth (row BA (0 : Int)) 5).list) ((nth (row BA (0 : Int)) 6).list) ((nth (row BA (0 : Int)) 7).list) ((nth (row BA (0 : Int)) 8).int)) && true)) else true))
noncomputable def qx_v (k s : Int) (sg bg : Bool) (NA NU ME BA : LL) (ct : Int) : Int := (bif (k == (3 : Int)) then (qx_rv ((nth (row BA (0 : Int)) 0).int) ((nth (row BA (0 : Int)) 1).int) ((nth (row BA (0 : Int)) 2).bool) ((nth (row BA (0 : Int)) 3).bool) ((nth (row BA (0 : Int)) 4).list) ((nth (row BA (0 : Int)) 5).list) ((nth (row BA (0 : Int)) 6).list) ((nth (row BA (0 : Int)) 7).list) ((nth (row BA (0 : Int)) 8).int)) else (bif (k == (5 : Int)) then (IntKind.wrap .i64 (ct * (qx_rv ((nth (row BA (0 : Int)) 0).int) ((nth (row BA (0 : Int)) 1).int) ((nth (row BA (0 : Int)) 2).bool) ((nth (row BA (0 : Int)) 3).bool) ((nth (row BA (0 : Int)) 4).list) ((nth (row BA (0 : Int)) 5).list) ((nth (row BA (0 : Int)) 6).list) ((nth (row BA (0 : Int)) 7).list) ((nth (row BA (0 : Int)) 8).int)))) else s))
theorem qx_l (k s : Int) (sg bg : Bool) (NA NU ME BA : LL) (ct : Int) : (qx_c k s sg bg NA NU ME BA ct) = true → (qx_t k s sg bg NA NU ME BA ct).val = some (qx_v k s sg bg NA NU ME BA ct) := by
  unfold qx_t qx_v qx_c
  exact fun h => (Tr.ss h (fun h => (Tr.gs h fun h => (Tr.gb h fun h => rfl))) (fun h => (Tr.ss h (fun h => (Tr.gs h fun h => (Tr.gb h fun h => rfl))) (fun h => rfl))))
noncomputable def qx_S : List Arg → Option (Bool × Res) := fun xs => match xs with
  | [(true, [(.int .i64, TC.i k), (.int .i64, TC.i s), (.bool, TC.b sg), (.bool, TC.b bg), (.slice 9, TC.l NA), (.slice 2, TC.l NU), (.slice 71, TC.l ME), (.slice 32, TC.l BA), (.int .i64, TC.i ct)])] => some ((qx_c k s sg bg NA NU ME BA ct), qx_mk (qx_v k s sg bg NA NU ME BA ct))
  | _ => .none
theorem qx_e (k s : Int) (sg bg : Bool) (NA NU ME BA : LL) (ct : Int) : runF tab FT D32 live 75 noLoops [(true, [(.int .i64, TC.i k), (.int .i64, TC.i s), (.bool, TC.b sg), (.bool, TC.b bg), (.slice 9, TC.l NA), (.slice 2, TC.l NU), (.slice 71, TC.l ME), (.slice 32, TC.l BA), (.int .i64, TC.i ct)])] = (qx_t k s sg bg NA NU ME BA ct).run fun p => some (qx_mk p) := by kernel_rfl
theorem qx_s : ∀ xs r, qx_S xs = some (true, r) → runF tab FT D32 live 75 noLoops xs = some r := by
  intro xs r h
  unfold qx_S at h
  split at h
  · simp only [Option.some.injEq, Prod.mk.injEq] at h
    obtain ⟨h1, rfl⟩ := h
    exact fun_told (qx_e _ _ _ _ _ _ _ _ _) (qx_l _ _ _ _ _ _ _ _ _) h1
  · cases h
theorem qx_nx (k s : Int) (sg bg : Bool) (NA NU ME BA : LL) (ct : Int) : is (rowsDep BA < qx_O.n + 1 ∧ isizeC k BA = true) = true → (qx_c k s sg bg NA NU ME BA ct) = true ∧ (qx_v k s sg bg NA NU ME BA ct) = isizeV k s BA ct := by
  intro h
  obtain ⟨hM, hC⟩ := is_iff.1 h
  unfold qx_c qx_v
  rw [isizeC] at hC
  rw [isizeV]
  cases h3 : (k == 3) with
  | true =>
    simp only [h3, Bool.true_or, cond_true] at hC ⊢
    split at hC
    · rename_i hb
      rw [dif_pos hb]
      have := pos_row hb 7
      exact ⟨andT (is_true (by constructor <;> omega)) (andT (is_true ⟨by omega, hC⟩) rfl), rfl⟩
    · cases hC
  | false =>
    cases h5 : (k == 5) with
    | true =>
      simp only [h3, h5, Bool.false_or, cond_true, cond_false] at hC ⊢
      split at hC
      · rename_i hb
        rw [dif_pos hb]
        have := pos_row hb 7
        exact ⟨andT (is_true (by constructor <;> omega)) (andT (is_true ⟨by omega, hC⟩) rfl), rfl⟩
      · cases hC
    | false => exact ⟨rfl, rfl⟩
theorem qx_nxr (k s : Int) (sg bg : Bool) (NA NU ME BA : LL) (ct : Int) : qx_rc (i_impl_Type_size := ⟨qx_O.n + 1⟩) k s sg bg NA NU ME BA ct = true → (qx_c k s sg bg NA NU ME BA ct) = true ∧ (qx_v k s sg bg NA NU ME BA ct) = (qx_rv k s sg bg NA NU ME BA ct) := fun h => qx_nx k s sg bg NA NU ME BA ct h
theorem qx_rs : ∀ xs r, qx_rS (i_impl_Type_size := ⟨qx_O.n + 1⟩) xs = some (true, r) → runF tab FT D32 live 75 noLoops xs = some r := by
  intro xs r h
  unfold qx_rS at h
  split at h
  · simp only [Option.some.injEq, Prod.mk.injEq] at h
    obtain ⟨h1, rfl⟩ := h
    have hx := qx_nxr _ _ _ _ _ _ _ _ _ h1
    have ht := fun_told (qx_e _ _ _ _ _ _ _ _ _) (qx_l _ _ _ _ _ _ _ _ _) hx.1
    rw [hx.2] at ht
    exact ht
  · cases h
theorem qx_step : qx_G (i_impl_Type_size := ⟨qx_O.n + 1⟩) := by
  have h := DOk.also2 (S := qx_rS (i_impl_Type_size := ⟨qx_O.n + 1⟩)) mixed_ok tab_ok names_ok d31 d32 noLoops_ok qx_rs
  refine qx_G.mk (i_impl_Type_size := ⟨qx_O.n + 1⟩) ?_
  exact h
noncomputable def qbl_t (a0 a1 : Int) (a2 a3 : Bool) (a4 a5 a6 a7 : LL) (a8 : Int) : Tr (Int × Int × Bool × Bool × LL × LL × LL × LL × Int) := (.ite ((a0 == (1 : Int)) = true) (.ok (a0, a1, a2, a3, [], [], [], [], (0 : Int)))
  (.ite ((a0 == (2 : Int)) = true) (.ok (a0, a1, false, false, [], [], [], [], (0 : Int)))
   (.ite ((a0 == (6 : Int)) = true) (.ok (a0, a1, false, false, [], [], [], [], (0 : Int)))
    (.ite ((a0 == (3 : Int)) = true) (.ok (a0, (0 : Int), false, false, a4, a5, [], a7, (0 : Int)))
     (.ite ((a0 == (4 : Int)) = true) (.ok (a0, a1, false, false, [], [], a6, [], (0 : Int)))
      (.ite ((a0 == (5 : Int)) = true) (.ok (a0, (0 : Int), false, false, [], [], [], a7, a8))
       (.ok (a0, (0 : Int), false, false, [], [], [], [], (0 : Int)))))))))
def qbl_mk (p : Int × Int × Bool × Bool × LL × LL × LL × LL × Int) : Res := [(true, [⟨.int .i64, .sh, TC.i (p.1)⟩, ⟨.int .i64, .sh, TC.i (p.2.1)⟩, ⟨.bool, .sh, TC.b (p.2.2.1)⟩, ⟨.bool, .sh, TC.b (p.2.2.2.1)⟩, ⟨.slice 9, .sh, TC.l (p.2.2.2.2.1)⟩, ⟨.slice 2, .sh, TC.l (p.2.2.2.2.2.1)⟩, ⟨.slice 71, .sh, TC.l (p.2.2.2.2.2.2.1)⟩, ⟨.slice 32, .sh, TC.l (p.2.2.2.2.2.2.2.1)⟩, ⟨.int .i64, .sh, TC.i (p.2.2.2.2.2.2.2.2)⟩])]
noncomputable def qbl_c (a0 a1 : Int) (a2 a3 : Bool) (a4 a5 a6 a7 : LL) (a8 : Int) : Bool := true
noncomputable def qbl_v (a0 a1 : Int) (a2 a3 : Bool) (a4 a5 a6 a7 : LL) (a8 : Int) : Int × Int × Bool × Bool × LL × LL × LL × LL × Int := (bif (a0 == (1 : Int)) then (a0, a1, a2, a3, [], [], [], [], (0 : Int)) else (bif (a0 == (2 : Int)) then (a0, a1, false, false, [], [], [], [], (0 : Int)) else (bif (a0 == (6 : Int)) then (a0, a1, false, false, [], [], [], [], (0 : Int)) else (bif (a0 == (3 : Int)) then (a0, (0 : Int), false, false, a4, a5, [], a7, (0 : Int)) else (bif (a0 == (4 : Int)) then (a0, a1, false, false, [], [], a6, [], (0 : Int)) else (bif (a0 == (5 : Int)) then (a0, (0 : Int), false, false, [], [], [], a7, a8) else (a0, (0 : Int), false, false, [], [], [], [], (0 : Int))))))))
theorem qbl_l (a0 a1 : Int) (a2 a3 : Bool) (a4 a5 a6 a7 : LL) (a8 : Int) : (qbl_c a0 a1 a2 a3 a4 a5 a6 a7 a8) = true → (qbl_t a0 a1 a2 a3 a4 a5 a6 a7 a8).val = some (qbl_v a0 a1 a2 a3 a4 a5 a6 a7 a8) := by
  intro h
  skip
  unfold qbl_t qbl_v
  exact (Tr.s rfl (Tr.s rfl (Tr.s rfl (Tr.s rfl (Tr.s rfl (Tr.s rfl rfl))))))
noncomputable def qbl_S : List Arg → Option (Bool × Res) := fun xs => match xs with
  | [(true, [(.int .i64, TC.i a0), (.int .i64, TC.i a1), (.bool, TC.b a2), (.bool, TC.b a3), (.slice 9, TC.l a4), (.slice 2, TC.l a5), (.slice 71, TC.l a6), (.slice 32, TC.l a7), (.int .i64, TC.i a8)])] => some (true, qbl_mk (qbl_v a0 a1 a2 a3 a4 a5 a6 a7 a8))
  | _ => .none
theorem qbl_e (a0 a1 : Int) (a2 a3 : Bool) (a4 a5 a6 a7 : LL) (a8 : Int) : runF tab FT D32 live 103 noLoops [(true, [(.int .i64, TC.i a0), (.int .i64, TC.i a1), (.bool, TC.b a2), (.bool, TC.b a3), (.slice 9, TC.l a4), (.slice 2, TC.l a5), (.slice 71, TC.l a6), (.slice 32, TC.l a7), (.int .i64, TC.i a8)])] = (qbl_t a0 a1 a2 a3 a4 a5 a6 a7 a8).run fun p => some (qbl_mk p) := by kernel_rfl
theorem qbl_s : ∀ xs r, qbl_S xs = some (true, r) → runF tab FT D32 live 103 noLoops xs = some r := by
  intro xs r h
  unfold qbl_S at h
  split at h
  · simp only [Option.some.injEq, Prod.mk.injEq] at h
    obtain ⟨h1, rfl⟩ := h
    exact fun_told (qbl_e _ _ _ _ _ _ _ _ _) (qbl_l _ _ _ _ _ _ _ _ _) rfl
  · cases h
noncomputable def D33 : Dt := also D32 103 qbl_S
theorem d33 : DOk Go.Proofs.Try.prog tab D33 := d32.also mixed_ok tab_ok names_ok noLoops_ok qbl_s
def E_9 (x y : List TC) : Bool := ((nth x 0).str == (nth y 0).str)
abbrev qm_4_σ := LL × LL × Int × Int
abbrev qm_4_ω := (Unit) ⊕ (Unit)
noncomputable def qm_4_step (A C : LL) (m i : Int) : Tr (qm_4_σ ⊕ qm_4_ω) := (.ite ((decide (i < m)) = true) (.ite ((0 : Int) ≤ i ∧ i < (A.length : Int)) (.ite ((0 : Int) ≤ i ∧ i < (C.length : Int)) (.ite ((!((nth (row A i) 0).str == (nth (row C i) 0).str)) = true) (.ok (.inr (.inl ())))
     (.ok (.inl (A, C, m, (IntKind.wrap .i64 (i + (1 : Int)))))))
    .no)
   .no)
  (.ok (.inr (.inr ()))))
noncomputable def qm_4_st : qm_4_σ → Tr (qm_4_σ ⊕ qm_4_ω) := fun x => (qm_4_step (x.1) (x.2.1) (x.2.2.1) (x.2.2.2))
noncomputable def qm_k4_1 (A C : LL) (m i : Int) : Bool := allEq E_9 A C
noncomputable def qm_o4_2 (A C : LL) (m i : Int) : Bool := is (A.length = C.length ∧ i = 0 ∧ Typed tab (.slice 9) (.l A) ∧ m = (A.length : Int))
noncomputable def qm_o4_3 (A C : LL) (m i : Int) : Bool := is (A.length = C.length ∧ i = 0 ∧ Typed tab (.slice 9) (.l A) ∧ m = (A.length : Int))
noncomputable def qm_4_fin (A C : LL) (m i : Int) : Told qm_4_ω := (.br (qm_k4_1 A C m i) (.leaf (qm_o4_2 A C m i) (.inr ())) (.leaf (qm_o4_3 A C m i) (.inl ())))
def qm_4_sl (x : qm_4_σ) : List Slot := [⟨.val false [⟨.slice 9, .sh, TC.l (x.1)⟩], ⟨0, 0⟩⟩, ⟨.val false [⟨.slice 9, .sh, TC.l (x.2.1)⟩], ⟨0, 0⟩⟩, ⟨.val false [⟨.int .i64, .sh, TC.i (x.2.2.1)⟩], ⟨0, 0⟩⟩, ⟨.val false [⟨.int .i64, .sh, TC.i (x.2.2.2)⟩], ⟨0, 0⟩⟩]
def qm_4_out : qm_4_ω → Ex × List Slot := (Sum.elim (fun x => (.ret, [⟨.val false [⟨.bool, .sh, TC.b false⟩], ⟨0, 0⟩⟩])) (fun x => (.exit 0, [Slot.none])))
noncomputable def qm_lo4 : List Slot → Option (Told (Ex × List Slot)) := fun s => match s with
  | [⟨.val false [⟨.slice 9, .sh, TC.l A⟩], ⟨0, 0⟩⟩, ⟨.val false [⟨.slice 9, .sh, TC.l C⟩], ⟨0, 0⟩⟩, ⟨.val false [⟨.int .i64, .sh, TC.i m⟩], ⟨0, 0⟩⟩, ⟨.val false [⟨.int .i64, .sh, TC.i i⟩], ⟨0, 0⟩⟩] => some (((qm_4_fin A C m i)).map qm_4_out)
  | _ => .none
noncomputable def qm_lo : LoopTeller := fun r s => bif Nat.beq r 4 then qm_lo4 s else .none
theorem qm_4_r (A C : LL) (m i : Int) (fuel : Nat) : rounds (rnd tab FT D33 live 131 qm_lo 0 4) leave (fuel + 1) (qm_4_sl (A, C, m, i)) = ((qm_4_step A C m i)).run (goOn (fun s => rounds (rnd tab FT D33 live 131 qm_lo 0 4) leave fuel (qm_4_sl s)) fun w => some (qm_4_out w)) := by kernel_rfl
theorem qm_4_h (A C : LL) (m i : Int) (ow : qm_4_ω) : ((qm_4_fin A C m i)).val = some ow → ∃ fuel, loopN qm_4_st fuel (A, C, m, i) = some ow := by
  intro h
  have key : A.length = C.length → Typed tab (.slice 9) (.l A) → loopN qm_4_st (A.length + 1) (A, C, (A.length : Int), 0) = some (if allEq E_9 A C = true then .inr () else .inl ()) := by
    intro hl ht
    have hlen : A.length ≤ 140737488351232 := by have := typed_room ht; simp only [show (tab 9).bytes = 16 from rfl] at this; omega
    refine loopN_allEq A C E_9 (fun i => (A, C, (A.length : Int), (i : Int))) _ _ hl (fun i hi => ?_) ?_ A.length 0 (by omega)
    · show (qm_4_step A C (A.length : Int) (i : Int)).val = _
      unfold qm_4_step
      refine Tr.t (by simp; omega) ?_
      refine Tr.t (by constructor <;> omega) ?_
      refine Tr.t (by constructor <;> omega) ?_
      rw [wrap64 (i := (i : Int) + 1) (by omega) (by omega)]
      rw [Tr.val_br]
      show (if (!(E_9 (A.getD i []) (C.getD i []))) = true then _ else _) = _
      cases E_9 (A.getD i []) (C.getD i []) <;> rfl
    · show (qm_4_step A C (A.length : Int) (A.length : Int)).val = _
      refine Tr.n (by simp) ?_
      rfl
  simp only [qm_4_fin, Told.val] at h
  cases hk : allEq E_9 A C with
  | true =>
    rw [if_pos (show qm_k4_1 A C m i = true from hk)] at h
    split at h
    · rename_i ho
      obtain ⟨hl, rfl, ht, rfl⟩ := is_iff.1 ho
      cases h
      refine ⟨_, (key hl ht).trans ?_⟩
      rw [hk]; rfl
    · cases h
  | false =>
    rw [if_neg (show ¬qm_k4_1 A C m i = true from by rw [show qm_k4_1 A C m i = allEq E_9 A C from rfl, hk]; simp)] at h
    split at h
    · rename_i ho
      obtain ⟨hl, rfl, ht, rfl⟩ := is_iff.1 ho
      cases h
      refine ⟨_, (key hl ht).trans ?_⟩
      rw [hk]; rfl
    · cases h
theorem qm_is4 : LoopIs tab FT D33 live 131 qm_lo 0 4 := by
  refine loop_told (sl := qm_4_sl) (step := qm_4_st) (out := qm_4_out) (lor := qm_lo4) (fin := fun x => (qm_4_fin (x.1) (x.2.1) (x.2.2.1) (x.2.2.2))) (fun _ => rfl) ?_ (fun x n => qm_4_r x.1 x.2.1 x.2.2.1 x.2.2.2 n) (fun x ow => qm_4_h x.1 x.2.1 x.2.2.1 x.2.2.2 ow)
  intro s t h
  unfold qm_lo4 at h
  split at h
  · cases h; exact ⟨(_, _, _, _), rfl, rfl⟩
  · cases h
noncomputable def qm_t (A C : LL) : Tr (Bool) := (.ite ((!((A.length : Int) == (C.length : Int))) = true) (.ok false)
  (.ite ((qm_k4_1 A C (A.length : Int) (0 : Int)) = true) (.ite ((qm_o4_2 A C (A.length : Int) (0 : Int)) = true) (.ok true)
    .no)
   (.ite ((qm_o4_3 A C (A.length : Int) (0 : Int)) = true) (.ok false)
    .no)))
def qm_mk (p : Bool) : Res := [(false, [⟨.bool, .sh, TC.b p⟩])]
noncomputable def qm_c (A C : LL) : Bool := is (Typed tab (.slice 9) (.l A))
noncomputable def qm_v (A C : LL) : Bool := allEq E_9 A C
theorem qm_l (A C : LL) : (qm_c A C) = true → (qm_t A C).val = some (qm_v A C) := by
  intro h
  have ht := is_iff.1 h
  unfold qm_t
  by_cases hl : A.length = C.length
  · refine Tr.n (by simp [hl]) ?_
    cases hk : allEq E_9 A C with
    | true =>
      refine Tr.t (show allEq E_9 A C = true from hk) ?_
      refine Tr.t (is_true ⟨hl, rfl, ht, rfl⟩) ?_
      show _ = some (allEq E_9 A C); rw [hk]; rfl
    | false =>
      refine Tr.n (show ¬allEq E_9 A C = true from by rw [hk]; simp) ?_
      refine Tr.t (is_true ⟨hl, rfl, ht, rfl⟩) ?_
      show _ = some (allEq E_9 A C); rw [hk]; rfl
  · refine Tr.t (by simp; omega) ?_
    show _ = some (allEq E_9 A C)
    rw [allEq_ne hl]
    rfl
noncomputable def qm_S : List Arg → Option (Bool × Res) := fun xs => match xs with
  | [(false, [(.slice 9, TC.l A)]), (false, [(.slice 9, TC.l C)])] => some ((qm_c A C), qm_mk (qm_v A C))
  | _ => .none
theorem qm_e (A C : LL) : runF tab FT D33 live 131 qm_lo [(false, [(.slice 9, TC.l A)]), (false, [(.slice 9, TC.l C)])] = (qm_t A C).run fun p => some (qm_mk p) := by kernel_rfl
theorem qm_s : ∀ xs r, qm_S xs = some (true, r) → runF tab FT D33 live 131 qm_lo xs = some r := by
  intro xs r h
  unfold qm_S at h
  split at h
  · simp only [Option.some.injEq, Prod.mk.injEq] at h
    obtain ⟨h1, rfl⟩ := h
    exact fun_told (qm_e _ _) (qm_l _ _) h1
  · cases h
noncomputable def D34 : Dt := also D33 131 qm_S
theorem d34 : DOk Go.Proofs.Try.prog tab D34 := d33.also mixed_ok tab_ok names_ok (fnLoops_one (by kernel_rfl) qm_is4) qm_s
def E_2 (x y : List TC) : Bool := ((nth x 0).int == (nth y 0).int)
abbrev qp_4_σ := LL × LL × Int × Int
abbrev qp_4_ω := (Unit) ⊕ (Unit)
noncomputable def qp_4_step (A C : LL) (m i : Int) : Tr (qp_4_σ ⊕ qp_4_ω) := (.ite ((decide (i < m)) = true) (.ite ((0 : Int) ≤ i ∧ i < (A.length : Int)) (.ite ((0 : Int) ≤ i ∧ i < (C.length : Int)) (.ite ((!((nth (row A i) 0).int == (nth (row C i) 0).int)) = true) (.ok (.inr (.inl ())))
     (.ok (.inl (A, C, m, (IntKind.wrap .i64 (i + (1 : Int)))))))
    .no)
   .no)
  (.ok (.inr (.inr ()))))
noncomputable def qp_4_st : qp_4_σ → Tr (qp_4_σ ⊕ qp_4_ω) := fun x => (qp_4_step (x.1) (x.2.1) (x.2.2.1) (x.2.2.2))
noncomputable def qp_k4_1 (A C : LL) (m i : Int) : Bool := allEq E_2 A C
noncomputable def qp_o4_2 (A C : LL) (m i : Int) : Bool := is (A.length = C.length ∧ i = 0 ∧ Typed tab (.slice 2) (.l A) ∧ m = (A.length : Int))
noncomputable def qp_o4_3 (A C : LL) (m i : Int) : Bool := is (A.length = C.length ∧ i = 0 ∧ Typed tab (.slice 2) (.l A) ∧ m = (A.length : Int))
noncomputable def qp_4_fin (A C : LL) (m i : Int) : Told qp_4_ω := (.br (qp_k4_1 A C m i) (.leaf (qp_o4_2 A C m i) (.inr ())) (.leaf (qp_o4_3 A C m i) (.inl ())))
def qp_4_sl (x : qp_4_σ) : List Slot := [⟨.val false [⟨.slice 2, .sh, TC.l (x.1)⟩], ⟨0, 0⟩⟩, ⟨.val false [⟨.slice 2, .sh, TC.l (x.2.1)⟩], ⟨0, 0⟩⟩, ⟨.val false [⟨.int .i64, .sh, TC.i (x.2.2.1)⟩], ⟨0, 0⟩⟩, ⟨.val false [⟨.int .i64, .sh, TC.i (x.2.2.2)⟩], ⟨0, 0⟩⟩]
def qp_4_out : qp_4_ω → Ex × List Slot := (Sum.elim (fun x => (.ret, [⟨.val false [⟨.bool, .sh, TC.b false⟩], ⟨0, 0⟩⟩])) (fun x => (.exit 0, [Slot.none])))
noncomputable def qp_lo4 : List Slot → Option (Told (Ex × List Slot)) := fun s => match s with
  | [⟨.val false [⟨.slice 2, .sh, TC.l A⟩], ⟨0, 0⟩⟩, ⟨.val false [⟨.slice 2, .sh, TC.l C⟩], ⟨0, 0⟩⟩, ⟨.val false [⟨.int .i64, .sh, TC.i m⟩], ⟨0, 0⟩⟩, ⟨.val false [⟨.int .i64, .sh, TC.i i⟩], ⟨0, 0⟩⟩] => some (((qp_4_fin A C m i)).map qp_4_out)
  | _ => .none
noncomputable def qp_lo : LoopTeller := fun r s => bif Nat.beq r 4 then qp_lo4 s else .none
theorem qp_4_r (A C : LL) (m i : Int) (fuel : Nat) : rounds (rnd tab FT D34 live 132 qp_lo 0 4) leave (fuel + 1) (qp_4_sl (A, C, m, i)) = ((qp_4_step A C m i)).run (goOn (fun s => rounds (rnd tab FT D34 live 132 qp_lo 0 4) leave fuel (qp_4_sl s)) fun w => some (qp_4_out w)) := by kernel_rfl
theorem qp_4_h (A C : LL) (m i : Int) (ow : qp_4_ω) : ((qp_4_fin A C m i)).val = some ow → ∃ fuel, loopN qp_4_st fuel (A, C, m, i) = some ow := by
  intro h
  have key : A.length = C.length → Typed tab (.slice 2) (.l A) → loopN qp_4_st (A.length + 1) (A, C, (A.length : Int), 0) = some (if allEq E_2 A C = true then .inr () else .inl ()) := by
    intro hl ht
    have hlen : A.length ≤ 140737488351232 := by have := typed_room ht; simp only [show (tab 2).bytes = 8 from rfl] at this; omega
    refine loopN_allEq A C E_2 (fun i => (A, C, (A.length : Int), (i : Int))) _ _ hl (fun i hi => ?_) ?_ A.length 0 (by omega)
    · show (qp_4_step A C (A.length : Int) (i : Int)).val = _
      unfold qp_4_step
      refine Tr.t (by simp; omega) ?_
      refine Tr.t (by constructor <;> omega) ?_
      refine Tr.t (by constructor <;> omega) ?_
      rw [wrap64 (i := (i : Int) + 1) (by omega) (by omega)]
      rw [Tr.val_br]
      show (if (!(E_2 (A.getD i []) (C.getD i []))) = true then _ else _) = _
      cases E_2 (A.getD i []) (C.getD i []) <;> rfl
    · show (qp_4_step A C (A.length : Int) (A.length : Int)).val = _
      refine Tr.n (by simp) ?_
      rfl
  simp only [qp_4_fin, Told.val] at h
  cases hk : allEq E_2 A C with
  | true =>
    rw [if_pos (show qp_k4_1 A C m i = true from hk)] at h
    split at h
    · rename_i ho
      obtain ⟨hl, rfl, ht, rfl⟩ := is_iff.1 ho
      cases h
      refine ⟨_, (key hl ht).trans ?_⟩
      rw [hk]; rfl
    · cases h
  | false =>
    rw [if_neg (show ¬qp_k4_1 A C m i = true from by rw [show qp_k4_1 A C m i = allEq E_2 A C from rfl, hk]; simp)] at h
    split at h
    · rename_i ho
      obtain ⟨hl, rfl, ht, rfl⟩ := is_iff.1 ho
      cases h
      refine ⟨_, (key hl ht).trans ?_⟩
      rw [hk]; rfl
    · cases h
theorem qp_is4 : LoopIs tab FT D34 live 132 qp_lo 0 4 := by
  refine loop_told (sl := qp_4_sl) (step := qp_4_st) (out := qp_4_out) (lor := qp_lo4) (fin := fun x => (qp_4_fin (x.1) (x.2.1) (x.2.2.1) (x.2.2.2))) (fun _ => rfl) ?_ (fun x n => qp_4_r x.1 x.2.1 x.2.2.1 x.2.2.2 n) (fun x ow => qp_4_h x.1 x.2.1 x.2.2.1 x.2.2.2 ow)
  intro s t h
  unfold qp_lo4 at h
  split at h
  · cases h; exact ⟨(_, _, _, _), rfl, rfl⟩
  · cases h
noncomputable def qp_t (A C : LL) : Tr (Bool) := (.ite ((!((A.length : Int) == (C.length : Int))) = true) (.ok false)
  (.ite ((qp_k4_1 A C (A.length : Int) (0 : Int)) = true) (.ite ((qp_o4_2 A C (A.length : Int) (0 : Int)) = true) (.ok true)
    .no)
   (.ite ((qp_o4_3 A C (A.length : Int) (0 : Int)) = true) (.ok false)
    .no)))
def qp_mk (p : Bool) : Res := [(false, [⟨.bool, .sh, TC.b p⟩])]
noncomputable def qp_c (A C : LL) : Bool := is (Typed tab (.slice 2) (.l A))
noncomputable def qp_v (A C : LL) : Bool := allEq E_2 A C
theorem qp_l (A C : LL) : (qp_c A C) = true → (qp_t A C).val = some (qp_v A C) := by
  intro h
  have ht := is_iff.1 h
  unfold qp_t
  by_cases hl : A.length = C.length
  · refine Tr.n (by simp [hl]) ?_
    cases hk : allEq E_2 A C with
    | true =>
      refine Tr.t (show allEq E_2 A C = true from hk) ?_
      refine Tr.t (is_true ⟨hl, rfl, ht, rfl⟩) ?_
      show _ = some (allEq E_2 A C); rw [hk]; rfl
    | false =>
      refine Tr.n (show ¬allEq E_2 A C = true from by rw [hk]; simp) ?_
      refine Tr.t (is_true ⟨hl, rfl, ht, rfl⟩) ?_
      show _ = some (allEq E_2 A C); rw [hk]; rfl
  · refine Tr.t (by simp; omega) ?_
    show _ = some (allEq E_2 A C)
    rw [allEq_ne hl]
    rfl
noncomputable def qp_S : List Arg → Option (Bool × Res) := fun xs => match xs with
  | [(false, [(.slice 2, TC.l A)]), (false, [(.slice 2, TC.l C)])] => some ((qp_c A C), qp_mk (qp_v A C))
  | _ => .none
theorem qp_e (A C : LL) : runF tab FT D34 live 132 qp_lo [(false, [(.slice 2, TC.l A)]), (false, [(.slice 2, TC.l C)])] = (qp_t A C).run fun p => some (qp_mk p) := by kernel_rfl
theorem qp_s : ∀ xs r, qp_S xs = some (true, r) → runF tab FT D34 live 132 qp_lo xs = some r := by
  intro xs r h
  unfold qp_S at h
  split at h
  · simp only [Option.some.injEq, Prod.mk.injEq] at h
    obtain ⟨h1, rfl⟩ := h
    exact fun_told (qp_e _ _) (qp_l _ _) h1
  · cases h
noncomputable def D35 : Dt := also D34 132 qp_S
theorem d35 : DOk Go.Proofs.Try.prog tab D35 := d34.also mixed_ok tab_ok names_ok (fnLoops_one (by kernel_rfl) qp_is4) qp_s
theorem form_9 {A : LL} (h : Typed tab (.slice 9) (.l A)) {x : List TC} (hx : x ∈ A) : x = [TC.s (nth x 0).str] := by
  obtain ⟨hl, hk⟩ := typed_elem h hx
  have e0 : TC.s (nth x 0).str = nth x 0 := typed_str_eq (hk 0 (by decide))
  rw [e0]
  exact row_eta hl
theorem form_2 {A : LL} (h : Typed tab (.slice 2) (.l A)) {x : List TC} (hx : x ∈ A) : x = [TC.i (nth x 0).int] := by
  obtain ⟨hl, hk⟩ := typed_elem h hx
  have e0 : TC.i (nth x 0).int = nth x 0 := typed_int_eq (hk 0 (by decide))
  rw [e0]
  exact row_eta hl
theorem form_71 {A : LL} (h : Typed tab (.slice 71) (.l A)) {x : List TC} (hx : x ∈ A) : x = [TC.s (nth x 0).str, TC.i (nth x 1).int, TC.i (nth x 2).int, TC.i (nth x 3).int, TC.b (nth x 4).bool, TC.b (nth x 5).bool, TC.l (nth x 6).list, TC.l (nth x 7).list, TC.l (nth x 8).list, TC.l (nth x 9).list, TC.i (nth x 10).int] := by
  obtain ⟨hl, hk⟩ := typed_elem h hx
  have e0 : TC.s (nth x 0).str = nth x 0 := typed_str_eq (hk 0 (by decide))
  have e1 : TC.i (nth x 1).int = nth x 1 := typed_int_eq (hk 1 (by decide))
  have e2 : TC.i (nth x 2).int = nth x 2 := typed_int_eq (hk 2 (by decide))
  have e3 : TC.i (nth x 3).int = nth x 3 := typed_int_eq (hk 3 (by decide))
  have e4 : TC.b (nth x 4).bool = nth x 4 := typed_bool_eq (hk 4 (by decide))
  have e5 : TC.b (nth x 5).bool = nth x 5 := typed_bool_eq (hk 5 (by decide))
  have e6 : TC.l (nth x 6).list = nth x 6 := typed_list_eq (hk 6 (by decide))
  have e7 : TC.l (nth x 7).list = nth x 7 := typed_list_eq (hk 7 (by decide))
  have e8 : TC.l (nth x 8).list = nth x 8 := typed_list_eq (hk 8 (by decide))
  have e9 : TC.l (nth x 9).list = nth x 9 := typed_list_eq (hk 9 (by decide))
  have e10 : TC.i (nth x 10).int = nth x 10 := typed_int_eq (hk 10 (by decide))
  rw [e0, e1, e2, e3, e4, e5, e6, e7, e8, e9, e10]
  exact row_eta hl
theorem form_32 {A : LL} (h : Typed tab (.slice 32) (.l A)) {x : List TC} (hx : x ∈ A) : x = [TC.i (nth x 0).int, TC.i (nth x 1).int, TC.b (nth x 2).bool, TC.b (nth x 3).bool, TC.l (nth x 4).list, TC.l (nth x 5).list, TC.l (nth x 6).list, TC.l (nth x 7).list, TC.i (nth x 8).int] := by
  obtain ⟨hl, hk⟩ := typed_elem h hx
  have e0 : TC.i (nth x 0).int = nth x 0 := typed_int_eq (hk 0 (by decide))
  have e1 : TC.i (nth x 1).int = nth x 1 := typed_int_eq (hk 1 (by decide))
  have e2 : TC.b (nth x 2).bool = nth x 2 := typed_bool_eq (hk 2 (by decide))
  have e3 : TC.b (nth x 3).bool = nth x 3 := typed_bool_eq (hk 3 (by decide))
  have e4 : TC.l (nth x 4).list = nth x 4 := typed_list_eq (hk 4 (by decide))
  have e5 : TC.l (nth x 5).list = nth x 5 := typed_list_eq (hk 5 (by decide))
  have e6 : TC.l (nth x 6).list = nth x 6 := typed_list_eq (hk 6 (by decide))
  have e7 : TC.l (nth x 7).list = nth x 7 := typed_list_eq (hk 7 (by decide))
  have e8 : TC.i (nth x 8).int = nth x 8 := typed_int_eq (hk 8 (by decide))
  rw [e0, e1, e2, e3, e4, e5, e6, e7, e8]
  exact row_eta hl
section
class qz_O where n : Nat
variable [i_impl_SameType : qz_O]
noncomputable def qz_rc (k s : Int) (sg bg : Bool) (NA NU ME BA : LL) (ct k2 s2 : Int) (sg2 bg2 : Bool) (NA2 NU2 ME2 BA2 : LL) (ct2 : Int) : Bool := is (max (rowsDep ME) (rowsDep BA) < qz_O.n ∧ Typed tab (.slice 9) (.l NA) ∧ Typed tab (.slice 2) (.l NU) ∧ Typed tab (.slice 71) (.l ME) ∧ Typed tab (.slice 32) (.l BA) ∧ Typed tab (.slice 9) (.l NA2) ∧ Typed tab (.slice 2) (.l NU2) ∧ Typed tab (.slice 71) (.l ME2) ∧ Typed tab (.slice 32) (.l BA2))
noncomputable def qz_rv (k s : Int) (sg bg : Bool) (NA NU ME BA : LL) (ct k2 s2 : Int) (sg2 bg2 : Bool) (NA2 NU2 ME2 BA2 : LL) (ct2 : Int) : Bool := sameV k s sg bg NA NU ME BA ct k2 s2 sg2 bg2 NA2 NU2 ME2 BA2 ct2
def qz_rmk (p : Bool) : Res := [(false, [⟨.bool, .sh, TC.b p⟩])]
noncomputable def qz_rS : List Arg → Option (Bool × Res) := fun xs => match xs with
  | [(true, [(.int .i64, TC.i k), (.int .i64, TC.i s), (.bool, TC.b sg), (.bool, TC.b bg), (.slice 9, TC.l NA), (.slice 2, TC.l NU), (.slice 71, TC.l ME), (.slice 32, TC.l BA), (.int .i64, TC.i ct)]), (true, [(.int .i64, TC.i k2), (.int .i64, TC.i s2), (.bool, TC.b sg2), (.bool, TC.b bg2), (.slice 9, TC.l NA2), (.slice 2, TC.l NU2), (.slice 71, TC.l ME2), (.slice 32, TC.l BA2), (.int .i64, TC.i ct2)])] => some ((qz_rc k s sg bg NA NU ME BA ct k2 s2 sg2 bg2 NA2 NU2 ME2 BA2 ct2), qz_rmk (qz_rv k s sg bg NA NU ME BA ct k2 s2 sg2 bg2 NA2 NU2 ME2 BA2 ct2))
  | _ => .none
noncomputable def D36 : Dt := also D35 102 qz_rS
class qz_G : Prop where ok : DOk Go.Proofs.Try.prog tab D36
variable [g_impl_SameType : qz_G]
theorem d36 : DOk Go.Proofs.Try.prog tab D36 := qz_G.ok
noncomputable def qcc_t (a0 : BS) (a1 a2 a3 : Int) (a4 a5 : Bool) (a6 a7 a8 a9 : LL) (a10 : Int) (a11 : BS) (a12 a13 a14 : Int) (a15 a16 : Bool) (a17 a18 a19 a20 : LL) (a21 : Int) : Tr (Bool) := (.ite ((a0 == a11) = true) (.ite ((a1 == a12) = true) (.ite ((qz_rc a2 a3 a4 a5 a6 a7 a8 a9 a10 a13 a14 a15 a16 a17 a18 a19 a20 a21) = true) (.ok (qz_rv a2 a3 a4 a5 a6 a7 a8 a9 a10 a13 a14 a15 a16 a17 a18 a19 a20 a21))
    .no)
   (.ok false))
  (.ok false))
def qcc_mk (p : Bool) : Res := [(false, [⟨.bool, .sh, TC.b p⟩])]
noncomputable def qcc_c (a0 : BS) (a1 a2 a3 : Int) (a4 a5 : Bool) (a6 a7 a8 a9 : LL) (a10 : Int) (a11 : BS) (a12 a13 a14 : Int) (a15 a16 : Bool) (a17 a18 a19 a20 : LL) (a21 : Int) : Bool := (bif (a0 == a11) then (bif (a1 == a12) then ((qz_rc a2 a3 a4 a5 a6 a7 a8 a9 a10 a13 a14 a15 a16 a17 a18 a19 a20 a21) && true) else true) else true)
noncomputable def qcc_v (a0 : BS) (a1 a2 a3 : Int) (a4 a5 : Bool) (a6 a7 a8 a9 : LL) (a10 : Int) (a11 : BS) (a12 a13 a14 : Int) (a15 a16 : Bool) (a17 a18 a19 a20 : LL) (a21 : Int) : Bool := (bif (a0 == a11) then (bif (a1 == a12) then (qz_rv a2 a3 a4 a5 a6 a7 a8 a9 a10 a13 a14 a15 a16 a17 a18 a19 a20 a21) else false) else false)
theorem qcc_l (a0 : BS) (a1 a2 a3 : Int) (a4 a5 : Bool) (a6 a7 a8 a9 : LL) (a10 : Int) (a11 : BS) (a12 a13 a14 : Int) (a15 a16 : Bool) (a17 a18 a19 a20 : LL) (a21 : Int) : (qcc_c a0 a1 a2 a3 a4 a5 a6 a7 a8 a9 a10 a11 a12 a13 a14 a15 a16 a17 a18 a19 a20 a21) = true → (qcc_t a0 a1 a2 a3 a4 a5 a6 a7 a8 a9 a10 a11 a12 a13 a14 a15 a16 a17 a18 a19 a20 a21).val = some (qcc_v a0 a1 a2 a3 a4 a5 a6 a7 a8 a9 a10 a11 a12 a13 a14 a15 a16 a17 a18 a19 a20 a21) := by
  unfold qcc_t qcc_v qcc_c
  exact fun h => (Tr.ss h (fun h => (Tr.ss h (fun h => (Tr.gb h fun h => rfl)) (fun h => rfl))) (fun h => rfl))
noncomputable def qcc_S : List Arg → Option (Bool × Res) := fun xs => match xs with
  | [(true, [(.str, TC.s a0), (.int .i64, TC.i a1), (.int .i64, TC.i a2), (.int .i64, TC.i a3), (.bool, TC.b a4), (.bool, TC.b a5), (.slice 9, TC.l a6), (.slice 2, TC.l a7), (.slice 71, TC.l a8), (.slice 32, TC.l a9), (.int .i64, TC.i a10)]), (true, [(.str, TC.s a11), (.int .i64, TC.i a12), (.int .i64, TC.i a13), (.int .i64, TC.i a14), (.bool, TC.b a15), (.bool, TC.b a16), (.slice 9, TC.l a17), (.slice 2, TC.l a18), (.slice 71, TC.l a19), (.slice 32, TC.l a20), (.int .i64, TC.i a21)])] => some ((qcc_c a0 a1 a2 a3 a4 a5 a6 a7 a8 a9 a10 a11 a12 a13 a14 a15 a16 a17 a18 a19 a20 a21), qcc_mk (qcc_v a0 a1 a2 a3 a4 a5 a6 a7 a8 a9 a10 a11 a12 a13 a14 a15 a16 a17 a18 a19 a20 a21))
  | _ => .none
theorem qcc_e (a0 : BS) (a1 a2 a3 : Int) (a4 a5 : Bool) (a6 a7 a8 a9 : LL) (a10 : Int) (a11 : BS) (a12 a13 a14 : Int) (a15 a16 : Bool) (a17 a18 a19 a20 : LL) (a21 : Int) : runF tab FT D36 live 134 noLoops [(true, [(.str, TC.s a0), (.int .i64, TC.i a1), (.int .i64, TC.i a2), (.int .i64, TC.i a3), (.bool, TC.b a4), (.bool, TC.b a5), (.slice 9, TC.l a6), (.slice 2, TC.l a7), (.slice 71, TC.l a8), (.slice 32, TC.l a9), (.int .i64, TC.i a10)]), (true, [(.str, TC.s a11), (.int .i64, TC.i a12), (.int .i64, TC.i a13), (.int .i64, TC.i a14), (.bool, TC.b a15), (.bool, TC.b a16), (.slice 9, TC.l a17), (.slice 2, TC.l a18), (.slice 71, TC.l a19), (.slice 32, TC.l a20), (.int .i64, TC.i a21)])] = (qcc_t a0 a1 a2 a3 a4 a5 a6 a7 a8 a9 a10 a11 a12 a13 a14 a15 a16 a17 a18 a19 a20 a21).run fun p => some (qcc_mk p) := by kernel_rfl
theorem qcc_s : ∀ xs r, qcc_S xs = some (true, r) → runF tab FT D36 live 134 noLoops xs = some r := by
  intro xs r h
  unfold qcc_S at h
  split at h
  · simp only [Option.some.injEq, Prod.mk.injEq] at h
    obtain ⟨h1, rfl⟩ := h
    exact fun_told (qcc_e _ _ _ _ _ _ _ _ _ _ _ _ _ _ _ _ _ _ _ _ _ _) (qcc_l _ _ _ _ _ _ _ _ _ _ _ _ _ _ _ _ _ _ _ _ _ _) h1
  · cases h
noncomputable def D37 : Dt := also D36 134 qcc_S
theorem d37 : DOk Go.Proofs.Try.prog tab D37 := d36.also mixed_ok tab_ok names_ok noLoops_ok qcc_s
noncomputable def qa_E (x y : List TC) : Bool := qcc_v ((nth x 0).str) ((nth x 1).int) ((nth x 2).int) ((nth x 3).int) ((nth x 4).bool) ((nth x 5).bool) ((nth x 6).list) ((nth x 7).list) ((nth x 8).list) ((nth x 9).list) ((nth x 10).int) ((nth y 0).str) ((nth y 1).int) ((nth y 2).int) ((nth y 3).int) ((nth y 4).bool) ((nth y 5).bool) ((nth y 6).list) ((nth y 7).list) ((nth y 8).list) ((nth y 9).list) ((nth y 10).int)
abbrev qa_4_σ := LL × LL × Int × Int
abbrev qa_4_ω := (Unit) ⊕ (Unit)
noncomputable def qa_4_step (C A : LL) (m i : Int) : Tr (qa_4_σ ⊕ qa_4_ω) := (.ite ((decide (i < m)) = true) (.ite ((0 : Int) ≤ i ∧ i < (A.length : Int)) (.ite ((0 : Int) ≤ i ∧ i < (C.length : Int)) (.ite ((qcc_c ((nth (row A i) 0).str) ((nth (row A i) 1).int) ((nth (row A i) 2).int) ((nth (row A i) 3).int) ((nth (row A i) 4).bool) ((nth (row A i) 5).bool) ((nth (row A i) 6).list) ((nth (row A i) 7).list) ((nth (row A i) 8).list) ((nth (row A i) 9).list) ((nth (row A i) 10).int) ((nth (row C i) 0).str) ((nth (row C i) 1).int) ((nth (row C i) 2).int) ((nth (row C i) 3).int) ((nth (row C i) 4).bool) ((nth (row C i) 5).bool) ((nth (row C i) 6).list) ((nth (row C i) 7).list) ((nth (row C i) 8).list) ((nth (row C i) 9).list) ((nth (row C i) 10).int)) = true) (.ite ((!(qcc_v ((nth (row A i) 0).str) ((nth (row A i) 1).int) ((nth (row A i) 2).int) ((nth (row A i) 3).int) ((nth (row A i) 4).bool) ((nth (row A i) 5).bool) ((nth (row A i) 6).list) ((nth (row A i) 7).list) ((nth (row A i) 8).list) ((nth (row A i) 9).list) ((nth (row A i) 10).int) ((nth (row C i) 0).str) ((nth (row C i) 1).int) ((nth (row C i) 2).int) ((nth (row C i) 3).int) ((nth (row C i) 4).bool) ((nth (row C i) 5).bool) ((nth (row C i) 6).list) ((nth (row C i) 7).list) ((nth (row C i) 8).list) ((nth (row C i) 9).list) ((nth (row C i) 10).int))) = true) (.ok (.inr (.inl ())))
      (.ok (.inl (C, A, m, (IntKind.wrap .i64 (i + (1 : Int)))))))
     .no)
    .no)
   .no)
  (.ok (.inr (.inr ()))))
noncomputable def qa_4_st : qa_4_σ → Tr (qa_4_σ ⊕ qa_4_ω) := fun x => (qa_4_step (x.1) (x.2.1) (x.2.2.1) (x.2.2.2))
noncomputable def qa_k4_1 (C A : LL) (m i : Int) : Bool := allEq qa_E A C
noncomputable def qa_o4_2 (C A : LL) (m i : Int) : Bool := is (A.length = C.length ∧ i = 0 ∧ Typed tab (.slice 71) (.l A) ∧ m = (A.length : Int) ∧ (∀ x y : List TC, x ∈ A → y ∈ C → qcc_c ((nth x 0).str) ((nth x 1).int) ((nth x 2).int) ((nth x 3).int) ((nth x 4).bool) ((nth x 5).bool) ((nth x 6).list) ((nth x 7).list) ((nth x 8).list) ((nth x 9).list) ((nth x 10).int) ((nth y 0).str) ((nth y 1).int) ((nth y 2).int) ((nth y 3).int) ((nth y 4).bool) ((nth y 5).bool) ((nth y 6).list) ((nth y 7).list) ((nth y 8).list) ((nth y 9).list) ((nth y 10).int) = true))
noncomputable def qa_o4_3 (C A : LL) (m i : Int) : Bool := is (A.length = C.length ∧ i = 0 ∧ Typed tab (.slice 71) (.l A) ∧ m = (A.length : Int) ∧ (∀ x y : List TC, x ∈ A → y ∈ C → qcc_c ((nth x 0).str) ((nth x 1).int) ((nth x 2).int) ((nth x 3).int) ((nth x 4).bool) ((nth x 5).bool) ((nth x 6).list) ((nth x 7).list) ((nth x 8).list) ((nth x 9).list) ((nth x 10).int) ((nth y 0).str) ((nth y 1).int) ((nth y 2).int) ((nth y 3).int) ((nth y 4).bool) ((nth y 5).bool) ((nth y 6).list) ((nth y 7).list) ((nth y 8).list) ((nth y 9).list) ((nth y 10).int) = true))
noncomputable def qa_4_fin (C A : LL) (m i : Int) : Told qa_4_ω := (.br (qa_k4_1 C A m i) (.leaf (qa_o4_2 C A m i) (.inr ())) (.leaf (qa_o4_3 C A m i) (.inl ())))
def qa_4_sl (x : qa_4_σ) : List Slot := [⟨.val false [⟨.slice 71, .sh, TC.l (x.1)⟩], ⟨0, 0⟩⟩, ⟨.val false [⟨.func, .sh, TC.f 134 []⟩], ⟨0, 0⟩⟩, ⟨.val false [⟨.slice 71, .sh, TC.l (x.2.1)⟩], ⟨0, 0⟩⟩, ⟨.val false [⟨.int .i64, .sh, TC.i (x.2.2.1)⟩], ⟨0, 0⟩⟩, ⟨.val false [⟨.int .i64, .sh, TC.i (x.2.2.2)⟩], ⟨0, 0⟩⟩]
def qa_4_out : qa_4_ω → Ex × List Slot := (Sum.elim (fun x => (.ret, [⟨.val false [⟨.bool, .sh, TC.b false⟩], ⟨0, 0⟩⟩])) (fun x => (.exit 0, [Slot.none])))
noncomputable def qa_lo4 : List Slot → Option (Told (Ex × List Slot)) := fun s => match s with
  | [⟨.val false [⟨.slice 71, .sh, TC.l C⟩], ⟨0, 0⟩⟩, ⟨.val false [⟨.func, .sh, TC.f 134 []⟩], ⟨0, 0⟩⟩, ⟨.val false [⟨.slice 71, .sh, TC.l A⟩], ⟨0, 0⟩⟩, ⟨.val false [⟨.int .i64, .sh, TC.i m⟩], ⟨0, 0⟩⟩, ⟨.val false [⟨.int .i64, .sh, TC.i i⟩], ⟨0, 0⟩⟩] => some (((qa_4_fin C A m i)).map qa_4_out)
  | _ => .none
noncomputable def qa_lo : LoopTeller := fun r s => bif Nat.beq r 4 then qa_lo4 s else .none
theorem qa_4_r (C A : LL) (m i : Int) (fuel : Nat) : rounds (rnd tab FT D37 live 133 qa_lo 0 4) leave (fuel + 1) (qa_4_sl (C, A, m, i)) = ((qa_4_step C A m i)).run (goOn (fun s => rounds (rnd tab FT D37 live 133 qa_lo 0 4) leave fuel (qa_4_sl s)) fun w => some (qa_4_out w)) := by kernel_rfl
theorem qa_4_h (C A : LL) (m i : Int) (ow : qa_4_ω) : ((qa_4_fin C A m i)).val = some ow → ∃ fuel, loopN qa_4_st fuel (C, A, m, i) = some ow := by
  intro h
  have key : A.length = C.length → Typed tab (.slice 71) (.l A) → (∀ x y : List TC, x ∈ A → y ∈ C → qcc_c ((nth x 0).str) ((nth x 1).int) ((nth x 2).int) ((nth x 3).int) ((nth x 4).bool) ((nth x 5).bool) ((nth x 6).list) ((nth x 7).list) ((nth x 8).list) ((nth x 9).list) ((nth x 10).int) ((nth y 0).str) ((nth y 1).int) ((nth y 2).int) ((nth y 3).int) ((nth y 4).bool) ((nth y 5).bool) ((nth y 6).list) ((nth y 7).list) ((nth y 8).list) ((nth y 9).list) ((nth y 10).int) = true) → loopN qa_4_st (A.length + 1) (C, A, (A.length : Int), 0) = some (if allEq qa_E A C = true then .inr () else .inl ()) := by
    intro hl ht hr
    have hlen : A.length ≤ 140737488351232 := by have := typed_room ht; simp only [show (tab 71).bytes = 152 from rfl] at this; omega
    refine loopN_allEq A C qa_E (fun i => (C, A, (A.length : Int), (i : Int))) _ _ hl (fun i hi => ?_) ?_ A.length 0 (by omega)
    · show (qa_4_step C A (A.length : Int) (i : Int)).val = _
      unfold qa_4_step
      refine Tr.t (by simp; omega) ?_
      refine Tr.t (by constructor <;> omega) ?_
      refine Tr.t (by constructor <;> omega) ?_
      refine Tr.t (hr _ _ (mem_getD hi) (mem_getD (by omega))) ?_
      rw [wrap64 (i := (i : Int) + 1) (by omega) (by omega)]
      rw [Tr.val_br]
      show (if (!(qa_E (A.getD i []) (C.getD i []))) = true then _ else _) = _
      cases qa_E (A.getD i []) (C.getD i []) <;> rfl
    · show (qa_4_step C A (A.length : Int) (A.length : Int)).val = _
      refine Tr.n (by simp) ?_
      rfl
  simp only [qa_4_fin, Told.val] at h
  cases hk : allEq qa_E A C with
  | true =>
    rw [if_pos (show qa_k4_1 C A m i = true from hk)] at h
    split at h
    · rename_i ho
      obtain ⟨hl, rfl, ht, rfl, hr⟩ := is_iff.1 ho
      cases h
      refine ⟨_, (key hl ht hr).trans ?_⟩
      rw [hk]; rfl
    · cases h
  | false =>
    rw [if_neg (show ¬qa_k4_1 C A m i = true from by rw [show qa_k4_1 C A m i = allEq qa_E A C from rfl, hk]; simp)] at h
    split at h
    · rename_i ho
      obtain ⟨hl, rfl, ht, rfl, hr⟩ := is_iff.1 ho
      cases h
      refine ⟨_, (key hl ht hr).trans ?_⟩
      rw [hk]; rfl
    · cases h
theorem qa_is4 : LoopIs tab FT D37 live 133 qa_lo 0 4 := by
  refine loop_told (sl := qa_4_sl) (step := qa_4_st) (out := qa_4_out) (lor := qa_lo4) (fin := fun x => (qa_4_fin (x.1) (x.2.1) (x.2.2.1) (x.2.2.2))) (fun _ => rfl) ?_ (fun x n => qa_4_r x.1 x.2.1 x.2.2.1 x.2.2.2 n) (fun x ow => qa_4_h x.1 x.2.1 x.2.2.1 x.2.2.2 ow)
  intro s t h
  unfold qa_lo4 at h
  split at h
  · cases h; exact ⟨(_, _, _, _), rfl, rfl⟩
  · cases h
noncomputable def qa_t (A C : LL) : Tr (Bool) := (.ite ((!((A.length : Int) == (C.length : Int))) = true) (.ok false)
  (.ite ((qa_k4_1 C A (A.length : Int) (0 : Int)) = true) (.ite ((qa_o4_2 C A (A.length : Int) (0 : Int)) = true) (.ok true)
    .no)
   (.ite ((qa_o4_3 C A (A.length : Int) (0 : Int)) = true) (.ok false)
    .no)))
def qa_mk (p : Bool) : Res := [(false, [⟨.bool, .sh, TC.b p⟩])]
noncomputable def qa_c (A C : LL) : Bool := is (Typed tab (.slice 71) (.l A) ∧ (∀ x y : List TC, x ∈ A → y ∈ C → qcc_c ((nth x 0).str) ((nth x 1).int) ((nth x 2).int) ((nth x 3).int) ((nth x 4).bool) ((nth x 5).bool) ((nth x 6).list) ((nth x 7).list) ((nth x 8).list) ((nth x 9).list) ((nth x 10).int) ((nth y 0).str) ((nth y 1).int) ((nth y 2).int) ((nth y 3).int) ((nth y 4).bool) ((nth y 5).bool) ((nth y 6).list) ((nth y 7).list) ((nth y 8).list) ((nth y 9).list) ((nth y 10).int) = true))
noncomputable def qa_v (A C : LL) : Bool := allEq qa_E A C
theorem qa_l (A C : LL) : (qa_c A C) = true → (qa_t A C).val = some (qa_v A C) := by
  intro h
  obtain ⟨ht, hr⟩ := is_iff.1 h
  unfold qa_t
  by_cases hl : A.length = C.length
  · refine Tr.n (by simp [hl]) ?_
    cases hk : allEq qa_E A C with
    | true =>
      refine Tr.t (show allEq qa_E A C = true from hk) ?_
      refine Tr.t (is_true ⟨hl, rfl, ht, rfl, hr⟩) ?_
      show _ = some (allEq qa_E A C); rw [hk]; rfl
    | false =>
      refine Tr.n (show ¬allEq qa_E A C = true from by rw [hk]; simp) ?_
      refine Tr.t (is_true ⟨hl, rfl, ht, rfl, hr⟩) ?_
      show _ = some (allEq qa_E A C); rw [hk]; rfl
  · refine Tr.t (by simp; omega) ?_
    show _ = some (allEq qa_E A C)
    rw [allEq_ne hl]; rfl
noncomputable def qa_S : List Arg → Option (Bool × Res) := fun xs => match xs with
  | [(false, [(.slice 71, TC.l A)]), (false, [(.slice 71, TC.l C)]), (false, [(.func, TC.f 134 [])])] => some ((qa_c A C), qa_mk (qa_v A C))
  | _ => .none
theorem qa_e (A C : LL) : runF tab FT D37 live 133 qa_lo [(false, [(.slice 71, TC.l A)]), (false, [(.slice 71, TC.l C)]), (false, [(.func, TC.f 134 [])])] = (qa_t A C).run fun p => some (qa_mk p) := by kernel_rfl
theorem qa_s : ∀ xs r, qa_S xs = some (true, r) → runF tab FT D37 live 133 qa_lo xs = some r := by
  intro xs r h
  unfold qa_S at h
  split at h
  · simp only [Option.some.injEq, Prod.mk.injEq] at h
    obtain ⟨h1, rfl⟩ := h
    exact fun_told (qa_e _ _) (qa_l _ _) h1
  · cases h
noncomputable def D38 : Dt := also D37 133 qa_S
theorem d38 : DOk Go.Proofs.Try.prog tab D38 := d37.also mixed_ok tab_ok names_ok (fnLoops_one (by kernel_rfl) qa_is4) qa_s
noncomputable def qb_E (x y : List TC) : Bool := qz_rv ((nth x 0).int) ((nth x 1).int) ((nth x 2).bool) ((nth x 3).bool) ((nth x 4).list) ((nth x 5).list) ((nth x 6).list) ((nth x 7).list) ((nth x 8).int) ((nth y 0).int) ((nth y 1).int) ((nth y 2).bool) ((nth y 3).bool) ((nth y 4).list) ((nth y 5).list) ((nth y 6).list) ((nth y 7).list) ((nth y 8).int)
abbrev qb_4_σ := LL × LL × Int × Int
abbrev qb_4_ω := (Unit) ⊕ (Unit)
noncomputable def qb_4_step (C A : LL) (m i : Int) : Tr (qb_4_σ ⊕ qb_4_ω) := (.ite ((decide (i < m)) = true) (.ite ((0 : Int) ≤ i ∧ i < (A.length : Int)) (.ite ((0 : Int) ≤ i ∧ i < (C.length : Int)) (.ite ((qz_rc ((nth (row A i) 0).int) ((nth (row A i) 1).int) ((nth (row A i) 2).bool) ((nth (row A i) 3).bool) ((nth (row A i) 4).list) ((nth (row A i) 5).list) ((nth (row A i) 6).list) ((nth (row A i) 7).list) ((nth (row A i) 8).int) ((nth (row C i) 0).int) ((nth (row C i) 1).int) ((nth (row C i) 2).bool) ((nth (row C i) 3).bool) ((nth (row C i) 4).list) ((nth (row C i) 5).list) ((nth (row C i) 6).list) ((nth (row C i) 7).list) ((nth (row C i) 8).int)) = true) (.ite ((!(qz_rv ((nth (row A i) 0).int) ((nth (row A i) 1).int) ((nth (row A i) 2).bool) ((nth (row A i) 3).bool) ((nth (row A i) 4).list) ((nth (row A i) 5).list) ((nth (row A i) 6).list) ((nth (row A i) 7).list) ((nth (row A i) 8).int) ((nth (row C i) 0).int) ((nth (row C i) 1).int) ((nth (row C i) 2).bool) ((nth (row C i) 3).bool) ((nth (row C i) 4).list) ((nth (row C i) 5).list) ((nth (row C i) 6).list) ((nth (row C i) 7).list) ((nth (row C i) 8).int))) = true) (.ok (.inr (.inl ())))
      (.ok (.inl (C, A, m, (IntKind.wrap .i64 (i + (1 : Int)))))))
     .no)
    .no)
   .no)
  (.ok (.inr (.inr ()))))
noncomputable def qb_4_st : qb_4_σ → Tr (qb_4_σ ⊕ qb_4_ω) := fun x => (qb_4_step (x.1) (x.2.1) (x.2.2.1) (x.2.2.2))
noncomputable def qb_k4_1 (C A : LL) (m i : Int) : Bool := allEq qb_E A C
noncomputable def qb_o4_2 (C A : LL) (m i : Int) : Bool := is (A.length = C.length ∧ i = 0 ∧ Typed tab (.slice 32) (.l A) ∧ m = (A.length : Int) ∧ (∀ x y : List TC, x ∈ A → y ∈ C → qz_rc ((nth x 0).int) ((nth x 1).int) ((nth x 2).bool) ((nth x 3).bool) ((nth x 4).list) ((nth x 5).list) ((nth x 6).list) ((nth x 7).list) ((nth x 8).int) ((nth y 0).int) ((nth y 1).int) ((nth y 2).bool) ((nth y 3).bool) ((nth y 4).list) ((nth y 5).list) ((nth y 6).list) ((nth y 7).list) ((nth y 8).int) = true))
noncomputable def qb_o4_3 (C A : LL) (m i : Int) : Bool := is (A.length = C.length ∧ i = 0 ∧ Typed tab (.slice 32) (.l A) ∧ m = (A.length : Int) ∧ (∀ x y : List TC, x ∈ A → y ∈ C → qz_rc ((nth x 0).int) ((nth x 1).int) ((nth x 2).bool) ((nth x 3).bool) ((nth x 4).list) ((nth x 5).list) ((nth x 6).list) ((nth x 7).list) ((nth x 8).int) ((nth y 0).int) ((nth y 1).int) ((nth y 2).bool) ((nth y 3).bool) ((nth y 4).list) ((nth y 5).list) ((nth y 6).list) ((nth y 7).list) ((nth y 8).int) = true))
noncomputable def qb_4_fin (C A : LL) (m i : Int) : Told qb_4_ω := (.br (qb_k4_1 C A m i) (.leaf (qb_o4_2 C A m i) (.inr ())) (.leaf (qb_o4_3 C A m i) (.inl ())))
def qb_4_sl (x : qb_4_σ) : List Slot := [⟨.val false [⟨.slice 32, .sh, TC.l (x.1)⟩], ⟨0, 0⟩⟩, ⟨.val false [⟨.func, .sh, TC.f 102 []⟩], ⟨0, 0⟩⟩, ⟨.val false [⟨.slice 32, .sh, TC.l (x.2.1)⟩], ⟨0, 0⟩⟩, ⟨.val false [⟨.int .i64, .sh, TC.i (x.2.2.1)⟩], ⟨0, 0⟩⟩, ⟨.val false [⟨.int .i64, .sh, TC.i (x.2.2.2)⟩], ⟨0, 0⟩⟩]
def qb_4_out : qb_4_ω → Ex × List Slot := (Sum.elim (fun x => (.ret, [⟨.val false [⟨.bool, .sh, TC.b false⟩], ⟨0, 0⟩⟩])) (fun x => (.exit 0, [Slot.none])))
noncomputable def qb_lo4 : List Slot → Option (Told (Ex × List Slot)) := fun s => match s with
  | [⟨.val false [⟨.slice 32, .sh, TC.l C⟩], ⟨0, 0⟩⟩, ⟨.val false [⟨.func, .sh, TC.f 102 []⟩], ⟨0, 0⟩⟩, ⟨.val false [⟨.slice 32, .sh, TC.l A⟩], ⟨0, 0⟩⟩, ⟨.val false [⟨.int .i64, .sh, TC.i m⟩], ⟨0, 0⟩⟩, ⟨.val false [⟨.int .i64, .sh, TC.i i⟩], ⟨0, 0⟩⟩] => some (((qb_4_fin C A m i)).map qb_4_out)
  | _ => .none
noncomputable def qb_lo : LoopTeller := fun r s => bif Nat.beq r 4 then qb_lo4 s else .none
theorem qb_4_r (C A : LL) (m i : Int) (fuel : Nat) : rounds (rnd tab FT D38 live 135 qb_lo 0 4) leave (fuel + 1) (qb_4_sl (C, A, m, i)) = ((qb_4_step C A m i)).run (goOn (fun s => rounds (rnd tab FT D38 live 135 qb_lo 0 4) leave fuel (qb_4_sl s)) fun w => some (qb_4_out w)) := by kernel_rfl
theorem qb_4_h (C A : LL) (m i : Int) (ow : qb_4_ω) : ((qb_4_fin C A m i)).val = some ow → ∃ fuel, loopN qb_4_st fuel (C, A, m, i) = some ow := by
  intro h
  have key : A.length = C.length → Typed tab (.slice 32) (.l A) → (∀ x y : List TC, x ∈ A → y ∈ C → qz_rc ((nth x 0).int) ((nth x 1).int) ((nth x 2).bool) ((nth x 3).bool) ((nth x 4).list) ((nth x 5).list) ((nth x 6).list) ((nth x 7).list) ((nth x 8).int) ((nth y 0).int) ((nth y 1).int) ((nth y 2).bool) ((nth y 3).bool) ((nth y 4).list) ((nth y 5).list) ((nth y 6).list) ((nth y 7).list) ((nth y 8).int) = true) → loopN qb_4_st (A.length + 1) (C, A, (A.length : Int), 0) = some (if allEq qb_E A C = true then .inr () else .inl ()) := by
    intro hl ht hr
    have hlen : A.length ≤ 140737488351232 := by have := typed_room ht; simp only [show (tab 32).bytes = 128 from rfl] at this; omega
    refine loopN_allEq A C qb_E (fun i => (C, A, (A.length : Int), (i : Int))) _ _ hl (fun i hi => ?_) ?_ A.length 0 (by omega)
    · show (qb_4_step C A (A.length : Int) (i : Int)).val = _
      unfold qb_4_step
      refine Tr.t (by simp; omega) ?_
      refine Tr.t (by constructor <;> omega) ?_
      refine Tr.t (by constructor <;> omega) ?_
      refine Tr.t (hr _ _ (mem_getD hi) (mem_getD (by omega))) ?_
      rw [wrap64 (i := (i : Int) + 1) (by omega) (by omega)]
      rw [Tr.val_br]
      show (if (!(qb_E (A.getD i []) (C.getD i []))) = true then _ else _) = _
      cases qb_E (A.getD i []) (C.getD i []) <;> rfl
    · show (qb_4_step C A (A.length : Int) (A.length : Int)).val = _
      refine Tr.n (by simp) ?_
      rfl
  simp only [qb_4_fin, Told.val] at h
  cases hk : allEq qb_E A C with
  | true =>
    rw [if_pos (show qb_k4_1 C A m i = true from hk)] at h
    split at h
    · rename_i ho
      obtain ⟨hl, rfl, ht, rfl, hr⟩ := is_iff.1 ho
      cases h
      refine ⟨_, (key hl ht hr).trans ?_⟩
      rw [hk]; rfl
    · cases h
  | false =>
    rw [if_neg (show ¬qb_k4_1 C A m i = true from by rw [show qb_k4_1 C A m i = allEq qb_E A C from rfl, hk]; simp)] at h
    split at h
    · rename_i ho
      obtain ⟨hl, rfl, ht, rfl, hr⟩ := is_iff.1 ho
      cases h
      refine ⟨_, (key hl ht hr).trans ?_⟩
      rw [hk]; rfl
    · cases h
theorem qb_is4 : LoopIs tab FT D38 live 135 qb_lo 0 4 := by
  refine loop_told (sl := qb_4_sl) (step := qb_4_st) (out := qb_4_out) (lor := qb_lo4) (fin := fun x => (qb_4_fin (x.1) (x.2.1) (x.2.2.1) (x.2.2.2))) (fun _ => rfl) ?_ (fun x n => qb_4_r x.1 x.2.1 x.2.2.1 x.2.2.2 n) (fun x ow => qb_4_h x.1 x.2.1 x.2.2.1 x.2.2.2 ow)
  intro s t h
  unfold qb_lo4 at h
  split at h
  · cases h; exact ⟨(_, _, _, _), rfl, rfl⟩
  · cases h
noncomputable def qb_t (A C : LL) : Tr (Bool) := (.ite ((!((A.length : Int) == (C.length : Int))) = true) (.ok false)
  (.ite ((qb_k4_1 C A (A.length : Int) (0 : Int)) = true) (.ite ((qb_o4_2 C A (A.length : Int) (0 : Int)) = true) (.ok true)
    .no)
   (.ite ((qb_o4_3 C A (A.length : Int) (0 : Int)) = true) (.ok false)
    .no)))
def qb_mk (p : Bool) : Res := [(false, [⟨.bool, .sh, TC.b p⟩])]
noncomputable def qb_c (A C : LL) : Bool := is (Typed tab (.slice 32) (.l A) ∧ (∀ x y : List TC, x ∈ A → y ∈ C → qz_rc ((nth x 0).int) ((nth x 1).int) ((nth x 2).bool) ((nth x 3).bool) ((nth x 4).list) ((nth x 5).list) ((nth x 6).list) ((nth x 7).list) ((nth x 8).int) ((nth y 0).int) ((nth y 1).int) ((nth y 2).bool) ((nth y 3).bool) ((nth y 4).list) ((nth y 5).list) ((nth y 6).list) ((nth y 7).list) ((nth y 8).int) = true))
noncomputable def qb_v (A C : LL) : Bool := allEq qb_E A C
theorem qb_l (A C : LL) : (qb_c A C) = true → (qb_t A C).val = some (qb_v A C) := by
  intro h
  obtain ⟨ht, hr⟩ := is_iff.1 h
  unfold qb_t
  by_cases hl : A.length = C.length
  · refine Tr.n (by simp [hl]) ?_
    cases hk : allEq qb_E A C with
    | true =>
      refine Tr.t (show allEq qb_E A C = true from hk) ?_
      refine Tr.t (is_true ⟨hl, rfl, ht, rfl, hr⟩) ?_
      show _ = some (allEq qb_E A C); rw [hk]; rfl
    | false =>
      refine Tr.n (show ¬allEq qb_E A C = true from by rw [hk]; simp) ?_
      refine Tr.t (is_true ⟨hl, rfl, ht, rfl, hr⟩) ?_
      show _ = some (allEq qb_E A C); rw [hk]; rfl
  · refine Tr.t (by simp; omega) ?_
    show _ = some (allEq qb_E A C)
    rw [allEq_ne hl]; rfl
noncomputable def qb_S : List Arg → Option (Bool × Res) := fun xs => match xs with
  | [(false, [(.slice 32, TC.l A)]), (false, [(.slice 32, TC.l C)]), (false, [(.func, TC.f 102 [])])] => some ((qb_c A C), qb_mk (qb_v A C))
  | _ => .none
theorem qb_e (A C : LL) : runF tab FT D38 live 135 qb_lo [(false, [(.slice 32, TC.l A)]), (false, [(.slice 32, TC.l C)]), (false, [(.func, TC.f 102 [])])] = (qb_t A C).run fun p => some (qb_mk p) := by kernel_rfl
theorem qb_s : ∀ xs r, qb_S xs = some (true, r) → runF tab FT D38 live 135 qb_lo xs = some r := by
  intro xs r h
  unfold qb_S at h
  split at h
  · simp only [Option.some.injEq, Prod.mk.injEq] at h
    obtain ⟨h1, rfl⟩ := h
    exact fun_told (qb_e _ _) (qb_l _ _) h1
  · cases h
noncomputable def D39 : Dt := also D38 135 qb_S
theorem d39 : DOk Go.Proofs.Try.prog tab D39 := d38.also mixed_ok tab_ok names_ok (fnLoops_one (by kernel_rfl) qb_is4) qb_s
noncomputable def qz_t (k s : Int) (sg bg : Bool) (NA NU ME BA : LL) (ct k2 s2 : Int) (sg2 bg2 : Bool) (NA2 NU2 ME2 BA2 : LL) (ct2 : Int) : Tr (Bool) := (.ite ((k == k2) = true) (.ite ((s == s2) = true) (.ite ((sg == sg2) = true) (.ite ((bg == bg2) = true) (.ite ((ct == ct2) = true) (.ite ((qm_c NA NA2) = true) (.ite ((qm_v NA NA2) = true) (.ite ((qp_c NU NU2) = true) (.ite ((qp_v NU NU2) = true) (.ite ((qa_c ME ME2) = true) (.ite ((qa_v ME ME2) = true) (.ite ((qb_c BA BA2) = true) (.ok (qb_v BA BA2))
             .no)
            (.ok false))
           .no)
          (.ok false))
         .no)
        (.ok false))
       .no)
      (.ok false))
     (.ok false))
    (.ok false))
   (.ok false))
  (.ok false))
def qz_mk (p : Bool) : Res := [(false, [⟨.bool, .sh, TC.b p⟩])]
noncomputable def qz_c (k s : Int) (sg bg : Bool) (NA NU ME BA : LL) (ct k2 s2 : Int) (sg2 bg2 : Bool) (NA2 NU2 ME2 BA2 : LL) (ct2 : Int) : Bool := (bif (k == k2) then (bif (s == s2) then (bif (sg == sg2) then (bif (bg == bg2) then (bif (ct == ct2) then ((qm_c NA NA2) && (bif (qm_v NA NA2) then ((qp_c NU NU2) && (bif (qp_v NU NU2) then ((qa_c ME ME2) && (bif (qa_v ME ME2) then ((qb_c BA BA2) && true) else true)) else true)) else true)) else true) else true) else true) else true) else true)
noncomputable def qz_v (k s : Int) (sg bg : Bool) (NA NU ME BA : LL) (ct k2 s2 : Int) (sg2 bg2 : Bool) (NA2 NU2 ME2 BA2 : LL) (ct2 : Int) : Bool := (bif (k == k2) then (bif (s == s2) then (bif (sg == sg2) then (bif (bg == bg2) then (bif (ct == ct2) then (bif (qm_v NA NA2) then (bif (qp_v NU NU2) then (bif (qa_v ME ME2) then (qb_v BA BA2) else false) else false) else false) else false) else false) else false) else false) else false)
theorem qz_l (k s : Int) (sg bg : Bool) (NA NU ME BA : LL) (ct k2 s2 : Int) (sg2 bg2 : Bool) (NA2 NU2 ME2 BA2 : LL) (ct2 : Int) : (qz_c k s sg bg NA NU ME BA ct k2 s2 sg2 bg2 NA2 NU2 ME2 BA2 ct2) = true → (qz_t k s sg bg NA NU ME BA ct k2 s2 sg2 bg2 NA2 NU2 ME2 BA2 ct2).val = some (qz_v k s sg bg NA NU ME BA ct k2 s2 sg2 bg2 NA2 NU2 ME2 BA2 ct2) := by
  unfold qz_t qz_v qz_c
  exact fun h => (Tr.ss h (fun h => (Tr.ss h (fun h => (Tr.ss h (fun h => (Tr.ss h (fun h => (Tr.ss h (fun h => (Tr.gb h fun h => (Tr.ss h (fun h => (Tr.gb h fun h => (Tr.ss h (fun h => (Tr.gb h fun h => (Tr.ss h (fun h => (Tr.gb h fun h => rfl)) (fun h => rfl)))) (fun h => rfl)))) (fun h => rfl)))) (fun h => rfl))) (fun h => rfl))) (fun h => rfl))) (fun h => rfl))) (fun h => rfl))
noncomputable def qz_S : List Arg → Option (Bool × Res) := fun xs => match xs with
  | [(true, [(.int .i64, TC.i k), (.int .i64, TC.i s), (.bool, TC.b sg), (.bool, TC.b bg), (.slice 9, TC.l NA), (.slice 2, TC.l NU), (.slice 71, TC.l ME), (.slice 32, TC.l BA), (.int .i64, TC.i ct)]), (true, [(.int .i64, TC.i k2), (.int .i64, TC.i s2), (.bool, TC.b sg2), (.bool, TC.b bg2), (.slice 9, TC.l NA2), (.slice 2, TC.l NU2), (.slice 71, TC.l ME2), (.slice 32, TC.l BA2), (.int .i64, TC.i ct2)])] => some ((qz_c k s sg bg NA NU ME BA ct k2 s2 sg2 bg2 NA2 NU2 ME2 BA2 ct2), qz_mk (qz_v k s sg bg NA NU ME BA ct k2 s2 sg2 bg2 NA2 NU2 ME2 BA2 ct2))
  | _ => .none
theorem qz_e (k s : Int) (sg bg : Bool) (NA NU ME BA : LL) (ct k2 s2 : Int) (sg2 bg2 : Bool) (NA2 NU2 ME2 BA2 : LL) (ct2 : Int) : runF tab FT D39 live 102 noLoops [(true, [(.int .i64, TC.i k), (.int .i64, TC.i s), (.bool, TC.b sg), (.bool, TC.b bg), (.slice 9, TC.l NA), (.slice 2, TC.l NU), (.slice 71, TC.l ME), (.slice 32, TC.l BA), (.int .i64, TC.i ct)]), (true, [(.int .i64, TC.i k2), (.int .i64, TC.i s2), (.bool, TC.b sg2), (.bool, TC.b bg2), (.slice 9, TC.l NA2), (.slice 2, TC.l NU2), (.slice 71, TC.l ME2), (.slice 32, TC.l BA2), (.int .i64, TC.i ct2)])] = (qz_t k s sg bg NA NU ME BA ct k2 s2 sg2 bg2 NA2 NU2 ME2 BA2 ct2).run fun p => some (qz_mk p) := by kernel_rfl
theorem qz_s : ∀ xs r, qz_S xs = some (true, r) → runF tab FT D39 live 102 noLoops xs = some r := by
  intro xs r h
  unfold qz_S at h
  split at h
  · simp only [Option.some.injEq, Prod.mk.injEq] at h
    obtain ⟨h1, rfl⟩ := h
    exact fun_told (qz_e _ _ _ _ _ _ _ _ _ _ _ _ _ _ _ _ _ _) (qz_l _ _ _ _ _ _ _ _ _ _ _ _ _ _ _ _ _ _) h1
  · cases h
theorem qz_nx (k s : Int) (sg bg : Bool) (NA NU ME BA : LL) (ct k2 s2 : Int) (sg2 bg2 : Bool) (NA2 NU2 ME2 BA2 : LL) (ct2 : Int) : is (max (rowsDep ME) (rowsDep BA) < qz_O.n + 1 ∧ Typed tab (.slice 9) (.l NA) ∧ Typed tab (.slice 2) (.l NU) ∧ Typed tab (.slice 71) (.l ME) ∧ Typed tab (.slice 32) (.l BA) ∧ Typed tab (.slice 9) (.l NA2) ∧ Typed tab (.slice 2) (.l NU2) ∧ Typed tab (.slice 71) (.l ME2) ∧ Typed tab (.slice 32) (.l BA2)) = true → (qz_c k s sg bg NA NU ME BA ct k2 s2 sg2 bg2 NA2 NU2 ME2 BA2 ct2) = true ∧ (qz_v k s sg bg NA NU ME BA ct k2 s2 sg2 bg2 NA2 NU2 ME2 BA2 ct2) = sameV k s sg bg NA NU ME BA ct k2 s2 sg2 bg2 NA2 NU2 ME2 BA2 ct2 := by
  intro h
  obtain ⟨hM, a4, a5, a6, a7, b4, b5, b6, b7⟩ := is_iff.1 h
  have q6 : ∀ x y, x ∈ ME → y ∈ ME2 → qz_rc (nth x 2).int (nth x 3).int (nth x 4).bool (nth x 5).bool (nth x 6).list (nth x 7).list (nth x 8).list (nth x 9).list (nth x 10).int (nth y 2).int (nth y 3).int (nth y 4).bool (nth y 5).bool (nth y 6).list (nth y 7).list (nth y 8).list (nth y 9).list (nth y 10).int = true := fun x y hx hy => is_true ⟨by have a := dep_cell hx 8; have b := dep_cell hx 9; omega, typed_list ((typed_elem a6 hx).2 6 (by decide)), typed_list ((typed_elem a6 hx).2 7 (by decide)), typed_list ((typed_elem a6 hx).2 8 (by decide)), typed_list ((typed_elem a6 hx).2 9 (by decide)), typed_list ((typed_elem b6 hy).2 6 (by decide)), typed_list ((typed_elem b6 hy).2 7 (by decide)), typed_list ((typed_elem b6 hy).2 8 (by decide)), typed_list ((typed_elem b6 hy).2 9 (by decide))⟩
  have q7 : ∀ x y, x ∈ BA → y ∈ BA2 → qz_rc (nth x 0).int (nth x 1).int (nth x 2).bool (nth x 3).bool (nth x 4).list (nth x 5).list (nth x 6).list (nth x 7).list (nth x 8).int (nth y 0).int (nth y 1).int (nth y 2).bool (nth y 3).bool (nth y 4).list (nth y 5).list (nth y 6).list (nth y 7).list (nth y 8).int = true := fun x y hx hy => is_true ⟨by have a := dep_cell hx 6; have b := dep_cell hx 7; omega, typed_list ((typed_elem a7 hx).2 4 (by decide)), typed_list ((typed_elem a7 hx).2 5 (by decide)), typed_list ((typed_elem a7 hx).2 6 (by decide)), typed_list ((typed_elem a7 hx).2 7 (by decide)), typed_list ((typed_elem b7 hy).2 4 (by decide)), typed_list ((typed_elem b7 hy).2 5 (by decide)), typed_list ((typed_elem b7 hy).2 6 (by decide)), typed_list ((typed_elem b7 hy).2 7 (by decide))⟩
  have c4 : qm_c NA NA2 = true := is_true a4
  have c5 : qp_c NU NU2 = true := is_true a5
  have c6 : qa_c ME ME2 = true := is_true ⟨a6, fun x y hx hy => by simp only [qcc_c, q6 x y hx hy, Bool.and_true, bif_same]⟩
  have c7 : qb_c BA BA2 = true := is_true ⟨a7, q7⟩
  have v4 : qm_v NA NA2 = eqL NA NA2 := allEq_eqL (E := E_9) (fun x y hx hy => by
    constructor
    · intro h
      have hh : (nth x 0).str = (nth y 0).str := by
        simpa [E_9] using h
      have e0 := hh
      have hx' := form_9 a4 hx
      have hy' := form_9 b4 hy
      rw [hx', hy', e0]
    · rintro rfl
      simp [E_9])
  have v5 : qp_v NU NU2 = eqL NU NU2 := allEq_eqL (E := E_2) (fun x y hx hy => by
    constructor
    · intro h
      have hh : (nth x 0).int = (nth y 0).int := by
        simpa [E_2] using h
      have e0 := hh
      have hx' := form_2 a5 hx
      have hy' := form_2 b5 hy
      rw [hx', hy', e0]
    · rintro rfl
      simp [E_2])
  have v6 : qa_v ME ME2 = eqL ME ME2 := allEq_eqL (E := qa_E) (fun x y hx hy => by
    constructor
    · intro h
      have hh : (nth x 0).str = (nth y 0).str ∧ (nth x 1).int = (nth y 1).int ∧ (nth x 2).int = (nth y 2).int ∧ (nth x 3).int = (nth y 3).int ∧ (nth x 4).bool = (nth y 4).bool ∧ (nth x 5).bool = (nth y 5).bool ∧ (nth x 6).list = (nth y 6).list ∧ (nth x 7).list = (nth y 7).list ∧ (nth x 8).list = (nth y 8).list ∧ (nth x 9).list = (nth y 9).list ∧ (nth x 10).int = (nth y 10).int := by
        have h : (bif ((nth x 0).str == (nth y 0).str) then (bif ((nth x 1).int == (nth y 1).int) then sameV (nth x 2).int (nth x 3).int (nth x 4).bool (nth x 5).bool (nth x 6).list (nth x 7).list (nth x 8).list (nth x 9).list (nth x 10).int (nth y 2).int (nth y 3).int (nth y 4).bool (nth y 5).bool (nth y 6).list (nth y 7).list (nth y 8).list (nth y 9).list (nth y 10).int else false) else false) = true := h
        simp only [bif_ft, sameV, Bool.and_eq_true, beq_iff_eq, eqL_iff] at h
        obtain ⟨n, o, h⟩ := h
        exact ⟨n, o, h.1, h.2.1, h.2.2.1, h.2.2.2.1, h.2.2.2.2.2.1, h.2.2.2.2.2.2.1, h.2.2.2.2.2.2.2.1, h.2.2.2.2.2.2.2.2, h.2.2.2.2.1⟩
      obtain ⟨e0, e1, e2, e3, e4, e5, e6, e7, e8, e9, e10⟩ := hh
      have hx' := form_71 a6 hx
      have hy' := form_71 b6 hy
      rw [hx', hy', e0, e1, e2, e3, e4, e5, e6, e7, e8, e9, e10]
    · rintro rfl
      show (bif ((nth x 0).str == (nth x 0).str) then (bif ((nth x 1).int == (nth x 1).int) then sameV (nth x 2).int (nth x 3).int (nth x 4).bool (nth x 5).bool (nth x 6).list (nth x 7).list (nth x 8).list (nth x 9).list (nth x 10).int (nth x 2).int (nth x 3).int (nth x 4).bool (nth x 5).bool (nth x 6).list (nth x 7).list (nth x 8).list (nth x 9).list (nth x 10).int else false) else false) = true
      simp [sameV, eqL_refl])
  have v7 : qb_v BA BA2 = eqL BA BA2 := allEq_eqL (E := qb_E) (fun x y hx hy => by
    constructor
    · intro h
      have hh : (nth x 0).int = (nth y 0).int ∧ (nth x 1).int = (nth y 1).int ∧ (nth x 2).bool = (nth y 2).bool ∧ (nth x 3).bool = (nth y 3).bool ∧ (nth x 4).list = (nth y 4).list ∧ (nth x 5).list = (nth y 5).list ∧ (nth x 6).list = (nth y 6).list ∧ (nth x 7).list = (nth y 7).list ∧ (nth x 8).int = (nth y 8).int := by
        have h : sameV (nth x 0).int (nth x 1).int (nth x 2).bool (nth x 3).bool (nth x 4).list (nth x 5).list (nth x 6).list (nth x 7).list (nth x 8).int (nth y 0).int (nth y 1).int (nth y 2).bool (nth y 3).bool (nth y 4).list (nth y 5).list (nth y 6).list (nth y 7).list (nth y 8).int = true := h
        simp only [sameV, Bool.and_eq_true, beq_iff_eq, eqL_iff] at h
        exact ⟨h.1, h.2.1, h.2.2.1, h.2.2.2.1, h.2.2.2.2.2.1, h.2.2.2.2.2.2.1, h.2.2.2.2.2.2.2.1, h.2.2.2.2.2.2.2.2, h.2.2.2.2.1⟩
      obtain ⟨e0, e1, e2, e3, e4, e5, e6, e7, e8⟩ := hh
      have hx' := form_32 a7 hx
      have hy' := form_32 b7 hy
      rw [hx', hy', e0, e1, e2, e3, e4, e5, e6, e7, e8]
    · rintro rfl
      show sameV (nth x 0).int (nth x 1).int (nth x 2).bool (nth x 3).bool (nth x 4).list (nth x 5).list (nth x 6).list (nth x 7).list (nth x 8).int (nth x 0).int (nth x 1).int (nth x 2).bool (nth x 3).bool (nth x 4).list (nth x 5).list (nth x 6).list (nth x 7).list (nth x 8).int = true
      simp [sameV, eqL_refl])
  constructor
  · unfold qz_c
    simp only [c4, c5, c6, c7, Bool.true_and, Bool.and_true, bif_same]
  · unfold qz_v sameV
    rw [v4, v5, v6, v7]
    simp only [bif_ft]
theorem qz_nxr (k s : Int) (sg bg : Bool) (NA NU ME BA : LL) (ct k2 s2 : Int) (sg2 bg2 : Bool) (NA2 NU2 ME2 BA2 : LL) (ct2 : Int) : qz_rc (i_impl_SameType := ⟨qz_O.n + 1⟩) k s sg bg NA NU ME BA ct k2 s2 sg2 bg2 NA2 NU2 ME2 BA2 ct2 = true → (qz_c k s sg bg NA NU ME BA ct k2 s2 sg2 bg2 NA2 NU2 ME2 BA2 ct2) = true ∧ (qz_v k s sg bg NA NU ME BA ct k2 s2 sg2 bg2 NA2 NU2 ME2 BA2 ct2) = (qz_rv k s sg bg NA NU ME BA ct k2 s2 sg2 bg2 NA2 NU2 ME2 BA2 ct2) := fun h => qz_nx k s sg bg NA NU ME BA ct k2 s2 sg2 bg2 NA2 NU2 ME2 BA2 ct2 h
theorem qz_rs : ∀ xs r, qz_rS (i_impl_SameType := ⟨qz_O.n + 1⟩) xs = some (true, r) → runF tab FT D39 live 102 noLoops xs = some r := by
  intro xs r h
  unfold qz_rS at h
  split at h
  · simp only [Option.some.injEq, Prod.mk.injEq] at h
    obtain ⟨h1, rfl⟩ := h
    have hx := qz_nxr _ _ _ _ _ _ _ _ _ _ _ _ _ _ _ _ _ _ h1
    have ht := fun_told (qz_e _ _ _ _ _ _ _ _ _ _ _ _ _ _ _ _ _ _) (qz_l _ _ _ _ _ _ _ _ _ _ _ _ _ _ _ _ _ _) hx.1
    rw [hx.2] at ht
    exact ht
  · cases h
theorem qz_step : qz_G (i_impl_SameType := ⟨qz_O.n + 1⟩) := by
  have h := DOk.also2 (S := qz_rS (i_impl_SameType := ⟨qz_O.n + 1⟩)) mixed_ok tab_ok names_ok d35 d39 noLoops_ok qz_rs
  refine qz_G.mk (i_impl_SameType := ⟨qz_O.n + 1⟩) ?_
  exact h
abbrev qh_2_σ := LL × Int × Int × Int
abbrev qh_2_ω := (Int) ⊕ (Unit)
noncomputable def qh_2_step (A : LL) (v m i : Int) : Tr (qh_2_σ ⊕ qh_2_ω) := (.ite ((decide (i < m)) = true) (.ite ((0 : Int) ≤ i ∧ i < (A.length : Int)) (.ite ((v == (nth (row A i) 0).int) = true) (.ok (.inr (.inl i)))
    (.ok (.inl (A, v, m, (IntKind.wrap .i64 (i + (1 : Int)))))))
   .no)
  (.ok (.inr (.inr ()))))
noncomputable def qh_2_st : qh_2_σ → Tr (qh_2_σ ⊕ qh_2_ω) := fun x => (qh_2_step (x.1) (x.2.1) (x.2.2.1) (x.2.2.2))
noncomputable def qh_k2_1 (A : LL) (v m i : Int) : Bool := A.all (fun x => !(v == (nth x 0).int))
noncomputable def qh_o2_2 (A : LL) (v m i : Int) : Bool := is (i = 0 ∧ A.length ≤ 140737488351232 ∧ m = (A.length : Int))
noncomputable def qh_o2_3 (A : LL) (v m i : Int) : Bool := is (i = 0 ∧ A.length ≤ 140737488351232 ∧ m = (A.length : Int))
noncomputable def qh_u2_3 (A : LL) (v m i : Int) : Int := (Int.ofNat (A.findIdx fun x => !(fun x => !(v == (nth x 0).int)) x))
noncomputable def qh_2_fin (A : LL) (v m i : Int) : Told qh_2_ω := (.br (qh_k2_1 A v m i) (.leaf (qh_o2_2 A v m i) (.inr ())) (.leaf (qh_o2_3 A v m i) (.inl (qh_u2_3 A v m i))))
def qh_2_sl (x : qh_2_σ) : List Slot := [⟨.val false [⟨.slice 2, .sh, TC.l (x.1)⟩], ⟨0, 0⟩⟩, ⟨.val false [⟨.int .i64, .sh, TC.i (x.2.1)⟩], ⟨0, 0⟩⟩, ⟨.val false [⟨.int .i64, .sh, TC.i (x.2.2.1)⟩], ⟨0, 0⟩⟩, ⟨.val false [⟨.int .i64, .sh, TC.i (x.2.2.2)⟩], ⟨0, 0⟩⟩]
def qh_2_out : qh_2_ω → Ex × List Slot := (Sum.elim (fun x => (.ret, [⟨.val false [⟨.int .i64, .sh, TC.i x⟩], ⟨0, 0⟩⟩])) (fun x => (.exit 0, [Slot.none])))
noncomputable def qh_lo2 : List Slot → Option (Told (Ex × List Slot)) := fun s => match s with
  | [⟨.val false [⟨.slice 2, .sh, TC.l A⟩], ⟨0, 0⟩⟩, ⟨.val false [⟨.int .i64, .sh, TC.i v⟩], ⟨0, 0⟩⟩, ⟨.val false [⟨.int .i64, .sh, TC.i m⟩], ⟨0, 0⟩⟩, ⟨.val false [⟨.int .i64, .sh, TC.i i⟩], ⟨0, 0⟩⟩] => some (((qh_2_fin A v m i)).map qh_2_out)
  | _ => .none
noncomputable def qh_lo : LoopTeller := fun r s => bif Nat.beq r 2 then qh_lo2 s else .none
theorem qh_2_r (A : LL) (v m i : Int) (fuel : Nat) : rounds (rnd tab FT D39 live 150 qh_lo 0 2) leave (fuel + 1) (qh_2_sl (A, v, m, i)) = ((qh_2_step A v m i)).run (goOn (fun s => rounds (rnd tab FT D39 live 150 qh_lo 0 2) leave fuel (qh_2_sl s)) fun w => some (qh_2_out w)) := by kernel_rfl
theorem qh_2_h (A : LL) (v m i : Int) (ow : qh_2_ω) : ((qh_2_fin A v m i)).val = some ow → ∃ fuel, loopN qh_2_st fuel (A, v, m, i) = some ow := by
  intro h
  have key : A.length ≤ 140737488351232 → loopN qh_2_st (A.length + 1) (A, v, (A.length : Int), (0 : Int)) = some (if A.all (fun x => !(v == (nth x 0).int)) = true then (.inr ()) else (.inl (Int.ofNat (A.findIdx fun x => !(fun x => !(v == (nth x 0).int)) x)))) := by
    intro ht
    have hlen : A.length ≤ 140737488351232 := ht
    have key := loopN_scan (step := qh_2_st) A [] (fun x => !(v == (nth x 0).int)) (fun a _ => a) (fun i a => (A, v, (A.length : Int), (i : Int))) (fun a => (.inr ())) (fun i a => (.inl (i : Int))) (fun i a hi => ?_) (fun a => ?_) A.length 0 () (by omega)
    · first | (rw [Nat.zero_add] at key; exact key) | exact key
    · skip
      show (qh_2_step A v (A.length : Int) (i : Int)).val = _
      unfold qh_2_step
      refine Tr.t (by simp; omega) ?_
      skip
      refine Tr.t (by first | omega | (constructor <;> omega)) ?_
      refine Tr.b2 (fun hP => ?_) (fun _ => rfl)
      rw [Tr.val_ok, wrap64 (i := (i : Int) + 1) (by omega) (by omega)]; rfl
    · show (qh_2_step A v (A.length : Int) (A.length : Int)).val = _
      refine Tr.n (by simp) ?_
      rfl
  simp only [qh_2_fin, Told.val] at h
  cases hk : A.all (fun x => !(v == (nth x 0).int)) with
  | true =>
    rw [if_pos (show qh_k2_1 A v m i = true from hk)] at h
    split at h
    · rename_i ho
      obtain ⟨rfl, ht, rfl⟩ := is_iff.1 ho
      cases h
      refine ⟨_, (key ht).trans ?_⟩
      rw [hk]; rfl
    · cases h
  | false =>
    rw [if_neg (show ¬qh_k2_1 A v m i = true from by rw [show qh_k2_1 A v m i = (A.all (fun x => !(v == (nth x 0).int))) from rfl, hk]; simp)] at h
    split at h
    · rename_i ho
      obtain ⟨rfl, ht, rfl⟩ := is_iff.1 ho
      cases h
      refine ⟨_, (key ht).trans ?_⟩
      rw [hk]; rfl
    · cases h
theorem qh_is2 : LoopIs tab FT D39 live 150 qh_lo 0 2 := by
  refine loop_told (sl := qh_2_sl) (step := qh_2_st) (out := qh_2_out) (lor := qh_lo2) (fin := fun x => (qh_2_fin (x.1) (x.2.1) (x.2.2.1) (x.2.2.2))) (fun _ => rfl) ?_ (fun x n => qh_2_r x.1 x.2.1 x.2.2.1 x.2.2.2 n) (fun x ow => qh_2_h x.1 x.2.1 x.2.2.1 x.2.2.2 ow)
  intro s t h
  unfold qh_lo2 at h
  split at h
  · cases h; exact ⟨(_, _, _, _), rfl, rfl⟩
  · cases h
noncomputable def qh_t (A : LL) (v : Int) : Tr (Int) := (.ite ((qh_k2_1 A v (A.length : Int) (0 : Int)) = true) (.ite ((qh_o2_2 A v (A.length : Int) (0 : Int)) = true) (.ok (-1 : Int))
   .no)
  (.ite ((qh_o2_3 A v (A.length : Int) (0 : Int)) = true) (.ok (qh_u2_3 A v (A.length : Int) (0 : Int)))
   .no))
def qh_mk (p : Int) : Res := [(false, [⟨.int .i64, .sh, TC.i p⟩])]
noncomputable def qh_c (A : LL) (v : Int) : Bool := (bif (qh_k2_1 A v (A.length : Int) (0 : Int)) then ((qh_o2_2 A v (A.length : Int) (0 : Int)) && true) else ((qh_o2_3 A v (A.length : Int) (0 : Int)) && true))
noncomputable def qh_v (A : LL) (v : Int) : Int := (bif (qh_k2_1 A v (A.length : Int) (0 : Int)) then (-1 : Int) else (qh_u2_3 A v (A.length : Int) (0 : Int)))
theorem qh_l (A : LL) (v : Int) : (qh_c A v) = true → (qh_t A v).val = some (qh_v A v) := by
  unfold qh_t qh_v qh_c
  exact fun h => (Tr.ss h (fun h => (Tr.gb h fun h => rfl)) (fun h => (Tr.gb h fun h => rfl)))
noncomputable def qh_S : List Arg → Option (Bool × Res) := fun xs => match xs with
  | [(false, [(.slice 2, TC.l A)]), (false, [(.int .i64, TC.i v)])] => some ((qh_c A v), qh_mk (qh_v A v))
  | _ => .none
theorem qh_e (A : LL) (v : Int) : runF tab FT D39 live 150 qh_lo [(false, [(.slice 2, TC.l A)]), (false, [(.int .i64, TC.i v)])] = (qh_t A v).run fun p => some (qh_mk p) := by kernel_rfl
theorem qh_s : ∀ xs r, qh_S xs = some (true, r) → runF tab FT D39 live 150 qh_lo xs = some r := by
  intro xs r h
  unfold qh_S at h
  split at h
  · simp only [Option.some.injEq, Prod.mk.injEq] at h
    obtain ⟨h1, rfl⟩ := h
    exact fun_told (qh_e _ _) (qh_l _ _) h1
  · cases h
noncomputable def D40 : Dt := also D39 150 qh_S
theorem d40 : DOk Go.Proofs.Try.prog tab D40 := d39.also mixed_ok tab_ok names_ok (fnLoops_one (by kernel_rfl) qh_is2) qh_s
theorem qh_cc {A : LL} {v : Int} (hl : A.length ≤ 140737488351232) : (qh_c A v) = true := by
  unfold qh_c
  refine bifT (fun b1 => ?_) (fun b1 => ?_)
  · skip
    refine andT (by exact is_true ⟨rfl, hl, rfl⟩) ?_
    rfl
  · skip
    refine andT (by exact is_true ⟨rfl, hl, rfl⟩) ?_
    rfl
noncomputable def qbs_t (a0 : LL) (a1 : Int) : Tr (Bool) := (.ite ((qh_c a0 a1) = true) (.ok (decide ((qh_v a0 a1) ≥ (0 : Int))))
  .no)
def qbs_mk (p : Bool) : Res := [(false, [⟨.bool, .sh, TC.b p⟩])]
noncomputable def qbs_c (a0 : LL) (a1 : Int) : Bool := (qh_c a0 a1)
noncomputable def qbs_v (a0 : LL) (a1 : Int) : Bool := (decide ((qh_v a0 a1) ≥ (0 : Int)))
theorem qbs_l (a0 : LL) (a1 : Int) : (qbs_c a0 a1) = true → (qbs_t a0 a1).val = some (qbs_v a0 a1) := by
  intro h
  have hc0 : (qh_c a0 a1) = true := h
  unfold qbs_t
  exact (Tr.t hc0 rfl)
noncomputable def qbs_S : List Arg → Option (Bool × Res) := fun xs => match xs with
  | [(false, [(.slice 2, TC.l a0)]), (false, [(.int .i64, TC.i a1)])] => some ((qbs_c a0 a1), qbs_mk (qbs_v a0 a1))
  | _ => .none
theorem qbs_e (a0 : LL) (a1 : Int) : runF tab FT D40 live 136 noLoops [(false, [(.slice 2, TC.l a0)]), (false, [(.int .i64, TC.i a1)])] = (qbs_t a0 a1).run fun p => some (qbs_mk p) := by kernel_rfl
theorem qbs_s : ∀ xs r, qbs_S xs = some (true, r) → runF tab FT D40 live 136 noLoops xs = some r := by
  intro xs r h
  unfold qbs_S at h
  split at h
  · simp only [Option.some.injEq, Prod.mk.injEq] at h
    obtain ⟨h1, rfl⟩ := h
    exact fun_told (qbs_e _ _) (qbs_l _ _) h1
  · cases h
noncomputable def D41 : Dt := also D40 136 qbs_S
theorem d41 : DOk Go.Proofs.Try.prog tab D41 := d40.also mixed_ok tab_ok names_ok noLoops_ok qbs_s
noncomputable def qca_t (k s : Int) (sg bg : Bool) (NA NU ME BA : LL) (ct : Int) : Tr (Bool) := (.ite ((qbs_c [[TC.i (1 : Int)], [TC.i (2 : Int)], [TC.i (4 : Int)], [TC.i (8 : Int)]] s) = true) (.ite ((qbs_v [[TC.i (1 : Int)], [TC.i (2 : Int)], [TC.i (4 : Int)], [TC.i (8 : Int)]] s) = true) (.ite (sg = true) (.ite (bg = true) (.ok (!(s == (1 : Int))))
     (.ok true))
    (.ite ((decide (s < (8 : Int))) = true) (.ite (bg = true) (.ok (!(s == (1 : Int))))
      (.ok true))
     (.ok false)))
   (.ok false))
  .no)
def qca_mk (p : Bool) : Res := [(false, [⟨.bool, .sh, TC.b p⟩])]
noncomputable def qca_c (k s : Int) (sg bg : Bool) (NA NU ME BA : LL) (ct : Int) : Bool := ((qbs_c [[TC.i (1 : Int)], [TC.i (2 : Int)], [TC.i (4 : Int)], [TC.i (8 : Int)]] s) && (bif (qbs_v [[TC.i (1 : Int)], [TC.i (2 : Int)], [TC.i (4 : Int)], [TC.i (8 : Int)]] s) then (bif sg then (bif bg then true else true) else (bif (decide (s < (8 : Int))) then (bif bg then true else true) else true)) else true))
noncomputable def qca_v (k s : Int) (sg bg : Bool) (NA NU ME BA : LL) (ct : Int) : Bool := (bif (qbs_v [[TC.i (1 : Int)], [TC.i (2 : Int)], [TC.i (4 : Int)], [TC.i (8 : Int)]] s) then (bif sg then (bif bg then (!(s == (1 : Int))) else true) else (bif (decide (s < (8 : Int))) then (bif bg then (!(s == (1 : Int))) else true) else false)) else false)
theorem qca_l (k s : Int) (sg bg : Bool) (NA NU ME BA : LL) (ct : Int) : (qca_c k s sg bg NA NU ME BA ct) = true → (qca_t k s sg bg NA NU ME BA ct).val = some (qca_v k s sg bg NA NU ME BA ct) := by
  unfold qca_t qca_v qca_c
  exact fun h => (Tr.gb h fun h => (Tr.ss h (fun h => (Tr.ss h (fun h => (Tr.ss h (fun h => rfl) (fun h => rfl))) (fun h => (Tr.ss h (fun h => (Tr.ss h (fun h => rfl) (fun h => rfl))) (fun h => rfl))))) (fun h => rfl)))
noncomputable def qca_S : List Arg → Option (Bool × Res) := fun xs => match xs with
  | [(true, [(.int .i64, TC.i k), (.int .i64, TC.i s), (.bool, TC.b sg), (.bool, TC.b bg), (.slice 9, TC.l NA), (.slice 2, TC.l NU), (.slice 71, TC.l ME), (.slice 32, TC.l BA), (.int .i64, TC.i ct)])] => some ((qca_c k s sg bg NA NU ME BA ct), qca_mk (qca_v k s sg bg NA NU ME BA ct))
  | _ => .none
theorem qca_e (k s : Int) (sg bg : Bool) (NA NU ME BA : LL) (ct : Int) : runF tab FT D41 live 104 noLoops [(true, [(.int .i64, TC.i k), (.int .i64, TC.i s), (.bool, TC.b sg), (.bool, TC.b bg), (.slice 9, TC.l NA), (.slice 2, TC.l NU), (.slice 71, TC.l ME), (.slice 32, TC.l BA), (.int .i64, TC.i ct)])] = (qca_t k s sg bg NA NU ME BA ct).run fun p => some (qca_mk p) := by kernel_rfl
theorem qca_s : ∀ xs r, qca_S xs = some (true, r) → runF tab FT D41 live 104 noLoops xs = some r := by
  intro xs r h
  unfold qca_S at h
  split at h
  · simp only [Option.some.injEq, Prod.mk.injEq] at h
    obtain ⟨h1, rfl⟩ := h
    exact fun_told (qca_e _ _ _ _ _ _ _ _ _) (qca_l _ _ _ _ _ _ _ _ _) h1
  · cases h
noncomputable def D42 : Dt := also D41 104 qca_S
theorem d42 : DOk Go.Proofs.Try.prog tab D42 := d41.also mixed_ok tab_ok names_ok noLoops_ok qca_s
theorem qca_cc1 (k s : Int) (sg bg : Bool) (NA NU ME BA : LL) (ct : Int) : qca_c k s sg bg NA NU ME BA ct = true := by
  unfold qca_c
  rw [show qbs_c [[TC.i (1 : Int)], [TC.i (2 : Int)], [TC.i (4 : Int)], [TC.i (8 : Int)]] s = true from qh_cc (by show 4 ≤ 140737488351232; omega)]
  simp only [bif_same, Bool.and_self]
theorem qca_vv (k s : Int) (sg bg : Bool) (NA NU ME BA : LL) (ct : Int) : qca_v k s sg bg NA NU ME BA ct = (has4 s && (!((s == 8) && !sg) && !((s == 1) && bg))) := by
  unfold qca_v
  rw [show qbs_v [[TC.i (1 : Int)], [TC.i (2 : Int)], [TC.i (4 : Int)], [TC.i (8 : Int)]] s = has4 s from by
    show decide ((bif [[TC.i (1 : Int)], [TC.i (2 : Int)], [TC.i (4 : Int)], [TC.i (8 : Int)]].all (fun x => !(s == (nth x 0).int)) then -1 else Int.ofNat _) ≥ 0) = _
    rw [show [[TC.i (1 : Int)], [TC.i (2 : Int)], [TC.i (4 : Int)], [TC.i (8 : Int)]].all (fun x => !(s == (nth x 0).int)) = !(has4 s) from by
      show (!(s == (1 : Int)) && (!(s == (2 : Int)) && (!(s == (4 : Int)) && (!(s == (8 : Int)) && true)))) = _
      unfold has4
      cases (s == 1) <;> cases (s == 2) <;> cases (s == 4) <;> cases (s == 8) <;> rfl]
    cases has4 s <;> simp]
  cases h4 : has4 s with
  | false => rfl
  | true =>
    rw [show decide (s < 8) = !(s == 8) from by
      unfold has4 at h4
      simp only [Bool.or_eq_true, beq_iff_eq] at h4
      rcases h4 with ((rfl | rfl) | rfl) | rfl <;> decide]
    cases sg <;> cases (s == 8) <;> cases bg <;> cases (s == 1) <;> rfl
noncomputable def qce_t (a0 a1 a2 : Int) : Tr (Bool) := (.ite ((decide (a0 ≥ a1)) = true) (.ok (decide (a0 ≤ a2)))
  (.ok false))
def qce_mk (p : Bool) : Res := [(false, [⟨.bool, .sh, TC.b p⟩])]
noncomputable def qce_c (a0 a1 a2 : Int) : Bool := true
noncomputable def qce_v (a0 a1 a2 : Int) : Bool := (bif (decide (a0 ≥ a1)) then (decide (a0 ≤ a2)) else false)
theorem qce_l (a0 a1 a2 : Int) : (qce_c a0 a1 a2) = true → (qce_t a0 a1 a2).val = some (qce_v a0 a1 a2) := by
  intro h
  skip
  unfold qce_t qce_v
  exact (Tr.s rfl rfl)
noncomputable def qce_S : List Arg → Option (Bool × Res) := fun xs => match xs with
  | [(false, [(.int .i64, TC.i a0)]), (false, [(.int .i64, TC.i a1)]), (false, [(.int .i64, TC.i a2)])] => some (true, qce_mk (qce_v a0 a1 a2))
  | _ => .none
theorem qce_e (a0 a1 a2 : Int) : runF tab FT D42 live 105 noLoops [(false, [(.int .i64, TC.i a0)]), (false, [(.int .i64, TC.i a1)]), (false, [(.int .i64, TC.i a2)])] = (qce_t a0 a1 a2).run fun p => some (qce_mk p) := by kernel_rfl
theorem qce_s : ∀ xs r, qce_S xs = some (true, r) → runF tab FT D42 live 105 noLoops xs = some r := by
  intro xs r h
  unfold qce_S at h
  split at h
  · simp only [Option.some.injEq, Prod.mk.injEq] at h
    obtain ⟨h1, rfl⟩ := h
    exact fun_told (qce_e _ _ _) (qce_l _ _ _) rfl
  · cases h
noncomputable def D43 : Dt := also D42 105 qce_S
theorem d43 : DOk Go.Proofs.Try.prog tab D43 := d42.also mixed_ok tab_ok names_ok noLoops_ok qce_s
section
class qt_O where n : Nat
variable [i_impl_Type_valid : qt_O]
noncomputable def qt_rc (k s : Int) (sg bg : Bool) (NA NU ME BA : LL) (ct d : Int) : Bool := is (max (rowsDep ME) (rowsDep BA) < qt_O.n ∧ d ≤ 3 ∧ max (rowsDep ME) (rowsDep BA) < qz_O.n ∧ max (rowsDep ME) (rowsDep BA) < qx_O.n ∧ Typed tab (.slice 9) (.l NA) ∧ Typed tab (.slice 2) (.l NU) ∧ Typed tab (.slice 71) (.l ME) ∧ Typed tab (.slice 32) (.l BA))
noncomputable def qt_rv (k s : Int) (sg bg : Bool) (NA NU ME BA : LL) (ct d : Int) : Bool := validV k s sg bg NA NU ME BA ct d
def qt_rmk (p : Bool) : Res := [(false, [⟨.bool, .sh, TC.b p⟩])]
noncomputable def qt_rS : List Arg → Option (Bool × Res) := fun xs => match xs with
  | [(true, [(.int .i64, TC.i k), (.int .i64, TC.i s), (.bool, TC.b sg), (.bool, TC.b bg), (.slice 9, TC.l NA), (.slice 2, TC.l NU), (.slice 71, TC.l ME), (.slice 32, TC.l BA), (.int .i64, TC.i ct)]), (false, [(.int .i64, TC.i d)])] => some ((qt_rc k s sg bg NA NU ME BA ct d), qt_rmk (qt_rv k s sg bg NA NU ME BA ct d))
  | _ => .none
noncomputable def D44 : Dt := also D43 73 qt_rS
class qt_G : Prop where ok : DOk Go.Proofs.Try.prog tab D44
variable [g_impl_Type_valid : qt_G]
theorem d44 : DOk Go.Proofs.Try.prog tab D44 := qt_G.ok
noncomputable def qbn_t (k s : Int) (sg bg : Bool) (NA NU ME BA : LL) (ct : Int) : Tr (Int × Int) := (.ite (sg = true) (.ite (0 ≤ (IntKind.wrap .i64 ((IntKind.wrap .i64 ((8 : Int) * s)) - (1 : Int)))) (.ite (0 ≤ (IntKind.wrap .i64 ((IntKind.wrap .i64 ((8 : Int) * s)) - (1 : Int)))) (.ok ((IntKind.wrap .i64 ((-1 : Int) * (2 ^ (min ((IntKind.wrap .i64 ((IntKind.wrap .i64 ((8 : Int) * s)) - (1 : Int)))).toNat 64)))), (IntKind.wrap .i64 ((IntKind.wrap .i64 ((1 : Int) * (2 ^ (min ((IntKind.wrap .i64 ((IntKind.wrap .i64 ((8 : Int) * s)) - (1 : Int)))).toNat 64)))) - (1 : Int)))))
    .no)
   .no)
  (.ite (0 ≤ (IntKind.wrap .i64 ((8 : Int) * s))) (.ok ((0 : Int), (IntKind.wrap .i64 ((IntKind.wrap .i64 ((1 : Int) * (2 ^ (min ((IntKind.wrap .i64 ((8 : Int) * s))).toNat 64)))) - (1 : Int)))))
   .no))
def qbn_mk (p : Int × Int) : Res := [(false, [⟨.int .i64, .sh, TC.i (p.1)⟩]), (false, [⟨.int .i64, .sh, TC.i (p.2)⟩])]
noncomputable def qbn_c (k s : Int) (sg bg : Bool) (NA NU ME BA : LL) (ct : Int) : Bool := (bif sg then (is (0 ≤ (IntKind.wrap .i64 ((IntKind.wrap .i64 ((8 : Int) * s)) - (1 : Int)))) && (is (0 ≤ (IntKind.wrap .i64 ((IntKind.wrap .i64 ((8 : Int) * s)) - (1 : Int)))) && true)) else (is (0 ≤ (IntKind.wrap .i64 ((8 : Int) * s))) && true))
noncomputable def qbn_v (k s : Int) (sg bg : Bool) (NA NU ME BA : LL) (ct : Int) : Int × Int := (bif sg then ((IntKind.wrap .i64 ((-1 : Int) * (2 ^ (min ((IntKind.wrap .i64 ((IntKind.wrap .i64 ((8 : Int) * s)) - (1 : Int)))).toNat 64)))), (IntKind.wrap .i64 ((IntKind.wrap .i64 ((1 : Int) * (2 ^ (min ((IntKind.wrap .i64 ((IntKind.wrap .i64 ((8 : Int) * s)) - (1 : Int)))).toNat 64)))) - (1 : Int)))) else ((0 : Int), (IntKind.wrap .i64 ((IntKind.wrap .i64 ((1 : Int) * (2 ^ (min ((IntKind.wrap .i64 ((8 : Int) * s))).toNat 64)))) - (1 : Int)))))
theorem qbn_l (k s : Int) (sg bg : Bool) (NA NU ME BA : LL) (ct : Int) : (qbn_c k s sg bg NA NU ME BA ct) = true → (qbn_t k s sg bg NA NU ME BA ct).val = some (qbn_v k s sg bg NA NU ME BA ct) := by
  unfold qbn_t qbn_v qbn_c
  exact fun h => (Tr.ss h (fun h => (Tr.gs h fun h => (Tr.gs h fun h => rfl))) (fun h => (Tr.gs h fun h => rfl)))
noncomputable def qbn_S : List Arg → Option (Bool × Res) := fun xs => match xs with
  | [(true, [(.int .i64, TC.i k), (.int .i64, TC.i s), (.bool, TC.b sg), (.bool, TC.b bg), (.slice 9, TC.l NA), (.slice 2, TC.l NU), (.slice 71, TC.l ME), (.slice 32, TC.l BA), (.int .i64, TC.i ct)])] => some ((qbn_c k s sg bg NA NU ME BA ct), qbn_mk (qbn_v k s sg bg NA NU ME BA ct))
  | _ => .none
theorem qbn_e (k s : Int) (sg bg : Bool) (NA NU ME BA : LL) (ct : Int) : runF tab FT D44 live 113 noLoops [(true, [(.int .i64, TC.i k), (.int .i64, TC.i s), (.bool, TC.b sg), (.bool, TC.b bg), (.slice 9, TC.l NA), (.slice 2, TC.l NU), (.slice 71, TC.l ME), (.slice 32, TC.l BA), (.int .i64, TC.i ct)])] = (qbn_t k s sg bg NA NU ME BA ct).run fun p => some (qbn_mk p) := by kernel_rfl
theorem qbn_s : ∀ xs r, qbn_S xs = some (true, r) → runF tab FT D44 live 113 noLoops xs = some r := by
  intro xs r h
  unfold qbn_S at h
  split at h
  · simp only [Option.some.injEq, Prod.mk.injEq] at h
    obtain ⟨h1, rfl⟩ := h
    exact fun_told (qbn_e _ _ _ _ _ _ _ _ _) (qbn_l _ _ _ _ _ _ _ _ _) h1
  · cases h
noncomputable def D45 : Dt := also D44 113 qbn_S
theorem d45 : DOk Go.Proofs.Try.prog tab D45 := d44.also mixed_ok tab_ok names_ok noLoops_ok qbn_s
theorem irange {k s : Int} {sg bg : Bool} {NA NU ME BA : LL} {ct : Int} (h : intV s sg bg NA NU ME BA ct = true) : qbn_c k s sg bg NA NU ME BA ct = true ∧ (qbn_v k s sg bg NA NU ME BA ct).1 = loV s sg ∧ (qbn_v k s sg bg NA NU ME BA ct).2 = hiV s sg := by
  unfold intV has4 at h
  simp only [Bool.and_eq_true, Bool.or_eq_true, beq_iff_eq] at h
  have hs := h.1.1.1
  have h8 := h.1.1.2
  rcases hs with ((rfl | rfl) | rfl) | rfl <;> cases sg <;> first | (exact ⟨by unfold qbn_c; first | exact andT (is_true (by decide)) (andT (is_true (by decide)) rfl) | exact andT (is_true (by decide)) rfl, by unfold qbn_v loV; decide, by unfold qbn_v hiV; decide⟩) | (exact absurd h8 (by decide))
noncomputable def qy_f2 (s : BS) (m i : Int) : (Unit) ⊕ ((BS) ⊕ (BS)) := (bif (decide (((s.getD (i).toNat 0).toNat : Int) ≥ (65 : Int))) then (bif (decide (((s.getD (i).toNat 0).toNat : Int) ≤ (90 : Int))) then (.inl ()) else (bif (decide (((s.getD (i).toNat 0).toNat : Int) ≥ (97 : Int))) then (bif (!(decide (((s.getD (i).toNat 0).toNat : Int) ≤ (122 : Int)))) then (bif (i == (0 : Int)) then (.inr (.inl s)) else (bif (decide (((s.getD (i).toNat 0).toNat : Int) < (48 : Int))) then (bif (!(((s.getD (i).toNat 0).toNat : Int) == (95 : Int))) then (.inr (.inl s)) else (.inl ())) else (bif (decide (((s.getD (i).toNat 0).toNat : Int) > (57 : Int))) then (bif (!(((s.getD (i).toNat 0).toNat : Int) == (95 : Int))) then (.inr (.inl s)) else (.inl ())) else (.inl ())))) else (.inl ())) else (bif (i == (0 : Int)) then (.inr (.inl s)) else (bif (decide (((s.getD (i).toNat 0).toNat : Int) < (48 : Int))) then (bif (!(((s.getD (i).toNat 0).toNat : Int) == (95 : Int))) then (.inr (.inl s)) else (.inl ())) else (bif (decide (((s.getD (i).toNat 0).toNat : Int) > (57 : Int))) then (bif (!(((s.getD (i).toNat 0).toNat : Int) == (95 : Int))) then (.inr (.inl s)) else (.inl ())) else (.inl ())))))) else (bif (decide (((s.getD (i).toNat 0).toNat : Int) ≥ (97 : Int))) then (bif (!(decide (((s.getD (i).toNat 0).toNat : Int) ≤ (122 : Int)))) then (bif (i == (0 : Int)) then (.inr (.inl s)) else (bif (decide (((s.getD (i).toNat 0).toNat : Int) < (48 : Int))) then (bif (!(((s.getD (i).toNat 0).toNat : Int) == (95 : Int))) then (.inr (.inl s)) else (.inl ())) else (bif (decide (((s.getD (i).toNat 0).toNat : Int) > (57 : Int))) then (bif (!(((s.getD (i).toNat 0).toNat : Int) == (95 : Int))) then (.inr (.inl s)) else (.inl ())) else (.inl ())))) else (.inl ())) else (bif (i == (0 : Int)) then (.inr (.inl s)) else (bif (decide (((s.getD (i).toNat 0).toNat : Int) < (48 : Int))) then (bif (!(((s.getD (i).toNat 0).toNat : Int) == (95 : Int))) then (.inr (.inl s)) else (.inl ())) else (bif (decide (((s.getD (i).toNat 0).toNat : Int) > (57 : Int))) then (bif (!(((s.getD (i).toNat 0).toNat : Int) == (95 : Int))) then (.inr (.inl s)) else (.inl ())) else (.inl ()))))))
noncomputable def qy_e2 (s : BS) (m : Int) : (BS) ⊕ (BS) := .inr s
noncomputable def qy_R2 (s : BS) (m i : Int) : (BS) ⊕ (BS) := iter (fun i a => (qy_f2 s m (i : Int))) (fun a => (qy_e2 s m)) (s.length) 0 ()
abbrev qy_2_σ := BS × Int × Int
abbrev qy_2_ω := (BS) ⊕ (BS)
noncomputable def qy_2_step (s : BS) (m i : Int) : Tr (qy_2_σ ⊕ qy_2_ω) := (.ite ((decide (i < m)) = true) (.ite ((0 : Int) ≤ i ∧ i < (s.length : Int)) (.ite ((decide (((s.getD (i).toNat 0).toNat : Int) ≥ (65 : Int))) = true) (.ite ((decide (((s.getD (i).toNat 0).toNat : Int) ≤ (90 : Int))) = true) (.ok (.inl (s, m, (IntKind.wrap .i64 (i + (1 : Int))))))
     (.ite ((decide (((s.getD (i).toNat 0).toNat : Int) ≥ (97 : Int))) = true) (.ite ((!(decide (((s.getD (i).toNat 0).toNat : Int) ≤ (122 : Int)))) = true) (.ite ((i == (0 : Int)) = true) (.ok (.inr (.inl s)))
        (.ite ((decide (((s.getD (i).toNat 0).toNat : Int) < (48 : Int))) = true) (.ite ((!(((s.getD (i).toNat 0).toNat : Int) == (95 : Int))) = true) (.ok (.inr (.inl s)))
          (.ok (.inl (s, m, (IntKind.wrap .i64 (i + (1 : Int)))))))
         (.ite ((decide (((s.getD (i).toNat 0).toNat : Int) > (57 : Int))) = true) (.ite ((!(((s.getD (i).toNat 0).toNat : Int) == (95 : Int))) = true) (.ok (.inr (.inl s)))
           (.ok (.inl (s, m, (IntKind.wrap .i64 (i + (1 : Int)))))))
          (.ok (.inl (s, m, (IntKind.wrap .i64 (i + (1 : Int)))))))))
       (.ok (.inl (s, m, (IntKind.wrap .i64 (i + (1 : Int)))))))
      (.ite ((i == (0 : Int)) = true) (.ok (.inr (.inl s)))
       (.ite ((decide (((s.getD (i).toNat 0).toNat : Int) < (48 : Int))) = true) (.ite ((!(((s.getD (i).toNat 0).toNat : Int) == (95 : Int))) = true) (.ok (.inr (.inl s)))
         (.ok (.inl (s, m, (IntKind.wrap .i64 (i + (1 : Int)))))))
        (.ite ((decide (((s.getD (i).toNat 0).toNat : Int) > (57 : Int))) = true) (.ite ((!(((s.getD (i).toNat 0).toNat : Int) == (95 : Int))) = true) (.ok (.inr (.inl s)))
          (.ok (.inl (s, m, (IntKind.wrap .i64 (i + (1 : Int)))))))
         (.ok (.inl (s, m, (IntKind.wrap .i64 (i + (1 : Int)))))))))))
    (.ite ((decide (((s.getD (i).toNat 0).toNat : Int) ≥ (97 : Int))) = true) (.ite ((!(decide (((s.getD (i).toNat 0).toNat : Int) ≤ (122 : Int)))) = true) (.ite ((i == (0 : Int)) = true) (.ok (.inr (.inl s)))
       (.ite ((decide (((s.getD (i).toNat 0).toNat : Int) < (48 : Int))) = true) (.ite ((!(((s.getD (i).toNat 0).toNat : Int) == (95 : Int))) = true) (.ok (.inr (.inl s)))
         (.ok (.inl (s, m, (IntKind.wrap .i64 (i + (1 : Int)))))))
        (.ite ((decide (((s.getD (i).toNat 0).toNat : Int) > (57 : Int))) = true) (.ite ((!(((s.getD (i).toNat 0).toNat : Int) == (95 : Int))) = true) (.ok (.inr (.inl s)))
          (.ok (.inl (s, m, (IntKind.wrap .i64 (i + (1 : Int)))))))
         (.ok (.inl (s, m, (IntKind.wrap .i64 (i + (1 : Int)))))))))
      (.ok (.inl (s, m, (IntKind.wrap .i64 (i + (1 : Int)))))))
     (.ite ((i == (0 : Int)) = true) (.ok (.inr (.inl s)))
      (.ite ((decide (((s.getD (i).toNat 0).toNat : Int) < (48 : Int))) = true) (.ite ((!(((s.getD (i).toNat 0).toNat : Int) == (95 : Int))) = true) (.ok (.inr (.inl s)))
        (.ok (.inl (s, m, (IntKind.wrap .i64 (i + (1 : Int)))))))
       (.ite ((decide (((s.getD (i).toNat 0).toNat : Int) > (57 : Int))) = true) (.ite ((!(((s.getD (i).toNat 0).toNat : Int) == (95 : Int))) = true) (.ok (.inr (.inl s)))
         (.ok (.inl (s, m, (IntKind.wrap .i64 (i + (1 : Int)))))))
        (.ok (.inl (s, m, (IntKind.wrap .i64 (i + (1 : Int)))))))))))
   .no)
  (.ok (.inr (.inr s))))
noncomputable def qy_2_st : qy_2_σ → Tr (qy_2_σ ⊕ qy_2_ω) := fun x => (qy_2_step (x.1) (x.2.1) (x.2.2))
noncomputable def qy_k2_1 (s : BS) (m i : Int) : Bool := sumIs (qy_R2 s m i)
noncomputable def qy_o2_2 (s : BS) (m i : Int) : Bool := is (i = 0 ∧ s.length ≤ 140737488355328 ∧ m = (s.length : Int))
noncomputable def qy_o2_3 (s : BS) (m i : Int) : Bool := is (i = 0 ∧ s.length ≤ 140737488355328 ∧ m = (s.length : Int))
noncomputable def qy_2_fin (s : BS) (m i : Int) : Told qy_2_ω := (.br (qy_k2_1 s m i) (.leaf (qy_o2_2 s m i) (.inl s)) (.leaf (qy_o2_3 s m i) (.inr s)))
def qy_2_sl (x : qy_2_σ) : List Slot := [⟨.val false [⟨.str, .sh, TC.s (x.1)⟩], ⟨0, 0⟩⟩, ⟨.val false [⟨.int .i64, .sh, TC.i (x.2.1)⟩], ⟨0, 0⟩⟩, ⟨.val false [⟨.int .i64, .sh, TC.i (x.2.2)⟩], ⟨0, 0⟩⟩]
def qy_2_out : qy_2_ω → Ex × List Slot := (Sum.elim (fun x => (.ret, [⟨.val false [⟨.str, .sh, TC.s x⟩], ⟨0, 0⟩⟩, ⟨.val false [⟨.bool, .sh, TC.b false⟩], ⟨0, 0⟩⟩])) (fun x => (.exit 0, [⟨.val false [⟨.str, .sh, TC.s x⟩], ⟨0, 0⟩⟩, Slot.none])))
noncomputable def qy_lo2 : List Slot → Option (Told (Ex × List Slot)) := fun s => match s with
  | [⟨.val false [⟨.str, .sh, TC.s s⟩], ⟨0, 0⟩⟩, ⟨.val false [⟨.int .i64, .sh, TC.i m⟩], ⟨0, 0⟩⟩, ⟨.val false [⟨.int .i64, .sh, TC.i i⟩], ⟨0, 0⟩⟩] => some (((qy_2_fin s m i)).map qy_2_out)
  | _ => .none
noncomputable def qy_lo : LoopTeller := fun r s => bif Nat.beq r 2 then qy_lo2 s else .none
theorem qy_2_r (s : BS) (m i : Int) (fuel : Nat) : rounds (rnd tab FT D45 live 151 qy_lo 0 2) leave (fuel + 1) (qy_2_sl (s, m, i)) = ((qy_2_step s m i)).run (goOn (fun s => rounds (rnd tab FT D45 live 151 qy_lo 0 2) leave fuel (qy_2_sl s)) fun w => some (qy_2_out w)) := by kernel_rfl
theorem qy_f2_eq (s : BS) (m i : Int) : qy_f2 s m i = bif nameB i ((s.getD (i).toNat 0).toNat : Int) then Sum.inl () else Sum.inr (Sum.inl s) := by
  unfold qy_f2 nameB letterB
  simp only [dlt, dgt]
  generalize ((s.getD i.toNat 0).toNat : Int) = c
  generalize decide (c ≥ 65) = p0, decide (c ≤ 90) = p1, decide (c ≥ 97) = p2, decide (c ≤ 122) = p3, decide (c ≥ 48) = p4, decide (c ≤ 57) = p5, (c == 95) = p6, (i == 0) = p7
  cases p0 <;> cases p1 <;> cases p2 <;> cases p3 <;> cases p4 <;> cases p5 <;> cases p6 <;> cases p7 <;> rfl
theorem qy_R2_eq (s : BS) (m : Int)  : qy_R2 s m 0 = bif allI (fun i : Nat => nameB (i : Int) ((s.getD ((i : Int)).toNat 0).toNat : Int)) (s.length) then Sum.inr s else (Sum.inl s) := by
  unfold qy_R2
  exact (iter_all (P := (fun i : Nat => nameB (i : Int) ((s.getD ((i : Int)).toNat 0).toNat : Int))) (g := fun _ a => a) (w := Sum.inl s) fun j a _ => qy_f2_eq s m _)
theorem qy_2_h (s : BS) (m i : Int) (ow : qy_2_ω) : ((qy_2_fin s m i)).val = some ow → ∃ fuel, loopN qy_2_st fuel (s, m, i) = some ow := by
  refine auto_const (R := (qy_R2 s m i)) rfl (iter_onR (f := (fun i a => (qy_f2 s m (i : Int)))) (fin := (fun a => (qy_e2 s m))) (Q := endsAs s s) (fun i a => by unfold qy_f2; exact (onR_bif (onR_bif trivial (onR_bif (onR_bif (onR_bif rfl (onR_bif (onR_bif rfl trivial) (onR_bif (onR_bif rfl trivial) trivial))) trivial) (onR_bif rfl (onR_bif (onR_bif rfl trivial) (onR_bif (onR_bif rfl trivial) trivial))))) (onR_bif (onR_bif (onR_bif rfl (onR_bif (onR_bif rfl trivial) (onR_bif (onR_bif rfl trivial) trivial))) trivial) (onR_bif rfl (onR_bif (onR_bif rfl trivial) (onR_bif (onR_bif rfl trivial) trivial)))))) (fun _ => rfl) _ _ _) ?_
  intro ho
  have ho : is (i = 0 ∧ s.length ≤ 140737488355328 ∧ m = (s.length : Int)) = true := ho.elim id id
  obtain ⟨rfl, hs, rfl⟩ := is_iff.1 ho
  skip
  refine ⟨(s.length) + 1, ?_⟩
  refine iter_loop (step := qy_2_st) (s.length) (fun i a => (qy_f2 s (s.length : Int) (i : Int))) (fun a => (qy_e2 s (s.length : Int))) (fun i a => (s, (s.length : Int), (i : Int))) (fun _ _ => True) trivial (fun i a hi hI => ⟨?_, fun _ _ => trivial⟩) (fun a hI => ?_)
  · show (qy_2_step s (s.length : Int) (i : Int)).val = _
    unfold qy_2_step qy_f2
    skip
    refine Tr.t (by simp; omega) ?_
    exact (Tr.t (by first | omega | (constructor <;> omega)) (Tr.bf (Tr.bf (by rw [Tr.val_ok, wrap64 (i := (i : Int) + 1) (by omega) (by omega)]; rfl) (Tr.bf (Tr.bf (Tr.bf rfl (Tr.bf (Tr.bf rfl (by rw [Tr.val_ok, wrap64 (i := (i : Int) + 1) (by omega) (by omega)]; rfl)) (Tr.bf (Tr.bf rfl (by rw [Tr.val_ok, wrap64 (i := (i : Int) + 1) (by omega) (by omega)]; rfl)) (by rw [Tr.val_ok, wrap64 (i := (i : Int) + 1) (by omega) (by omega)]; rfl)))) (by rw [Tr.val_ok, wrap64 (i := (i : Int) + 1) (by omega) (by omega)]; rfl)) (Tr.bf rfl (Tr.bf (Tr.bf rfl (by rw [Tr.val_ok, wrap64 (i := (i : Int) + 1) (by omega) (by omega)]; rfl)) (Tr.bf (Tr.bf rfl (by rw [Tr.val_ok, wrap64 (i := (i : Int) + 1) (by omega) (by omega)]; rfl)) (by rw [Tr.val_ok, wrap64 (i := (i : Int) + 1) (by omega) (by omega)]; rfl)))))) (Tr.bf (Tr.bf (Tr.bf rfl (Tr.bf (Tr.bf rfl (by rw [Tr.val_ok, wrap64 (i := (i : Int) + 1) (by omega) (by omega)]; rfl)) (Tr.bf (Tr.bf rfl (by rw [Tr.val_ok, wrap64 (i := (i : Int) + 1) (by omega) (by omega)]; rfl)) (by rw [Tr.val_ok, wrap64 (i := (i : Int) + 1) (by omega) (by omega)]; rfl)))) (by rw [Tr.val_ok, wrap64 (i := (i : Int) + 1) (by omega) (by omega)]; rfl)) (Tr.bf rfl (Tr.bf (Tr.bf rfl (by rw [Tr.val_ok, wrap64 (i := (i : Int) + 1) (by omega) (by omega)]; rfl)) (Tr.bf (Tr.bf rfl (by rw [Tr.val_ok, wrap64 (i := (i : Int) + 1) (by omega) (by omega)]; rfl)) (by rw [Tr.val_ok, wrap64 (i := (i : Int) + 1) (by omega) (by omega)]; rfl)))))))
  · show (qy_2_step s (s.length : Int) (s.length : Int)).val = _
    refine Tr.n (by first | (simp; done) | (simp; omega) | omega) ?_
    rfl
theorem qy_is2 : LoopIs tab FT D45 live 151 qy_lo 0 2 := by
  refine loop_told (sl := qy_2_sl) (step := qy_2_st) (out := qy_2_out) (lor := qy_lo2) (fin := fun x => (qy_2_fin (x.1) (x.2.1) (x.2.2))) (fun _ => rfl) ?_ (fun x n => qy_2_r x.1 x.2.1 x.2.2 n) (fun x ow => qy_2_h x.1 x.2.1 x.2.2 ow)
  intro s t h
  unfold qy_lo2 at h
  split at h
  · cases h; exact ⟨(_, _, _), rfl, rfl⟩
  · cases h
noncomputable def qy_t (s : BS) : Tr (Bool) := (.ite ((qy_k2_1 s (s.length : Int) (0 : Int)) = true) (.ite ((qy_o2_2 s (s.length : Int) (0 : Int)) = true) (.ok false)
   .no)
  (.ite ((qy_o2_3 s (s.length : Int) (0 : Int)) = true) (.ite ((decide ((s.length : Int) ≥ (1 : Int))) = true) (.ok (decide ((s.length : Int) ≤ (12 : Int))))
    (.ok false))
   .no))
def qy_mk (p : Bool) : Res := [(false, [⟨.bool, .sh, TC.b p⟩])]
noncomputable def qy_c (s : BS) : Bool := (bif (qy_k2_1 s (s.length : Int) (0 : Int)) then ((qy_o2_2 s (s.length : Int) (0 : Int)) && true) else ((qy_o2_3 s (s.length : Int) (0 : Int)) && (bif (decide ((s.length : Int) ≥ (1 : Int))) then true else true)))
noncomputable def qy_v (s : BS) : Bool := (bif (qy_k2_1 s (s.length : Int) (0 : Int)) then false else (bif (decide ((s.length : Int) ≥ (1 : Int))) then (decide ((s.length : Int) ≤ (12 : Int))) else false))
theorem qy_l (s : BS) : (qy_c s) = true → (qy_t s).val = some (qy_v s) := by
  unfold qy_t qy_v qy_c
  exact fun h => (Tr.ss h (fun h => (Tr.gb h fun h => rfl)) (fun h => (Tr.gb h fun h => (Tr.ss h (fun h => rfl) (fun h => rfl)))))
noncomputable def qy_S : List Arg → Option (Bool × Res) := fun xs => match xs with
  | [(false, [(.str, TC.s s)])] => some ((qy_c s), qy_mk (qy_v s))
  | _ => .none
theorem qy_e (s : BS) : runF tab FT D45 live 151 qy_lo [(false, [(.str, TC.s s)])] = (qy_t s).run fun p => some (qy_mk p) := by kernel_rfl
theorem qy_s : ∀ xs r, qy_S xs = some (true, r) → runF tab FT D45 live 151 qy_lo xs = some r := by
  intro xs r h
  unfold qy_S at h
  split at h
  · simp only [Option.some.injEq, Prod.mk.injEq] at h
    obtain ⟨h1, rfl⟩ := h
    exact fun_told (qy_e _) (qy_l _) h1
  · cases h
noncomputable def D46 : Dt := also D45 151 qy_S
theorem d46 : DOk Go.Proofs.Try.prog tab D46 := d45.also mixed_ok tab_ok names_ok (fnLoops_one (by kernel_rfl) qy_is2) qy_s
theorem qy_cc {s : BS} (hs : Typed tab (.str) (.s s)) : (qy_c s) = true := by
  unfold qy_c
  refine bifT (fun b1 => ?_) (fun b1 => ?_)
  · skip
    refine andT (by exact is_true ⟨rfl, by have := typed_str_len hs; omega, rfl⟩) ?_
    rfl
  · skip
    refine andT (by exact is_true ⟨rfl, by have := typed_str_len hs; omega, rfl⟩) ?_
    refine bifT (fun b2 => ?_) (fun b2 => ?_)
    · skip
      rfl
    · skip
      rfl
theorem qy_vv (s : BS) : qy_v s = nameOk s := by
  unfold qy_v qy_k2_1 nameOk
  rw [qy_R2_eq]
  generalize allI (fun i : Nat => nameB (i : Int) ((s.getD ((i : Int)).toNat 0).toNat : Int)) s.length = q
  cases q
  · simp [sumIs]
  · show (bif decide ((s.length : Int) ≥ 1) then decide ((s.length : Int) ≤ 12) else false) = (decide ((s.length : Int) ≥ 1) && decide ((s.length : Int) ≤ 12) && true)
    generalize decide ((s.length : Int) ≥ 1) = q1, decide ((s.length : Int) ≤ 12) = q2
    cases q1 <;> cases q2 <;> rfl
abbrev qi_2_σ := LL × BS × Int × Int
abbrev qi_2_ω := (Int) ⊕ (Unit)
noncomputable def qi_2_step (A : LL) (s : BS) (m i : Int) : Tr (qi_2_σ ⊕ qi_2_ω) := (.ite ((decide (i < m)) = true) (.ite ((0 : Int) ≤ i ∧ i < (A.length : Int)) (.ite ((s == (nth (row A i) 0).str) = true) (.ok (.inr (.inl i)))
    (.ok (.inl (A, s, m, (IntKind.wrap .i64 (i + (1 : Int)))))))
   .no)
  (.ok (.inr (.inr ()))))
noncomputable def qi_2_st : qi_2_σ → Tr (qi_2_σ ⊕ qi_2_ω) := fun x => (qi_2_step (x.1) (x.2.1) (x.2.2.1) (x.2.2.2))
noncomputable def qi_k2_1 (A : LL) (s : BS) (m i : Int) : Bool := A.all (fun x => !(s == (nth x 0).str))
noncomputable def qi_o2_2 (A : LL) (s : BS) (m i : Int) : Bool := is (i = 0 ∧ Typed tab (.slice 9) (.l A) ∧ m = (A.length : Int))
noncomputable def qi_o2_3 (A : LL) (s : BS) (m i : Int) : Bool := is (i = 0 ∧ Typed tab (.slice 9) (.l A) ∧ m = (A.length : Int))
noncomputable def qi_u2_3 (A : LL) (s : BS) (m i : Int) : Int := (Int.ofNat (A.findIdx fun x => !(fun x => !(s == (nth x 0).str)) x))
noncomputable def qi_2_fin (A : LL) (s : BS) (m i : Int) : Told qi_2_ω := (.br (qi_k2_1 A s m i) (.leaf (qi_o2_2 A s m i) (.inr ())) (.leaf (qi_o2_3 A s m i) (.inl (qi_u2_3 A s m i))))
def qi_2_sl (x : qi_2_σ) : List Slot := [⟨.val false [⟨.slice 9, .sh, TC.l (x.1)⟩], ⟨0, 0⟩⟩, ⟨.val false [⟨.str, .sh, TC.s (x.2.1)⟩], ⟨0, 0⟩⟩, ⟨.val false [⟨.int .i64, .sh, TC.i (x.2.2.1)⟩], ⟨0, 0⟩⟩, ⟨.val false [⟨.int .i64, .sh, TC.i (x.2.2.2)⟩], ⟨0, 0⟩⟩]
def qi_2_out : qi_2_ω → Ex × List Slot := (Sum.elim (fun x => (.ret, [⟨.val false [⟨.int .i64, .sh, TC.i x⟩], ⟨0, 0⟩⟩])) (fun x => (.exit 0, [Slot.none])))
noncomputable def qi_lo2 : List Slot → Option (Told (Ex × List Slot)) := fun s => match s with
  | [⟨.val false [⟨.slice 9, .sh, TC.l A⟩], ⟨0, 0⟩⟩, ⟨.val false [⟨.str, .sh, TC.s s⟩], ⟨0, 0⟩⟩, ⟨.val false [⟨.int .i64, .sh, TC.i m⟩], ⟨0, 0⟩⟩, ⟨.val false [⟨.int .i64, .sh, TC.i i⟩], ⟨0, 0⟩⟩] => some (((qi_2_fin A s m i)).map qi_2_out)
  | _ => .none
noncomputable def qi_lo : LoopTeller := fun r s => bif Nat.beq r 2 then qi_lo2 s else .none
theorem qi_2_r (A : LL) (s : BS) (m i : Int) (fuel : Nat) : rounds (rnd tab FT D46 live 142 qi_lo 0 2) leave (fuel + 1) (qi_2_sl (A, s, m, i)) = ((qi_2_step A s m i)).run (goOn (fun s => rounds (rnd tab FT D46 live 142 qi_lo 0 2) leave fuel (qi_2_sl s)) fun w => some (qi_2_out w)) := by kernel_rfl
theorem qi_2_h (A : LL) (s : BS) (m i : Int) (ow : qi_2_ω) : ((qi_2_fin A s m i)).val = some ow → ∃ fuel, loopN qi_2_st fuel (A, s, m, i) = some ow := by
  intro h
  have key : Typed tab (.slice 9) (.l A) → loopN qi_2_st (A.length + 1) (A, s, (A.length : Int), (0 : Int)) = some (if A.all (fun x => !(s == (nth x 0).str)) = true then (.inr ()) else (.inl (Int.ofNat (A.findIdx fun x => !(fun x => !(s == (nth x 0).str)) x)))) := by
    intro ht
    have hlen : A.length ≤ 140737488351232 := by have := typed_room ht; simp only [show (tab 9).bytes = 16 from rfl] at this; omega
    have key := loopN_scan (step := qi_2_st) A [] (fun x => !(s == (nth x 0).str)) (fun a _ => a) (fun i a => (A, s, (A.length : Int), (i : Int))) (fun a => (.inr ())) (fun i a => (.inl (i : Int))) (fun i a hi => ?_) (fun a => ?_) A.length 0 () (by omega)
    · first | (rw [Nat.zero_add] at key; exact key) | exact key
    · have c0 : Typed tab (.str) (.s (nth (A.getD i []) 0).str) := typed_s (typed_cell ht (A.getD i []) (mem_getD hi) 0 (by decide))
      show (qi_2_step A s (A.length : Int) (i : Int)).val = _
      unfold qi_2_step
      refine Tr.t (by simp; omega) ?_
      skip
      refine Tr.t (by first | omega | (constructor <;> omega)) ?_
      refine Tr.b2 (fun hP => ?_) (fun _ => rfl)
      rw [Tr.val_ok, wrap64 (i := (i : Int) + 1) (by omega) (by omega)]; rfl
    · show (qi_2_step A s (A.length : Int) (A.length : Int)).val = _
      refine Tr.n (by simp) ?_
      rfl
  simp only [qi_2_fin, Told.val] at h
  cases hk : A.all (fun x => !(s == (nth x 0).str)) with
  | true =>
    rw [if_pos (show qi_k2_1 A s m i = true from hk)] at h
    split at h
    · rename_i ho
      obtain ⟨rfl, ht, rfl⟩ := is_iff.1 ho
      cases h
      refine ⟨_, (key ht).trans ?_⟩
      rw [hk]; rfl
    · cases h
  | false =>
    rw [if_neg (show ¬qi_k2_1 A s m i = true from by rw [show qi_k2_1 A s m i = (A.all (fun x => !(s == (nth x 0).str))) from rfl, hk]; simp)] at h
    split at h
    · rename_i ho
      obtain ⟨rfl, ht, rfl⟩ := is_iff.1 ho
      cases h
      refine ⟨_, (key ht).trans ?_⟩
      rw [hk]; rfl
    · cases h
theorem qi_is2 : LoopIs tab FT D46 live 142 qi_lo 0 2 := by
  refine loop_told (sl := qi_2_sl) (step := qi_2_st) (out := qi_2_out) (lor := qi_lo2) (fin := fun x => (qi_2_fin (x.1) (x.2.1) (x.2.2.1) (x.2.2.2))) (fun _ => rfl) ?_ (fun x n => qi_2_r x.1 x.2.1 x.2.2.1 x.2.2.2 n) (fun x ow => qi_2_h x.1 x.2.1 x.2.2.1 x.2.2.2 ow)
  intro s t h
  unfold qi_lo2 at h
  split at h
  · cases h; exact ⟨(_, _, _, _), rfl, rfl⟩
  · cases h
noncomputable def qi_t (A : LL) (s : BS) : Tr (Int) := (.ite ((qi_k2_1 A s (A.length : Int) (0 : Int)) = true) (.ite ((qi_o2_2 A s (A.length : Int) (0 : Int)) = true) (.ok (-1 : Int))
   .no)
  (.ite ((qi_o2_3 A s (A.length : Int) (0 : Int)) = true) (.ok (qi_u2_3 A s (A.length : Int) (0 : Int)))
   .no))
def qi_mk (p : Int) : Res := [(false, [⟨.int .i64, .sh, TC.i p⟩])]
noncomputable def qi_c (A : LL) (s : BS) : Bool := is (((qi_o2_2 A s (A.length : Int) (0 : Int)) = true) ∧ ((qi_o2_3 A s (A.length : Int) (0 : Int)) = true))
noncomputable def qi_v (A : LL) (s : BS) : Int := (bif (qi_k2_1 A s (A.length : Int) (0 : Int)) then (-1 : Int) else (qi_u2_3 A s (A.length : Int) (0 : Int)))
theorem qi_l (A : LL) (s : BS) : (qi_c A s) = true → (qi_t A s).val = some (qi_v A s) := by
  intro h
  obtain ⟨g0, g1⟩ := is_iff.1 h
  unfold qi_t qi_v
  exact (Tr.s (Tr.t g0 rfl) (Tr.t g1 rfl))
noncomputable def qi_S : List Arg → Option (Bool × Res) := fun xs => match xs with
  | [(false, [(.slice 9, TC.l A)]), (false, [(.str, TC.s s)])] => some ((qi_c A s), qi_mk (qi_v A s))
  | _ => .none
theorem qi_e (A : LL) (s : BS) : runF tab FT D46 live 142 qi_lo [(false, [(.slice 9, TC.l A)]), (false, [(.str, TC.s s)])] = (qi_t A s).run fun p => some (qi_mk p) := by kernel_rfl
theorem qi_s : ∀ xs r, qi_S xs = some (true, r) → runF tab FT D46 live 142 qi_lo xs = some r := by
  intro xs r h
  unfold qi_S at h
  split at h
  · simp only [Option.some.injEq, Prod.mk.injEq] at h
    obtain ⟨h1, rfl⟩ := h
    exact fun_told (qi_e _ _) (qi_l _ _) h1
  · cases h
noncomputable def D47 : Dt := also D46 142 qi_S
theorem d47 : DOk Go.Proofs.Try.prog tab D47 := d46.also mixed_ok tab_ok names_ok (fnLoops_one (by kernel_rfl) qi_is2) qi_s
theorem qi_vv (A : LL) (s : BS) : qi_v A s = slotIdx A s := by
  show (bif A.all (fun x => !(s == (nth x 0).str)) then -1 else Int.ofNat (A.findIdx fun x => !(!(s == (nth x 0).str)))) = slotIdx A s
  unfold slotIdx
  have e : ∀ x : List TC, (s == (nth x 0).str) = ((nth x 0).str == s) := fun x => Bool.beq_comm
  simp only [e]
noncomputable def qbr_t (a0 : LL) (a1 : BS) : Tr (Bool) := (.ite ((qi_c a0 a1) = true) (.ok (decide ((qi_v a0 a1) ≥ (0 : Int))))
  .no)
def qbr_mk (p : Bool) : Res := [(false, [⟨.bool, .sh, TC.b p⟩])]
noncomputable def qbr_c (a0 : LL) (a1 : BS) : Bool := (qi_c a0 a1)
noncomputable def qbr_v (a0 : LL) (a1 : BS) : Bool := (decide ((qi_v a0 a1) ≥ (0 : Int)))
theorem qbr_l (a0 : LL) (a1 : BS) : (qbr_c a0 a1) = true → (qbr_t a0 a1).val = some (qbr_v a0 a1) := by
  intro h
  have hc0 : (qi_c a0 a1) = true := h
  unfold qbr_t
  exact (Tr.t hc0 rfl)
noncomputable def qbr_S : List Arg → Option (Bool × Res) := fun xs => match xs with
  | [(false, [(.slice 9, TC.l a0)]), (false, [(.str, TC.s a1)])] => some ((qbr_c a0 a1), qbr_mk (qbr_v a0 a1))
  | _ => .none
theorem qbr_e (a0 : LL) (a1 : BS) : runF tab FT D47 live 119 noLoops [(false, [(.slice 9, TC.l a0)]), (false, [(.str, TC.s a1)])] = (qbr_t a0 a1).run fun p => some (qbr_mk p) := by kernel_rfl
theorem qbr_s : ∀ xs r, qbr_S xs = some (true, r) → runF tab FT D47 live 119 noLoops xs = some r := by
  intro xs r h
  unfold qbr_S at h
  split at h
  · simp only [Option.some.injEq, Prod.mk.injEq] at h
    obtain ⟨h1, rfl⟩ := h
    exact fun_told (qbr_e _ _) (qbr_l _ _) h1
  · cases h
noncomputable def D48 : Dt := also D47 119 qbr_S
theorem d48 : DOk Go.Proofs.Try.prog tab D48 := d47.also mixed_ok tab_ok names_ok noLoops_ok qbr_s
noncomputable def ql_f2 (A X : LL) (m i : Int) : (Unit) ⊕ ((Unit) ⊕ (Unit)) := (bif (!(qy_v ((nth (row X i) 0).str))) then (.inr (.inl ())) else (bif (qbr_v ((A.take (i).toNat).drop ((0 : Int)).toNat) ((nth (row X i) 0).str)) then (.inr (.inl ())) else (.inl ())))
noncomputable def ql_e2 (A X : LL) (m : Int) : (Unit) ⊕ (Unit) := .inr ()
noncomputable def ql_R2 (A X : LL) (m i : Int) : (Unit) ⊕ (Unit) := iter (fun i a => (ql_f2 A X m (i : Int))) (fun a => (ql_e2 A X m)) (A.length) 0 ()
abbrev ql_2_σ := LL × LL × Int × Int
abbrev ql_2_ω := (Unit) ⊕ (Unit)
noncomputable def ql_2_step (A X : LL) (m i : Int) : Tr (ql_2_σ ⊕ ql_2_ω) := (.ite ((decide (i < m)) = true) (.ite ((0 : Int) ≤ i ∧ i < (X.length : Int)) (.ite ((qy_c ((nth (row X i) 0).str)) = true) (.ite ((!(qy_v ((nth (row X i) 0).str))) = true) (.ok (.inr (.inl ())))
     (.ite ((0 : Int) ≤ (0 : Int) ∧ (0 : Int) ≤ i ∧ i ≤ (A.length : Int)) (.ite ((qbr_c ((A.take (i).toNat).drop ((0 : Int)).toNat) ((nth (row X i) 0).str)) = true) (.ite ((qbr_v ((A.take (i).toNat).drop ((0 : Int)).toNat) ((nth (row X i) 0).str)) = true) (.ok (.inr (.inl ())))
        (.ok (.inl (A, X, m, (IntKind.wrap .i64 (i + (1 : Int)))))))
       .no)
      .no))
    .no)
   .no)
  (.ok (.inr (.inr ()))))
noncomputable def ql_2_st : ql_2_σ → Tr (ql_2_σ ⊕ ql_2_ω) := fun x => (ql_2_step (x.1) (x.2.1) (x.2.2.1) (x.2.2.2))
noncomputable def ql_k2_1 (A X : LL) (m i : Int) : Bool := sumIs (ql_R2 A X m i)
noncomputable def ql_o2_2 (A X : LL) (m i : Int) : Bool := is (i = 0 ∧ A = X ∧ m = (A.length : Int) ∧ Typed tab (.slice 9) (.l A))
noncomputable def ql_o2_3 (A X : LL) (m i : Int) : Bool := is (i = 0 ∧ A = X ∧ m = (A.length : Int) ∧ Typed tab (.slice 9) (.l A))
noncomputable def ql_2_fin (A X : LL) (m i : Int) : Told ql_2_ω := (.br (ql_k2_1 A X m i) (.leaf (ql_o2_2 A X m i) (.inl ())) (.leaf (ql_o2_3 A X m i) (.inr ())))
def ql_2_sl (x : ql_2_σ) : List Slot := [⟨.val false [⟨.slice 9, .sh, TC.l (x.1)⟩], ⟨0, 0⟩⟩, ⟨.val false [⟨.slice 9, .sh, TC.l (x.2.1)⟩], ⟨0, 0⟩⟩, ⟨.val false [⟨.int .i64, .sh, TC.i (x.2.2.1)⟩], ⟨0, 0⟩⟩, ⟨.val false [⟨.int .i64, .sh, TC.i (x.2.2.2)⟩], ⟨0, 0⟩⟩]
def ql_2_out : ql_2_ω → Ex × List Slot := (Sum.elim (fun x => (.ret, [⟨.val false [⟨.bool, .sh, TC.b false⟩], ⟨0, 0⟩⟩])) (fun x => (.exit 0, [Slot.none])))
noncomputable def ql_lo2 : List Slot → Option (Told (Ex × List Slot)) := fun s => match s with
  | [⟨.val false [⟨.slice 9, .sh, TC.l A⟩], ⟨0, 0⟩⟩, ⟨.val false [⟨.slice 9, .sh, TC.l X⟩], ⟨0, 0⟩⟩, ⟨.val false [⟨.int .i64, .sh, TC.i m⟩], ⟨0, 0⟩⟩, ⟨.val false [⟨.int .i64, .sh, TC.i i⟩], ⟨0, 0⟩⟩] => some (((ql_2_fin A X m i)).map ql_2_out)
  | _ => .none
noncomputable def ql_lo : LoopTeller := fun r s => bif Nat.beq r 2 then ql_lo2 s else .none
theorem ql_2_r (A X : LL) (m i : Int) (fuel : Nat) : rounds (rnd tab FT D48 live 137 ql_lo 0 2) leave (fuel + 1) (ql_2_sl (A, X, m, i)) = ((ql_2_step A X m i)).run (goOn (fun s => rounds (rnd tab FT D48 live 137 ql_lo 0 2) leave fuel (ql_2_sl s)) fun w => some (ql_2_out w)) := by kernel_rfl
theorem ql_f2_eq (A : LL) (m : Int) (i : Nat) (hi : i < A.length) : ql_f2 A A m (i : Int) = bif dnP A (i : Int) then Sum.inl () else Sum.inr (Sum.inl ()) := by
  unfold ql_f2
  have e2 : qbr_v ((A.take ((i : Int)).toNat).drop ((0 : Int)).toNat) (nth (row A (i : Int)) 0).str = !(noDupN A (i : Int)) := by
    unfold qbr_v noDupN
    rw [qi_vv, slotIdx_in, Int.toNat_natCast, show ((0 : Int)).toNat = 0 from rfl, List.drop_zero, allI_take (by omega)]
    rfl
  rw [e2, qy_vv]
  show _ = bif (nameOk (nth (row A (i : Int)) 0).str && noDupN A (i : Int)) then _ else _
  cases nameOk (nth (row A (i : Int)) 0).str <;> cases noDupN A (i : Int) <;> rfl
theorem ql_R2_eq (A : LL) (m : Int) : ql_R2 A A m 0 = bif allI (fun i : Nat => dnP A (i : Int)) A.length then Sum.inr () else Sum.inl () := by
  unfold ql_R2
  exact (iter_all (P := fun i : Nat => dnP A (i : Int)) (g := fun _ a => a) (w := Sum.inl ()) fun j a hj => ql_f2_eq A m j hj)
theorem ql_2_h (A X : LL) (m i : Int) (ow : ql_2_ω) : ((ql_2_fin A X m i)).val = some ow → ∃ fuel, loopN ql_2_st fuel (A, X, m, i) = some ow := by
  refine auto_const (R := (ql_R2 A X m i)) rfl (iter_onR (f := (fun i a => (ql_f2 A X m (i : Int)))) (fin := (fun a => (ql_e2 A X m))) (Q := endsAs () ()) (fun i a => by unfold ql_f2; exact (onR_bif rfl (onR_bif rfl trivial))) (fun _ => rfl) _ _ _) ?_
  intro ho
  have ho : is (i = 0 ∧ A = X ∧ m = (A.length : Int) ∧ Typed tab (.slice 9) (.l A)) = true := ho.elim id id
  obtain ⟨rfl, rfl, rfl, ht⟩ := is_iff.1 ho
  have hlen : A.length ≤ 140737488351232 := by have := typed_room ht; simp only [show (tab 9).bytes = 16 from rfl] at this; omega
  refine ⟨(A.length) + 1, ?_⟩
  refine iter_loop (step := ql_2_st) (A.length) (fun i a => (ql_f2 A A (A.length : Int) (i : Int))) (fun a => (ql_e2 A A (A.length : Int))) (fun i a => (A, A, (A.length : Int), (i : Int))) (fun _ _ => True) trivial (fun i a hi hI => ⟨?_, fun _ _ => trivial⟩) (fun a hI => ?_)
  · show (ql_2_step A A (A.length : Int) (i : Int)).val = _
    unfold ql_2_step ql_f2
    have c0 : Typed tab (.str) (.s (nth (A.getD i []) 0).str) := typed_s (typed_cell ht (A.getD i []) (mem_getD hi) 0 (by decide))
    refine Tr.t (by simp; omega) ?_
    exact (Tr.t (by first | omega | (constructor <;> omega) | ((show qi_c _ _ = true; exact is_true ⟨is_true ⟨rfl, typed_take ht, rfl⟩, is_true ⟨rfl, typed_take ht, rfl⟩⟩))) (Tr.t (by first | ((show qi_c _ _ = true; exact is_true ⟨is_true ⟨rfl, typed_take ht, rfl⟩, is_true ⟨rfl, typed_take ht, rfl⟩⟩)) | (first | (apply qy_cc <;> assumption) | (first | (apply is_true; and_intros <;> (first | rfl | assumption | (apply qk_cc <;> assumption) | (apply qbd_cc <;> assumption) | (apply qo_cc <;> assumption) | (apply qr_cc <;> assumption) | (apply qv_cc <;> assumption) | (apply qw_cc <;> assumption) | (apply qq_cc <;> assumption) | (apply qg_cc <;> assumption) | (apply qc_cc <;> assumption) | (apply qbu_cc <;> assumption) | (apply qh_cc <;> assumption) | (apply qy_cc <;> assumption) | (first | (apply is_true; and_intros <;> (first | rfl | assumption | (apply qk_cc <;> assumption) | (apply qbd_cc <;> assumption) | (apply qo_cc <;> assumption) | (apply qr_cc <;> assumption) | (apply qv_cc <;> assumption) | (apply qw_cc <;> assumption) | (apply qq_cc <;> assumption) | (apply qg_cc <;> assumption) | (apply qc_cc <;> assumption) | (apply qbu_cc <;> assumption) | (apply qh_cc <;> assumption) | (apply qy_cc <;> assumption))) | (apply qk_cc <;> assumption) | (apply qbd_cc <;> assumption) | (apply qo_cc <;> assumption) | (apply qr_cc <;> assumption) | (apply qv_cc <;> assumption) | (apply qw_cc <;> assumption) | (apply qq_cc <;> assumption) | (apply qg_cc <;> assumption) | (apply qc_cc <;> assumption) | (apply qbu_cc <;> assumption) | (apply qh_cc <;> assumption) | (apply qy_cc <;> assumption)))) | (apply qk_cc <;> assumption) | (apply qbd_cc <;> assumption) | (apply qo_cc <;> assumption) | (apply qr_cc <;> assumption) | (apply qv_cc <;> assumption) | (apply qw_cc <;> assumption) | (apply qq_cc <;> assumption) | (apply qg_cc <;> assumption) | (apply qc_cc <;> assumption) | (apply qbu_cc <;> assumption) | (apply qh_cc <;> assumption) | (apply qy_cc <;> assumption)))) (Tr.bf rfl (Tr.t (by first | omega | (constructor <;> omega) | ((show qi_c _ _ = true; exact is_true ⟨is_true ⟨rfl, typed_take ht, rfl⟩, is_true ⟨rfl, typed_take ht, rfl⟩⟩))) (Tr.t (by first | ((show qi_c _ _ = true; exact is_true ⟨is_true ⟨rfl, typed_take ht, rfl⟩, is_true ⟨rfl, typed_take ht, rfl⟩⟩)) | (first | (apply is_true; and_intros <;> (first | rfl | assumption | (apply qk_cc <;> assumption) | (apply qbd_cc <;> assumption) | (apply qo_cc <;> assumption) | (apply qr_cc <;> assumption) | (apply qv_cc <;> assumption) | (apply qw_cc <;> assumption) | (apply qq_cc <;> assumption) | (apply qg_cc <;> assumption) | (apply qc_cc <;> assumption) | (apply qbu_cc <;> assumption) | (apply qh_cc <;> assumption) | (apply qy_cc <;> assumption) | (first | (apply is_true; and_intros <;> (first | rfl | assumption | (apply qk_cc <;> assumption) | (apply qbd_cc <;> assumption) | (apply qo_cc <;> assumption) | (apply qr_cc <;> assumption) | (apply qv_cc <;> assumption) | (apply qw_cc <;> assumption) | (apply qq_cc <;> assumption) | (apply qg_cc <;> assumption) | (apply qc_cc <;> assumption) | (apply qbu_cc <;> assumption) | (apply qh_cc <;> assumption) | (apply qy_cc <;> assumption) | (first | (apply is_true; and_intros <;> (first | rfl | assumption | (apply qk_cc <;> assumption) | (apply qbd_cc <;> assumption) | (apply qo_cc <;> assumption) | (apply qr_cc <;> assumption) | (apply qv_cc <;> assumption) | (apply qw_cc <;> assumption) | (apply qq_cc <;> assumption) | (apply qg_cc <;> assumption) | (apply qc_cc <;> assumption) | (apply qbu_cc <;> assumption) | (apply qh_cc <;> assumption) | (apply qy_cc <;> assumption))) | (apply qk_cc <;> assumption) | (apply qbd_cc <;> assumption) | (apply qo_cc <;> assumption) | (apply qr_cc <;> assumption) | (apply qv_cc <;> assumption) | (apply qw_cc <;> assumption) | (apply qq_cc <;> assumption) | (apply qg_cc <;> assumption) | (apply qc_cc <;> assumption) | (apply qbu_cc <;> assumption) | (apply qh_cc <;> assumption) | (apply qy_cc <;> assumption)))) | (apply qk_cc <;> assumption) | (apply qbd_cc <;> assumption) | (apply qo_cc <;> assumption) | (apply qr_cc <;> assumption) | (apply qv_cc <;> assumption) | (apply qw_cc <;> assumption) | (apply qq_cc <;> assumption) | (apply qg_cc <;> assumption) | (apply qc_cc <;> assumption) | (apply qbu_cc <;> assumption) | (apply qh_cc <;> assumption) | (apply qy_cc <;> assumption)))) | (apply qk_cc <;> assumption) | (apply qbd_cc <;> assumption) | (apply qo_cc <;> assumption) | (apply qr_cc <;> assumption) | (apply qv_cc <;> assumption) | (apply qw_cc <;> assumption) | (apply qq_cc <;> assumption) | (apply qg_cc <;> assumption) | (apply qc_cc <;> assumption) | (apply qbu_cc <;> assumption) | (apply qh_cc <;> assumption) | (apply qy_cc <;> assumption))) (Tr.bf rfl (by rw [Tr.val_ok, wrap64 (i := (i : Int) + 1) (by omega) (by omega)]; rfl)))))))
  · show (ql_2_step A A (A.length : Int) (A.length : Int)).val = _
    refine Tr.n (by first | (simp; done) | (simp; omega) | omega) ?_
    rfl
theorem ql_is2 : LoopIs tab FT D48 live 137 ql_lo 0 2 := by
  refine loop_told (sl := ql_2_sl) (step := ql_2_st) (out := ql_2_out) (lor := ql_lo2) (fin := fun x => (ql_2_fin (x.1) (x.2.1) (x.2.2.1) (x.2.2.2))) (fun _ => rfl) ?_ (fun x n => ql_2_r x.1 x.2.1 x.2.2.1 x.2.2.2 n) (fun x ow => ql_2_h x.1 x.2.1 x.2.2.1 x.2.2.2 ow)
  intro s t h
  unfold ql_lo2 at h
  split at h
  · cases h; exact ⟨(_, _, _, _), rfl, rfl⟩
  · cases h
noncomputable def ql_t (A : LL) : Tr (Bool) := (.ite ((ql_k2_1 A A (A.length : Int) (0 : Int)) = true) (.ite ((ql_o2_2 A A (A.length : Int) (0 : Int)) = true) (.ok false)
   .no)
  (.ite ((ql_o2_3 A A (A.length : Int) (0 : Int)) = true) (.ok true)
   .no))
def ql_mk (p : Bool) : Res := [(false, [⟨.bool, .sh, TC.b p⟩])]
noncomputable def ql_c (A : LL) : Bool := (bif (ql_k2_1 A A (A.length : Int) (0 : Int)) then ((ql_o2_2 A A (A.length : Int) (0 : Int)) && true) else ((ql_o2_3 A A (A.length : Int) (0 : Int)) && true))
noncomputable def ql_v (A : LL) : Bool := (bif (ql_k2_1 A A (A.length : Int) (0 : Int)) then false else true)
theorem ql_l (A : LL) : (ql_c A) = true → (ql_t A).val = some (ql_v A) := by
  unfold ql_t ql_v ql_c
  exact fun h => (Tr.ss h (fun h => (Tr.gb h fun h => rfl)) (fun h => (Tr.gb h fun h => rfl)))
noncomputable def ql_S : List Arg → Option (Bool × Res) := fun xs => match xs with
  | [(false, [(.slice 9, TC.l A)])] => some ((ql_c A), ql_mk (ql_v A))
  | _ => .none
theorem ql_e (A : LL) : runF tab FT D48 live 137 ql_lo [(false, [(.slice 9, TC.l A)])] = (ql_t A).run fun p => some (ql_mk p) := by kernel_rfl
theorem ql_s : ∀ xs r, ql_S xs = some (true, r) → runF tab FT D48 live 137 ql_lo xs = some r := by
  intro xs r h
  unfold ql_S at h
  split at h
  · simp only [Option.some.injEq, Prod.mk.injEq] at h
    obtain ⟨h1, rfl⟩ := h
    exact fun_told (ql_e _) (ql_l _) h1
  · cases h
noncomputable def D49 : Dt := also D48 137 ql_S
theorem d49 : DOk Go.Proofs.Try.prog tab D49 := d48.also mixed_ok tab_ok names_ok (fnLoops_one (by kernel_rfl) ql_is2) ql_s
theorem ql_cc {A : LL} (ht : Typed tab (.slice 9) (.l A)) : (ql_c A) = true := by
  unfold ql_c
  refine bifT (fun b1 => ?_) (fun b1 => ?_)
  · skip
    refine andT (by exact is_true ⟨rfl, rfl, rfl, ht⟩) ?_
    rfl
  · skip
    refine andT (by exact is_true ⟨rfl, rfl, rfl, ht⟩) ?_
    rfl
theorem ql_vv (A : LL) : ql_v A = allI (fun i : Nat => dnP A (i : Int)) A.length := by
  unfold ql_v ql_k2_1
  rw [ql_R2_eq]
  cases allI (fun i : Nat => dnP A (i : Int)) A.length <;> rfl
noncomputable def qs_f5 (k s : Int) (sg bg : Bool) (NA NU ME BA : LL) (ct lw hg : Int) (X : LL) (m i : Int) : (Unit) ⊕ ((Int × Int × Bool × Bool × LL × LL × LL × LL × Int) ⊕ (Int × Int × Bool × Bool × LL × LL × LL × LL × Int)) := (bif (!(qce_v ((nth (row X i) 0).int) lw hg)) then (.inr (.inl (k, s, sg, bg, NA, NU, ME, BA, ct))) else (bif (decide (i > (0 : Int))) then (bif (decide ((nth (row X i) 0).int ≤ (nth (row NU (IntKind.wrap .i64 (i - (1 : Int)))) 0).int)) then (.inr (.inl (k, s, sg, bg, NA, NU, ME, BA, ct))) else (.inl ())) else (.inl ())))
noncomputable def qs_e5 (k s : Int) (sg bg : Bool) (NA NU ME BA : LL) (ct lw hg : Int) (X : LL) (m : Int) : (Int × Int × Bool × Bool × LL × LL × LL × LL × Int) ⊕ (Int × Int × Bool × Bool × LL × LL × LL × LL × Int) := .inr (k, s, sg, bg, NA, NU, ME, BA, ct)
noncomputable def qs_R5 (k s : Int) (sg bg : Bool) (NA NU ME BA : LL) (ct lw hg : Int) (X : LL) (m i : Int) : (Int × Int × Bool × Bool × LL × LL × LL × LL × Int) ⊕ (Int × Int × Bool × Bool × LL × LL × LL × LL × Int) := iter (fun i a => (qs_f5 k s sg bg NA NU ME BA ct lw hg X m (i : Int))) (fun a => (qs_e5 k s sg bg NA NU ME BA ct lw hg X m)) (NU.length) 0 ()
abbrev qs_5_σ := Int × Int × Bool × Bool × LL × LL × LL × LL × Int × Int × Int × LL × Int × Int
abbrev qs_5_ω := (Int × Int × Bool × Bool × LL × LL × LL × LL × Int) ⊕ (Int × Int × Bool × Bool × LL × LL × LL × LL × Int)
noncomputable def qs_5_step (k s : Int) (sg bg : Bool) (NA NU ME BA : LL) (ct lw hg : Int) (X : LL) (m i : Int) : Tr (qs_5_σ ⊕ qs_5_ω) := (.ite ((decide (i < m)) = true) (.ite ((0 : Int) ≤ i ∧ i < (X.length : Int)) (.ite ((!(qce_v ((nth (row X i) 0).int) lw hg)) = true) (.ok (.inr (.inl (k, s, sg, bg, NA, NU, ME, BA, ct))))
    (.ite ((decide (i > (0 : Int))) = true) (.ite ((0 : Int) ≤ (IntKind.wrap .i64 (i - (1 : Int))) ∧ (IntKind.wrap .i64 (i - (1 : Int))) < (NU.length : Int)) (.ite ((decide ((nth (row X i) 0).int ≤ (nth (row NU (IntKind.wrap .i64 (i - (1 : Int)))) 0).int)) = true) (.ok (.inr (.inl (k, s, sg, bg, NA, NU, ME, BA, ct))))
       (.ok (.inl (k, s, sg, bg, NA, NU, ME, BA, ct, lw, hg, X, m, (IntKind.wrap .i64 (i + (1 : Int)))))))
      .no)
     (.ok (.inl (k, s, sg, bg, NA, NU, ME, BA, ct, lw, hg, X, m, (IntKind.wrap .i64 (i + (1 : Int))))))))
   .no)
  (.ok (.inr (.inr (k, s, sg, bg, NA, NU, ME, BA, ct)))))
noncomputable def qs_5_st : qs_5_σ → Tr (qs_5_σ ⊕ qs_5_ω) := fun x => (qs_5_step (x.1) (x.2.1) (x.2.2.1) (x.2.2.2.1) (x.2.2.2.2.1) (x.2.2.2.2.2.1) (x.2.2.2.2.2.2.1) (x.2.2.2.2.2.2.2.1) (x.2.2.2.2.2.2.2.2.1) (x.2.2.2.2.2.2.2.2.2.1) (x.2.2.2.2.2.2.2.2.2.2.1) (x.2.2.2.2.2.2.2.2.2.2.2.1) (x.2.2.2.2.2.2.2.2.2.2.2.2.1) (x.2.2.2.2.2.2.2.2.2.2.2.2.2))
noncomputable def qs_k5_1 (k s : Int) (sg bg : Bool) (NA NU ME BA : LL) (ct lw hg : Int) (X : LL) (m i : Int) : Bool := sumIs (qs_R5 k s sg bg NA NU ME BA ct lw hg X m i)
noncomputable def qs_o5_2 (k s : Int) (sg bg : Bool) (NA NU ME BA : LL) (ct lw hg : Int) (X : LL) (m i : Int) : Bool := is (i = 0 ∧ NU = X ∧ m = (NU.length : Int) ∧ NU.length ≤ 140737488351232)
noncomputable def qs_o5_3 (k s : Int) (sg bg : Bool) (NA NU ME BA : LL) (ct lw hg : Int) (X : LL) (m i : Int) : Bool := is (i = 0 ∧ NU = X ∧ m = (NU.length : Int) ∧ NU.length ≤ 140737488351232)
noncomputable def qs_5_fin (k s : Int) (sg bg : Bool) (NA NU ME BA : LL) (ct lw hg : Int) (X : LL) (m i : Int) : Told qs_5_ω := (.br (qs_k5_1 k s sg bg NA NU ME BA ct lw hg X m i) (.leaf (qs_o5_2 k s sg bg NA NU ME BA ct lw hg X m i) (.inl (k, s, sg, bg, NA, NU, ME, BA, ct))) (.leaf (qs_o5_3 k s sg bg NA NU ME BA ct lw hg X m i) (.inr (k, s, sg, bg, NA, NU, ME, BA, ct))))
def qs_5_sl (x : qs_5_σ) : List Slot := [⟨.bx 32 [⟨.int .i64, .sh, TC.i (x.1)⟩, ⟨.int .i64, .sh, TC.i (x.2.1)⟩, ⟨.bool, .sh, TC.b (x.2.2.1)⟩, ⟨.bool, .sh, TC.b (x.2.2.2.1)⟩, ⟨.slice 9, .sh, TC.l (x.2.2.2.2.1)⟩, ⟨.slice 2, .sh, TC.l (x.2.2.2.2.2.1)⟩, ⟨.slice 71, .sh, TC.l (x.2.2.2.2.2.2.1)⟩, ⟨.slice 32, .sh, TC.l (x.2.2.2.2.2.2.2.1)⟩, ⟨.int .i64, .sh, TC.i (x.2.2.2.2.2.2.2.2.1)⟩], ⟨0, 0⟩⟩, ⟨.val false [⟨.int .i64, .sh, TC.i (x.2.2.2.2.2.2.2.2.2.1)⟩], ⟨0, 0⟩⟩, ⟨.val false [⟨.int .i64, .sh, TC.i (x.2.2.2.2.2.2.2.2.2.2.1)⟩], ⟨0, 0⟩⟩, ⟨.val false [⟨.slice 2, .sh, TC.l (x.2.2.2.2.2.2.2.2.2.2.2.1)⟩], ⟨0, 0⟩⟩, ⟨.val false [⟨.int .i64, .sh, TC.i (x.2.2.2.2.2.2.2.2.2.2.2.2.1)⟩], ⟨0, 0⟩⟩, ⟨.val false [⟨.int .i64, .sh, TC.i (x.2.2.2.2.2.2.2.2.2.2.2.2.2)⟩], ⟨0, 0⟩⟩]
def qs_5_out : qs_5_ω → Ex × List Slot := (Sum.elim (fun x => (.ret, [⟨.bx 32 [⟨.int .i64, .sh, TC.i (x.1)⟩, ⟨.int .i64, .sh, TC.i (x.2.1)⟩, ⟨.bool, .sh, TC.b (x.2.2.1)⟩, ⟨.bool, .sh, TC.b (x.2.2.2.1)⟩, ⟨.slice 9, .sh, TC.l (x.2.2.2.2.1)⟩, ⟨.slice 2, .sh, TC.l (x.2.2.2.2.2.1)⟩, ⟨.slice 71, .sh, TC.l (x.2.2.2.2.2.2.1)⟩, ⟨.slice 32, .sh, TC.l (x.2.2.2.2.2.2.2.1)⟩, ⟨.int .i64, .sh, TC.i (x.2.2.2.2.2.2.2.2)⟩], ⟨0, 0⟩⟩, ⟨.val false [⟨.bool, .sh, TC.b false⟩], ⟨0, 0⟩⟩])) (fun x => (.exit 0, [⟨.bx 32 [⟨.int .i64, .sh, TC.i (x.1)⟩, ⟨.int .i64, .sh, TC.i (x.2.1)⟩, ⟨.bool, .sh, TC.b (x.2.2.1)⟩, ⟨.bool, .sh, TC.b (x.2.2.2.1)⟩, ⟨.slice 9, .sh, TC.l (x.2.2.2.2.1)⟩, ⟨.slice 2, .sh, TC.l (x.2.2.2.2.2.1)⟩, ⟨.slice 71, .sh, TC.l (x.2.2.2.2.2.2.1)⟩, ⟨.slice 32, .sh, TC.l (x.2.2.2.2.2.2.2.1)⟩, ⟨.int .i64, .sh, TC.i (x.2.2.2.2.2.2.2.2)⟩], ⟨0, 0⟩⟩, Slot.none])))
end
end
end
end
end
end
end
end
end Go.Proofs.Ytdcafhfnkblfkaa.V
