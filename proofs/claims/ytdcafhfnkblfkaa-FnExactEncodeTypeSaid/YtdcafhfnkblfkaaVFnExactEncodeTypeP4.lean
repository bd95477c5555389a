/- What the functions of FnExactEncodeType answer. No condition. -/
import Derived.Test.YtdcafhfnkblfkaaVFnExactEncodeTypeP3
namespace Go.Proofs.Ytdcafhfnkblfkaa.V
open Go
set_option maxRecDepth 100000
set_option linter.unusedVariables false
set_option linter.unusedSectionVars false
set_option linter.unusedSimpArgs false
set_option maxHeartbeats 2000000
section
variable [i_laws_szType : qbc_O]
variable [g_laws_szType : qbc_G]
section
variable [i_laws_toType : qq_O]
variable [g_laws_toType : qq_G]
section
variable [i_spec_l02Size : qo_O]
variable [g_spec_l02Size : qo_G]
section
variable [i_spec_l02Depth : qg_O]
variable [g_spec_l02Depth : qg_G]
section
variable [i_spec_l02Ok : qbh_O]
variable [g_spec_l02Ok : qbh_G]
section
variable [i_spec_l02Encode : qf_O]
variable [g_spec_l02Encode : qf_G]
section
variable [i_impl_Type_size : qy_O]
variable [g_impl_Type_size : qy_G]
section
variable [i_impl_SameType : qba_O]
variable [g_impl_SameType : qba_G]
section
variable [i_impl_Type_valid : qw_O]
variable [g_impl_Type_valid : qw_G]
noncomputable def qm_lo : LoopTeller := fun r s => bif Nat.beq r 2 then qm_lo2 s else .none
theorem qm_2_r (A X : LL) (m i : Int) (fuel : Nat) : rounds (rnd tab FT D47 live 137 qm_lo 0 2) leave (fuel + 1) (qm_2_sl (A, X, m, i)) = ((qm_2_step A X m i)).run (goOn (fun s => rounds (rnd tab FT D47 live 137 qm_lo 0 2) leave fuel (qm_2_sl s)) fun w => some (qm_2_out w)) := by kernel_rfl
theorem qm_f2_eq (A : LL) (m : Int) (i : Nat) (hi : i < A.length) : qm_f2 A A m (i : Int) = bif dnP A (i : Int) then Sum.inl () else Sum.inr (Sum.inl ()) := by
  unfold qm_f2
  have e2 : qbs_v ((A.take ((i : Int)).toNat).drop ((0 : Int)).toNat) (nth (row A (i : Int)) 0).str = !(noDupN A (i : Int)) := by
    unfold qbs_v noDupN
    rw [qj_vv, slotIdx_in, Int.toNat_natCast, show ((0 : Int)).toNat = 0 from rfl, List.drop_zero, allI_take (by omega)]
    rfl
  rw [e2, qz_vv]
  show _ = bif (nameOk (nth (row A (i : Int)) 0).str && noDupN A (i : Int)) then _ else _
  cases nameOk (nth (row A (i : Int)) 0).str <;> cases noDupN A (i : Int) <;> rfl
theorem qm_R2_eq (A : LL) (m : Int) : qm_R2 A A m 0 = bif allI (fun i : Nat => dnP A (i : Int)) A.length then Sum.inr () else Sum.inl () := by
  unfold qm_R2
  exact (iter_all (P := fun i : Nat => dnP A (i : Int)) (g := fun _ a => a) (w := Sum.inl ()) fun j a hj => qm_f2_eq A m j hj)
theorem qm_2_h (A X : LL) (m i : Int) (ow : qm_2_ω) : ((qm_2_fin A X m i)).val = some ow → ∃ fuel, loopN qm_2_st fuel (A, X, m, i) = some ow := by
  refine auto_const (R := (qm_R2 A X m i)) rfl (iter_onR (f := (fun i a => (qm_f2 A X m (i : Int)))) (fin := (fun a => (qm_e2 A X m))) (Q := endsAs () ()) (fun i a => by unfold qm_f2; exact (onR_bif rfl (onR_bif rfl trivial))) (fun _ => rfl) _ _ _) ?_
  intro ho
  have ho : is (i = 0 ∧ A = X ∧ m = (A.length : Int) ∧ Typed tab (.slice 9) (.l A)) = true := ho.elim id id
  obtain ⟨rfl, rfl, rfl, ht⟩ := is_iff.1 ho
  have hlen : A.length ≤ 140737488351232 := by have := typed_room ht; simp only [show (tab 9).bytes = 16 from rfl] at this; omega
  refine ⟨(A.length) + 1, ?_⟩
  refine iter_loop (step := qm_2_st) (A.length) (fun i a => (qm_f2 A A (A.length : Int) (i : Int))) (fun a => (qm_e2 A A (A.length : Int))) (fun i a => (A, A, (A.length : Int), (i : Int))) (fun _ _ => True) trivial (fun i a hi hI => ⟨?_, fun _ _ => trivial⟩) (fun a hI => ?_)
  · show (qm_2_step A A (A.length : Int) (i : Int)).val = _
    unfold qm_2_step qm_f2
    have c0 : Typed tab (.str) (.s (nth (A.getD i []) 0).str) := typed_s (typed_cell ht (A.getD i []) (mem_getD hi) 0 (by decide))
    refine Tr.t (by simp; omega) ?_
    exact (Tr.t (by first | omega | (constructor <;> omega) | ((show qj_c _ _ = true; exact is_true ⟨is_true ⟨rfl, typed_take ht, rfl⟩, is_true ⟨rfl, typed_take ht, rfl⟩⟩))) (Tr.t (by first | ((show qj_c _ _ = true; exact is_true ⟨is_true ⟨rfl, typed_take ht, rfl⟩, is_true ⟨rfl, typed_take ht, rfl⟩⟩)) | (first | (apply qz_cc <;> assumption) | (first | (apply is_true; and_intros <;> (first | rfl | assumption | (apply ql_cc <;> assumption) | (apply qbf_cc <;> assumption) | (apply qp_cc <;> assumption) | (apply qu_cc <;> assumption) | (apply qx_cc <;> assumption) | (apply qbb_cc <;> assumption) | (apply qt_cc <;> assumption) | (apply qh_cc <;> assumption) | (apply qc_cc <;> assumption) | (apply qbu_cc <;> assumption) | (apply qbv_cc <;> assumption) | (apply qi_cc <;> assumption) | (apply qz_cc <;> assumption) | (first | (apply is_true; and_intros <;> (first | rfl | assumption | (apply ql_cc <;> assumption) | (apply qbf_cc <;> assumption) | (apply qp_cc <;> assumption) | (apply qu_cc <;> assumption) | (apply qx_cc <;> assumption) | (apply qbb_cc <;> assumption) | (apply qt_cc <;> assumption) | (apply qh_cc <;> assumption) | (apply qc_cc <;> assumption) | (apply qbu_cc <;> assumption) | (apply qbv_cc <;> assumption) | (apply qi_cc <;> assumption) | (apply qz_cc <;> assumption))) | (apply ql_cc <;> assumption) | (apply qbf_cc <;> assumption) | (apply qp_cc <;> assumption) | (apply qu_cc <;> assumption) | (apply qx_cc <;> assumption) | (apply qbb_cc <;> assumption) | (apply qt_cc <;> assumption) | (apply qh_cc <;> assumption) | (apply qc_cc <;> assumption) | (apply qbu_cc <;> assumption) | (apply qbv_cc <;> assumption) | (apply qi_cc <;> assumption) | (apply qz_cc <;> assumption)))) | (apply ql_cc <;> assumption) | (apply qbf_cc <;> assumption) | (apply qp_cc <;> assumption) | (apply qu_cc <;> assumption) | (apply qx_cc <;> assumption) | (apply qbb_cc <;> assumption) | (apply qt_cc <;> assumption) | (apply qh_cc <;> assumption) | (apply qc_cc <;> assumption) | (apply qbu_cc <;> assumption) | (apply qbv_cc <;> assumption) | (apply qi_cc <;> assumption) | (apply qz_cc <;> assumption)))) (Tr.bf rfl (Tr.t (by first | omega | (constructor <;> omega) | ((show qj_c _ _ = true; exact is_true ⟨is_true ⟨rfl, typed_take ht, rfl⟩, is_true ⟨rfl, typed_take ht, rfl⟩⟩))) (Tr.t (by first | ((show qj_c _ _ = true; exact is_true ⟨is_true ⟨rfl, typed_take ht, rfl⟩, is_true ⟨rfl, typed_take ht, rfl⟩⟩)) | (first | (apply is_true; and_intros <;> (first | rfl | assumption | (apply ql_cc <;> assumption) | (apply qbf_cc <;> assumption) | (apply qp_cc <;> assumption) | (apply qu_cc <;> assumption) | (apply qx_cc <;> assumption) | (apply qbb_cc <;> assumption) | (apply qt_cc <;> assumption) | (apply qh_cc <;> assumption) | (apply qc_cc <;> assumption) | (apply qbu_cc <;> assumption) | (apply qbv_cc <;> assumption) | (apply qi_cc <;> assumption) | (apply qz_cc <;> assumption) | (first | (apply is_true; and_intros <;> (first | rfl | assumption | (apply ql_cc <;> assumption) | (apply qbf_cc <;> assumption) | (apply qp_cc <;> assumption) | (apply qu_cc <;> assumption) | (apply qx_cc <;> assumption) | (apply qbb_cc <;> assumption) | (apply qt_cc <;> assumption) | (apply qh_cc <;> assumption) | (apply qc_cc <;> assumption) | (apply qbu_cc <;> assumption) | (apply qbv_cc <;> assumption) | (apply qi_cc <;> assumption) | (apply qz_cc <;> assumption) | (first | (apply is_true; and_intros <;> (first | rfl | assumption | (apply ql_cc <;> assumption) | (apply qbf_cc <;> assumption) | (apply qp_cc <;> assumption) | (apply qu_cc <;> assumption) | (apply qx_cc <;> assumption) | (apply qbb_cc <;> assumption) | (apply qt_cc <;> assumption) | (apply qh_cc <;> assumption) | (apply qc_cc <;> assumption) | (apply qbu_cc <;> assumption) | (apply qbv_cc <;> assumption) | (apply qi_cc <;> assumption) | (apply qz_cc <;> assumption))) | (apply ql_cc <;> assumption) | (apply qbf_cc <;> assumption) | (apply qp_cc <;> assumption) | (apply qu_cc <;> assumption) | (apply qx_cc <;> assumption) | (apply qbb_cc <;> assumption) | (apply qt_cc <;> assumption) | (apply qh_cc <;> assumption) | (apply qc_cc <;> assumption) | (apply qbu_cc <;> assumption) | (apply qbv_cc <;> assumption) | (apply qi_cc <;> assumption) | (apply qz_cc <;> assumption)))) | (apply ql_cc <;> assumption) | (apply qbf_cc <;> assumption) | (apply qp_cc <;> assumption) | (apply qu_cc <;> assumption) | (apply qx_cc <;> assumption) | (apply qbb_cc <;> assumption) | (apply qt_cc <;> assumption) | (apply qh_cc <;> assumption) | (apply qc_cc <;> assumption) | (apply qbu_cc <;> assumption) | (apply qbv_cc <;> assumption) | (apply qi_cc <;> assumption) | (apply qz_cc <;> assumption)))) | (apply ql_cc <;> assumption) | (apply qbf_cc <;> assumption) | (apply qp_cc <;> assumption) | (apply qu_cc <;> assumption) | (apply qx_cc <;> assumption) | (apply qbb_cc <;> assumption) | (apply qt_cc <;> assumption) | (apply qh_cc <;> assumption) | (apply qc_cc <;> assumption) | (apply qbu_cc <;> assumption) | (apply qbv_cc <;> assumption) | (apply qi_cc <;> assumption) | (apply qz_cc <;> assumption))) (Tr.bf rfl (by rw [Tr.val_ok, wrap64 (i := (i : Int) + 1) (by omega) (by omega)]; rfl)))))))
  · show (qm_2_step A A (A.length : Int) (A.length : Int)).val = _
    refine Tr.n (by first | (simp; done) | (simp; omega) | omega) ?_
    rfl
theorem qm_is2 : LoopIs tab FT D47 live 137 qm_lo 0 2 := by
  refine loop_told (sl := qm_2_sl) (step := qm_2_st) (out := qm_2_out) (lor := qm_lo2) (fin := fun x => (qm_2_fin (x.1) (x.2.1) (x.2.2.1) (x.2.2.2))) (fun _ => rfl) ?_ (fun x n => qm_2_r x.1 x.2.1 x.2.2.1 x.2.2.2 n) (fun x ow => qm_2_h x.1 x.2.1 x.2.2.1 x.2.2.2 ow)
  intro s t h
  unfold qm_lo2 at h
  split at h
  · cases h; exact ⟨(_, _, _, _), rfl, rfl⟩
  · cases h
noncomputable def qm_t (A : LL) : Tr (Bool) := (.ite ((qm_k2_1 A A (A.length : Int) (0 : Int)) = true) (.ite ((qm_o2_2 A A (A.length : Int) (0 : Int)) = true) (.ok false)
   .no)
  (.ite ((qm_o2_3 A A (A.length : Int) (0 : Int)) = true) (.ok true)
   .no))
def qm_mk (p : Bool) : Res := [(false, [⟨.bool, .sh, TC.b p⟩])]
noncomputable def qm_c (A : LL) : Bool := (bif (qm_k2_1 A A (A.length : Int) (0 : Int)) then ((qm_o2_2 A A (A.length : Int) (0 : Int)) && true) else ((qm_o2_3 A A (A.length : Int) (0 : Int)) && true))
noncomputable def qm_v (A : LL) : Bool := (bif (qm_k2_1 A A (A.length : Int) (0 : Int)) then false else true)
theorem qm_l (A : LL) : (qm_c A) = true → (qm_t A).val = some (qm_v A) := by
  unfold qm_t qm_v qm_c
  exact fun h => (Tr.ss h (fun h => (Tr.gb h fun h => rfl)) (fun h => (Tr.gb h fun h => rfl)))
noncomputable def qm_S : List Arg → Option (Bool × Res) := fun xs => match xs with
  | [(false, [(.slice 9, TC.l A)])] => some ((qm_c A), qm_mk (qm_v A))
  | _ => .none
theorem qm_e (A : LL) : runF tab FT D47 live 137 qm_lo [(false, [(.slice 9, TC.l A)])] = (qm_t A).run fun p => some (qm_mk p) := by kernel_rfl
theorem qm_s : ∀ xs r, qm_S xs = some (true, r) → runF tab FT D47 live 137 qm_lo xs = some r := by
  intro xs r h
  unfold qm_S at h
  split at h
  · simp only [Option.some.injEq, Prod.mk.injEq] at h
    obtain ⟨h1, rfl⟩ := h
    exact fun_told (qm_e _) (qm_l _) h1
  · cases h
noncomputable def D48 : Dt := also D47 137 qm_S
theorem d48 : DOk Go.Proofs.Try.prog tab D48 := d47.also mixed_ok tab_ok names_ok (fnLoops_one (by kernel_rfl) qm_is2) qm_s
theorem qm_cc {A : LL} (ht : Typed tab (.slice 9) (.l A)) : (qm_c A) = true := by
  unfold qm_c
  refine bifT (fun b1 => ?_) (fun b1 => ?_)
  · skip
    refine andT (by exact is_true ⟨rfl, rfl, rfl, ht⟩) ?_
    rfl
  · skip
    refine andT (by exact is_true ⟨rfl, rfl, rfl, ht⟩) ?_
    rfl
theorem qm_vv (A : LL) : qm_v A = allI (fun i : Nat => dnP A (i : Int)) A.length := by
  unfold qm_v qm_k2_1
  rw [qm_R2_eq]
  cases allI (fun i : Nat => dnP A (i : Int)) A.length <;> rfl
noncomputable def qv_f5 (k s : Int) (sg bg : Bool) (NA NU ME BA : LL) (ct lw hg : Int) (X : LL) (m i : Int) : (Unit) ⊕ ((Int × Int × Bool × Bool × LL × LL × LL × LL × Int) ⊕ (Int × Int × Bool × Bool × LL × LL × LL × LL × Int)) := (bif (!(qcd_v ((nth (row X i) 0).int) lw hg)) then (.inr (.inl (k, s, sg, bg, NA, NU, ME, BA, ct))) else (bif (decide (i > (0 : Int))) then (bif (decide ((nth (row X i) 0).int ≤ (nth (row NU (IntKind.wrap .i64 (i - (1 : Int)))) 0).int)) then (.inr (.inl (k, s, sg, bg, NA, NU, ME, BA, ct))) else (.inl ())) else (.inl ())))
noncomputable def qv_e5 (k s : Int) (sg bg : Bool) (NA NU ME BA : LL) (ct lw hg : Int) (X : LL) (m : Int) : (Int × Int × Bool × Bool × LL × LL × LL × LL × Int) ⊕ (Int × Int × Bool × Bool × LL × LL × LL × LL × Int) := .inr (k, s, sg, bg, NA, NU, ME, BA, ct)
noncomputable def qv_R5 (k s : Int) (sg bg : Bool) (NA NU ME BA : LL) (ct lw hg : Int) (X : LL) (m i : Int) : (Int × Int × Bool × Bool × LL × LL × LL × LL × Int) ⊕ (Int × Int × Bool × Bool × LL × LL × LL × LL × Int) := iter (fun i a => (qv_f5 k s sg bg NA NU ME BA ct lw hg X m (i : Int))) (fun a => (qv_e5 k s sg bg NA NU ME BA ct lw hg X m)) (NU.length) 0 ()
abbrev qv_5_σ := Int × Int × Bool × Bool × LL × LL × LL × LL × Int × Int × Int × LL × Int × Int
abbrev qv_5_ω := (Int × Int × Bool × Bool × LL × LL × LL × LL × Int) ⊕ (Int × Int × Bool × Bool × LL × LL × LL × LL × Int)
noncomputable def qv_5_step (k s : Int) (sg bg : Bool) (NA NU ME BA : LL) (ct lw hg : Int) (X : LL) (m i : Int) : Tr (qv_5_σ ⊕ qv_5_ω) := (.ite ((decide (i < m)) = true) (.ite ((0 : Int) ≤ i ∧ i < (X.length : Int)) (.ite ((!(qcd_v ((nth (row X i) 0).int) lw hg)) = true) (.ok (.inr (.inl (k, s, sg, bg, NA, NU, ME, BA, ct))))
    (.ite ((decide (i > (0 : Int))) = true) (.ite ((0 : Int) ≤ (IntKind.wrap .i64 (i - (1 : Int))) ∧ (IntKind.wrap .i64 (i - (1 : Int))) < (NU.length : Int)) (.ite ((decide ((nth (row X i) 0).int ≤ (nth (row NU (IntKind.wrap .i64 (i - (1 : Int)))) 0).int)) = true) (.ok (.inr (.inl (k, s, sg, bg, NA, NU, ME, BA, ct))))
       (.ok (.inl (k, s, sg, bg, NA, NU, ME, BA, ct, lw, hg, X, m, (IntKind.wrap .i64 (i + (1 : Int)))))))
      .no)
     (.ok (.inl (k, s, sg, bg, NA, NU, ME, BA, ct, lw, hg, X, m, (IntKind.wrap .i64 (i + (1 : Int))))))))
   .no)
  (.ok (.inr (.inr (k, s, sg, bg, NA, NU, ME, BA, ct)))))
noncomputable def qv_5_st : qv_5_σ → Tr (qv_5_σ ⊕ qv_5_ω) := fun x => (qv_5_step (x.1) (x.2.1) (x.2.2.1) (x.2.2.2.1) (x.2.2.2.2.1) (x.2.2.2.2.2.1) (x.2.2.2.2.2.2.1) (x.2.2.2.2.2.2.2.1) (x.2.2.2.2.2.2.2.2.1) (x.2.2.2.2.2.2.2.2.2.1) (x.2.2.2.2.2.2.2.2.2.2.1) (x.2.2.2.2.2.2.2.2.2.2.2.1) (x.2.2.2.2.2.2.2.2.2.2.2.2.1) (x.2.2.2.2.2.2.2.2.2.2.2.2.2))
noncomputable def qv_k5_1 (k s : Int) (sg bg : Bool) (NA NU ME BA : LL) (ct lw hg : Int) (X : LL) (m i : Int) : Bool := sumIs (qv_R5 k s sg bg NA NU ME BA ct lw hg X m i)
noncomputable def qv_o5_2 (k s : Int) (sg bg : Bool) (NA NU ME BA : LL) (ct lw hg : Int) (X : LL) (m i : Int) : Bool := is (i = 0 ∧ NU = X ∧ m = (NU.length : Int) ∧ NU.length ≤ 140737488351232)
noncomputable def qv_o5_3 (k s : Int) (sg bg : Bool) (NA NU ME BA : LL) (ct lw hg : Int) (X : LL) (m i : Int) : Bool := is (i = 0 ∧ NU = X ∧ m = (NU.length : Int) ∧ NU.length ≤ 140737488351232)
noncomputable def qv_5_fin (k s : Int) (sg bg : Bool) (NA NU ME BA : LL) (ct lw hg : Int) (X : LL) (m i : Int) : Told qv_5_ω := (.br (qv_k5_1 k s sg bg NA NU ME BA ct lw hg X m i) (.leaf (qv_o5_2 k s sg bg NA NU ME BA ct lw hg X m i) (.inl (k, s, sg, bg, NA, NU, ME, BA, ct))) (.leaf (qv_o5_3 k s sg bg NA NU ME BA ct lw hg X m i) (.inr (k, s, sg, bg, NA, NU, ME, BA, ct))))
def qv_5_sl (x : qv_5_σ) : List Slot := [⟨.bx 32 [⟨.int .i64, .sh, TC.i (x.1)⟩, ⟨.int .i64, .sh, TC.i (x.2.1)⟩, ⟨.bool, .sh, TC.b (x.2.2.1)⟩, ⟨.bool, .sh, TC.b (x.2.2.2.1)⟩, ⟨.slice 9, .sh, TC.l (x.2.2.2.2.1)⟩, ⟨.slice 2, .sh, TC.l (x.2.2.2.2.2.1)⟩, ⟨.slice 71, .sh, TC.l (x.2.2.2.2.2.2.1)⟩, ⟨.slice 32, .sh, TC.l (x.2.2.2.2.2.2.2.1)⟩, ⟨.int .i64, .sh, TC.i (x.2.2.2.2.2.2.2.2.1)⟩], ⟨0, 0⟩⟩, ⟨.val false [⟨.int .i64, .sh, TC.i (x.2.2.2.2.2.2.2.2.2.1)⟩], ⟨0, 0⟩⟩, ⟨.val false [⟨.int .i64, .sh, TC.i (x.2.2.2.2.2.2.2.2.2.2.1)⟩], ⟨0, 0⟩⟩, ⟨.val false [⟨.slice 2, .sh, TC.l (x.2.2.2.2.2.2.2.2.2.2.2.1)⟩], ⟨0, 0⟩⟩, ⟨.val false [⟨.int .i64, .sh, TC.i (x.2.2.2.2.2.2.2.2.2.2.2.2.1)⟩], ⟨0, 0⟩⟩, ⟨.val false [⟨.int .i64, .sh, TC.i (x.2.2.2.2.2.2.2.2.2.2.2.2.2)⟩], ⟨0, 0⟩⟩]
def qv_5_out : qv_5_ω → Ex × List Slot := (Sum.elim (fun x => (.ret, [⟨.bx 32 [⟨.int .i64, .sh, TC.i (x.1)⟩, ⟨.int .i64, .sh, TC.i (x.2.1)⟩, ⟨.bool, .sh, TC.b (x.2.2.1)⟩, ⟨.bool, .sh, TC.b (x.2.2.2.1)⟩, ⟨.slice 9, .sh, TC.l (x.2.2.2.2.1)⟩, ⟨.slice 2, .sh, TC.l (x.2.2.2.2.2.1)⟩, ⟨.slice 71, .sh, TC.l (x.2.2.2.2.2.2.1)⟩, ⟨.slice 32, .sh, TC.l (x.2.2.2.2.2.2.2.1)⟩, ⟨.int .i64, .sh, TC.i (x.2.2.2.2.2.2.2.2)⟩], ⟨0, 0⟩⟩, ⟨.val false [⟨.bool, .sh, TC.b false⟩], ⟨0, 0⟩⟩])) (fun x => (.exit 0, [⟨.bx 32 [⟨.int .i64, .sh, TC.i (x.1)⟩, ⟨.int .i64, .sh, TC.i (x.2.1)⟩, ⟨.bool, .sh, TC.b (x.2.2.1)⟩, ⟨.bool, .sh, TC.b (x.2.2.2.1)⟩, ⟨.slice 9, .sh, TC.l (x.2.2.2.2.1)⟩, ⟨.slice 2, .sh, TC.l (x.2.2.2.2.2.1)⟩, ⟨.slice 71, .sh, TC.l (x.2.2.2.2.2.2.1)⟩, ⟨.slice 32, .sh, TC.l (x.2.2.2.2.2.2.2.1)⟩, ⟨.int .i64, .sh, TC.i (x.2.2.2.2.2.2.2.2)⟩], ⟨0, 0⟩⟩, Slot.none])))
noncomputable def qv_lo5 : List Slot → Option (Told (Ex × List Slot)) := fun s => match s with
  | [⟨.bx 32 [⟨.int .i64, .sh, TC.i k⟩, ⟨.int .i64, .sh, TC.i s⟩, ⟨.bool, .sh, TC.b sg⟩, ⟨.bool, .sh, TC.b bg⟩, ⟨.slice 9, .sh, TC.l NA⟩, ⟨.slice 2, .sh, TC.l NU⟩, ⟨.slice 71, .sh, TC.l ME⟩, ⟨.slice 32, .sh, TC.l BA⟩, ⟨.int .i64, .sh, TC.i ct⟩], ⟨0, 0⟩⟩, ⟨.val false [⟨.int .i64, .sh, TC.i lw⟩], ⟨0, 0⟩⟩, ⟨.val false [⟨.int .i64, .sh, TC.i hg⟩], ⟨0, 0⟩⟩, ⟨.val false [⟨.slice 2, .sh, TC.l X⟩], ⟨0, 0⟩⟩, ⟨.val false [⟨.int .i64, .sh, TC.i m⟩], ⟨0, 0⟩⟩, ⟨.val false [⟨.int .i64, .sh, TC.i i⟩], ⟨0, 0⟩⟩] => some (((qv_5_fin k s sg bg NA NU ME BA ct lw hg X m i)).map qv_5_out)
  | _ => .none
noncomputable def qv_lo : LoopTeller := fun r s => bif Nat.beq r 5 then qv_lo5 s else .none
theorem qv_5_r (k s : Int) (sg bg : Bool) (NA NU ME BA : LL) (ct lw hg : Int) (X : LL) (m i : Int) (fuel : Nat) : rounds (rnd tab FT D48 live 106 qv_lo 0 5) leave (fuel + 1) (qv_5_sl (k, s, sg, bg, NA, NU, ME, BA, ct, lw, hg, X, m, i)) = ((qv_5_step k s sg bg NA NU ME BA ct lw hg X m i)).run (goOn (fun s => rounds (rnd tab FT D48 live 106 qv_lo 0 5) leave fuel (qv_5_sl s)) fun w => some (qv_5_out w)) := by kernel_rfl
theorem qv_f5_eq (k s : Int) (sg bg : Bool) (NA NU ME BA : LL) (ct : Int) (lw hg : Int) (m i : Int) : qv_f5 k s sg bg NA NU ME BA ct lw hg NU m i = bif numP NU lw hg i then Sum.inl () else Sum.inr (Sum.inl (k, s, sg, bg, NA, NU, ME, BA, ct)) := by
  unfold qv_f5 numP ascB intAt
  rw [show qcd_v (nth (row NU i) 0).int lw hg = inB (nth (row NU i) 0).int lw hg from rfl, show decide ((nth (row NU (IntKind.wrap .i64 (i - (1 : Int)))) 0).int ≥ (nth (row NU i) 0).int) = decide ((nth (row NU i) 0).int ≤ (nth (row NU (IntKind.wrap .i64 (i - (1 : Int)))) 0).int) from rfl]
  generalize inB (nth (row NU i) 0).int lw hg = p0, decide (i > 0) = p1, decide ((nth (row NU i) 0).int ≤ (nth (row NU (IntKind.wrap .i64 (i - (1 : Int)))) 0).int) = p2
  cases p0 <;> cases p1 <;> cases p2 <;> rfl
theorem qv_R5_eq (k s : Int) (sg bg : Bool) (NA NU ME BA : LL) (ct : Int) (lw hg : Int) (m : Int) : qv_R5 k s sg bg NA NU ME BA ct lw hg NU m 0 = bif allI (fun i : Nat => numP NU lw hg (i : Int)) NU.length then Sum.inr (k, s, sg, bg, NA, NU, ME, BA, ct) else Sum.inl (k, s, sg, bg, NA, NU, ME, BA, ct) := by
  unfold qv_R5
  exact (iter_all (P := fun i : Nat => numP NU lw hg (i : Int)) (g := fun _ a => a) (w := Sum.inl (k, s, sg, bg, NA, NU, ME, BA, ct)) fun j a _ => qv_f5_eq k s sg bg NA NU ME BA ct lw hg m _)
theorem qv_5_h (k s : Int) (sg bg : Bool) (NA NU ME BA : LL) (ct lw hg : Int) (X : LL) (m i : Int) (ow : qv_5_ω) : ((qv_5_fin k s sg bg NA NU ME BA ct lw hg X m i)).val = some ow → ∃ fuel, loopN qv_5_st fuel (k, s, sg, bg, NA, NU, ME, BA, ct, lw, hg, X, m, i) = some ow := by
  refine auto_const (R := (qv_R5 k s sg bg NA NU ME BA ct lw hg X m i)) rfl (iter_onR (f := (fun i a => (qv_f5 k s sg bg NA NU ME BA ct lw hg X m (i : Int)))) (fin := (fun a => (qv_e5 k s sg bg NA NU ME BA ct lw hg X m))) (Q := endsAs (k, s, sg, bg, NA, NU, ME, BA, ct) (k, s, sg, bg, NA, NU, ME, BA, ct)) (fun i a => by unfold qv_f5; exact (onR_bif rfl (onR_bif (onR_bif rfl trivial) trivial))) (fun _ => rfl) _ _ _) ?_
  intro ho
  have ho : is (i = 0 ∧ NU = X ∧ m = (NU.length : Int) ∧ NU.length ≤ 140737488351232) = true := ho.elim id id
  obtain ⟨rfl, rfl, rfl, hl⟩ := is_iff.1 ho
  skip
  refine ⟨(NU.length) + 1, ?_⟩
  refine iter_loop (step := qv_5_st) (NU.length) (fun i a => (qv_f5 k s sg bg NA NU ME BA ct lw hg NU (NU.length : Int) (i : Int))) (fun a => (qv_e5 k s sg bg NA NU ME BA ct lw hg NU (NU.length : Int))) (fun i a => (k, s, sg, bg, NA, NU, ME, BA, ct, lw, hg, NU, (NU.length : Int), (i : Int))) (fun _ _ => True) trivial (fun i a hi hI => ⟨?_, fun _ _ => trivial⟩) (fun a hI => ?_)
  · show (qv_5_step k s sg bg NA NU ME BA ct lw hg NU (NU.length : Int) (i : Int)).val = _
    unfold qv_5_step qv_f5
    skip
    refine Tr.t (by simp; omega) ?_
    exact (Tr.t (by first | omega | (constructor <;> omega) | (simp only [decide_eq_true_eq] at *; rw [wrap64 (by omega) (by omega)]; constructor <;> omega)) (Tr.bh (fun _ => rfl) (fun _ => (Tr.bh (fun _ => (Tr.t (by first | omega | (constructor <;> omega) | (simp only [decide_eq_true_eq] at *; rw [wrap64 (by omega) (by omega)]; constructor <;> omega)) (Tr.bh (fun _ => rfl) (fun _ => (by rw [Tr.val_ok, wrap64 (i := (i : Int) + 1) (by omega) (by omega)]; rfl))))) (fun _ => (by rw [Tr.val_ok, wrap64 (i := (i : Int) + 1) (by omega) (by omega)]; rfl))))))
  · show (qv_5_step k s sg bg NA NU ME BA ct lw hg NU (NU.length : Int) (NU.length : Int)).val = _
    refine Tr.n (by first | (simp; done) | (simp; omega) | omega) ?_
    rfl
theorem qv_is5 : LoopIs tab FT D48 live 106 qv_lo 0 5 := by
  refine loop_told (sl := qv_5_sl) (step := qv_5_st) (out := qv_5_out) (lor := qv_lo5) (fin := fun x => (qv_5_fin (x.1) (x.2.1) (x.2.2.1) (x.2.2.2.1) (x.2.2.2.2.1) (x.2.2.2.2.2.1) (x.2.2.2.2.2.2.1) (x.2.2.2.2.2.2.2.1) (x.2.2.2.2.2.2.2.2.1) (x.2.2.2.2.2.2.2.2.2.1) (x.2.2.2.2.2.2.2.2.2.2.1) (x.2.2.2.2.2.2.2.2.2.2.2.1) (x.2.2.2.2.2.2.2.2.2.2.2.2.1) (x.2.2.2.2.2.2.2.2.2.2.2.2.2))) (fun _ => rfl) ?_ (fun x n => qv_5_r x.1 x.2.1 x.2.2.1 x.2.2.2.1 x.2.2.2.2.1 x.2.2.2.2.2.1 x.2.2.2.2.2.2.1 x.2.2.2.2.2.2.2.1 x.2.2.2.2.2.2.2.2.1 x.2.2.2.2.2.2.2.2.2.1 x.2.2.2.2.2.2.2.2.2.2.1 x.2.2.2.2.2.2.2.2.2.2.2.1 x.2.2.2.2.2.2.2.2.2.2.2.2.1 x.2.2.2.2.2.2.2.2.2.2.2.2.2 n) (fun x ow => qv_5_h x.1 x.2.1 x.2.2.1 x.2.2.2.1 x.2.2.2.2.1 x.2.2.2.2.2.1 x.2.2.2.2.2.2.1 x.2.2.2.2.2.2.2.1 x.2.2.2.2.2.2.2.2.1 x.2.2.2.2.2.2.2.2.2.1 x.2.2.2.2.2.2.2.2.2.2.1 x.2.2.2.2.2.2.2.2.2.2.2.1 x.2.2.2.2.2.2.2.2.2.2.2.2.1 x.2.2.2.2.2.2.2.2.2.2.2.2.2 ow)
  intro s t h
  unfold qv_lo5 at h
  split at h
  · cases h; exact ⟨(_, _, _, _, _, _, _, _, _, _, _, _, _, _), rfl, rfl⟩
  · cases h
noncomputable def qv_t (k s : Int) (sg bg : Bool) (NA NU ME BA : LL) (ct : Int) : Tr (Bool) := (.ite ((!((BA.length : Int) == (1 : Int))) = true) (.ok false)
  (.ite ((0 : Int) ≤ (0 : Int) ∧ (0 : Int) < (BA.length : Int)) (.ite ((!((nth (row BA (0 : Int)) 0).int == (1 : Int))) = true) (.ok false)
    (.ite ((0 : Int) ≤ (0 : Int) ∧ (0 : Int) < (BA.length : Int)) (.ite ((qw_rc ((nth (row BA (0 : Int)) 0).int) ((nth (row BA (0 : Int)) 1).int) ((nth (row BA (0 : Int)) 2).bool) ((nth (row BA (0 : Int)) 3).bool) ((nth (row BA (0 : Int)) 4).list) ((nth (row BA (0 : Int)) 5).list) ((nth (row BA (0 : Int)) 6).list) ((nth (row BA (0 : Int)) 7).list) ((nth (row BA (0 : Int)) 8).int) (1 : Int)) = true) (.ite ((!(qw_rv ((nth (row BA (0 : Int)) 0).int) ((nth (row BA (0 : Int)) 1).int) ((nth (row BA (0 : Int)) 2).bool) ((nth (row BA (0 : Int)) 3).bool) ((nth (row BA (0 : Int)) 4).list) ((nth (row BA (0 : Int)) 5).list) ((nth (row BA (0 : Int)) 6).list) ((nth (row BA (0 : Int)) 7).list) ((nth (row BA (0 : Int)) 8).int) (1 : Int))) = true) (.ok false)
       (.ite ((0 : Int) ≤ (0 : Int) ∧ (0 : Int) < (BA.length : Int)) (.ite ((qbr_c ((nth (row BA (0 : Int)) 0).int) ((nth (row BA (0 : Int)) 1).int) ((nth (row BA (0 : Int)) 2).bool) ((nth (row BA (0 : Int)) 3).bool) ((nth (row BA (0 : Int)) 4).list) ((nth (row BA (0 : Int)) 5).list) ((nth (row BA (0 : Int)) 6).list) ((nth (row BA (0 : Int)) 7).list) ((nth (row BA (0 : Int)) 8).int)) = true) (.ite ((qv_k5_1 k s sg bg NA NU ME BA ct ((qbr_v ((nth (row BA (0 : Int)) 0).int) ((nth (row BA (0 : Int)) 1).int) ((nth (row BA (0 : Int)) 2).bool) ((nth (row BA (0 : Int)) 3).bool) ((nth (row BA (0 : Int)) 4).list) ((nth (row BA (0 : Int)) 5).list) ((nth (row BA (0 : Int)) 6).list) ((nth (row BA (0 : Int)) 7).list) ((nth (row BA (0 : Int)) 8).int)).1) ((qbr_v ((nth (row BA (0 : Int)) 0).int) ((nth (row BA (0 : Int)) 1).int) ((nth (row BA (0 : Int)) 2).bool) ((nth (row BA (0 : Int)) 3).bool) ((nth (row BA (0 : Int)) 4).list) ((nth (row BA (0 : Int)) 5).list) ((nth (row BA (0 : Int)) 6).list) ((nth (row BA (0 : Int)) 7).list) ((nth (row BA (0 : Int)) 8).int)).2) NU (NU.length : Int) (0 : Int)) = true) (.ite ((qv_o5_2 k s sg bg NA NU ME BA ct ((qbr_v ((nth (row BA (0 : Int)) 0).int) ((nth (row BA (0 : Int)) 1).int) ((nth (row BA (0 : Int)) 2).bool) ((nth (row BA (0 : Int)) 3).bool) ((nth (row BA (0 : Int)) 4).list) ((nth (row BA (0 : Int)) 5).list) ((nth (row BA (0 : Int)) 6).list) ((nth (row BA (0 : Int)) 7).list) ((nth (row BA (0 : Int)) 8).int)).1) ((qbr_v ((nth (row BA (0 : Int)) 0).int) ((nth (row BA (0 : Int)) 1).int) ((nth (row BA (0 : Int)) 2).bool) ((nth (row BA (0 : Int)) 3).bool) ((nth (row BA (0 : Int)) 4).list) ((nth (row BA (0 : Int)) 5).list) ((nth (row BA (0 : Int)) 6).list) ((nth (row BA (0 : Int)) 7).list) ((nth (row BA (0 : Int)) 8).int)).2) NU (NU.length : Int) (0 : Int)) = true) (.ok false)
           .no)
          (.ite ((qv_o5_3 k s sg bg NA NU ME BA ct ((qbr_v ((nth (row BA (0 : Int)) 0).int) ((nth (row BA (0 : Int)) 1).int) ((nth (row BA (0 : Int)) 2).bool) ((nth (row BA (0 : Int)) 3).bool) ((nth (row BA (0 : Int)) 4).list) ((nth (row BA (0 : Int)) 5).list) ((nth (row BA (0 : Int)) 6).list) ((nth (row BA (0 : Int)) 7).list) ((nth (row BA (0 : Int)) 8).int)).1) ((qbr_v ((nth (row BA (0 : Int)) 0).int) ((nth (row BA (0 : Int)) 1).int) ((nth (row BA (0 : Int)) 2).bool) ((nth (row BA (0 : Int)) 3).bool) ((nth (row BA (0 : Int)) 4).list) ((nth (row BA (0 : Int)) 5).list) ((nth (row BA (0 : Int)) 6).list) ((nth (row BA (0 : Int)) 7).list) ((nth (row BA (0 : Int)) 8).int)).2) NU (NU.length : Int) (0 : Int)) = true) (.ite ((qcd_v (NU.length : Int) (1 : Int) (6 : Int)) = true) (.ite (((NA.length : Int) == (NU.length : Int)) = true) (.ite ((qm_c NA) = true) (.ok (qm_v NA))
              .no)
             (.ok false))
            (.ok false))
           .no))
         .no)
        .no))
      .no)
     .no))
   .no))
def qv_mk (p : Bool) : Res := [(false, [⟨.bool, .sh, TC.b p⟩])]
noncomputable def qv_c (k s : Int) (sg bg : Bool) (NA NU ME BA : LL) (ct : Int) : Bool := (bif (!((BA.length : Int) == (1 : Int))) then true else (is ((0 : Int) ≤ (0 : Int) ∧ (0 : Int) < (BA.length : Int)) && (bif (!((nth (row BA (0 : Int)) 0).int == (1 : Int))) then true else (is ((0 : Int) ≤ (0 : Int) ∧ (0 : Int) < (BA.length : Int)) && ((qw_rc ((nth (row BA (0 : Int)) 0).int) ((nth (row BA (0 : Int)) 1).int) ((nth (row BA (0 : Int)) 2).bool) ((nth (row BA (0 : Int)) 3).bool) ((nth (row BA (0 : Int)) 4).list) ((nth (row BA (0 : Int)) 5).list) ((nth (row BA (0 : Int)) 6).list) ((nth (row BA (0 : Int)) 7).list) ((nth (row BA (0 : Int)) 8).int) (1 : Int)) && (bif (!(qw_rv ((nth (row BA (0 : Int)) 0).int) ((nth (row BA (0 : Int)) 1).int) ((nth (row BA (0 : Int)) 2).bool) ((nth (row BA (0 : Int)) 3).bool) ((nth (row BA (0 : Int)) 4).list) ((nth (row BA (0 : Int)) 5).list) ((nth (row BA (0 : Int)) 6).list) ((nth (row BA (0 : Int)) 7).list) ((nth (row BA (0 : Int)) 8).int) (1 : Int))) then true else (is ((0 : Int) ≤ (0 : Int) ∧ (0 : Int) < (BA.length : Int)) && ((qbr_c ((nth (row BA (0 : Int)) 0).int) ((nth (row BA (0 : Int)) 1).int) ((nth (row BA (0 : Int)) 2).bool) ((nth (row BA (0 : Int)) 3).bool) ((nth (row BA (0 : Int)) 4).list) ((nth (row BA (0 : Int)) 5).list) ((nth (row BA (0 : Int)) 6).list) ((nth (row BA (0 : Int)) 7).list) ((nth (row BA (0 : Int)) 8).int)) && (bif (qv_k5_1 k s sg bg NA NU ME BA ct ((qbr_v ((nth (row BA (0 : Int)) 0).int) ((nth (row BA (0 : Int)) 1).int) ((nth (row BA (0 : Int)) 2).bool) ((nth (row BA (0 : Int)) 3).bool) ((nth (row BA (0 : Int)) 4).list) ((nth (row BA (0 : Int)) 5).list) ((nth (row BA (0 : Int)) 6).list) ((nth (row BA (0 : Int)) 7).list) ((nth (row BA (0 : Int)) 8).int)).1) ((qbr_v ((nth (row BA (0 : Int)) 0).int) ((nth (row BA (0 : Int)) 1).int) ((nth (row BA (0 : Int)) 2).bool) ((nth (row BA (0 : Int)) 3).bool) ((nth (row BA (0 : Int)) 4).list) ((nth (row BA (0 : Int)) 5).list) ((nth (row BA (0 : Int)) 6).list) ((nth (row BA (0 : Int)) 7).list) ((nth (row BA (0 : Int)) 8).int)).2) NU (NU.length : Int) (0 : Int)) then ((qv_o5_2 k s sg bg NA NU ME BA ct ((qbr_v ((nth (row BA (0 : Int)) 0).int) ((nth (row BA (0 : Int)) 1).int) ((nth (row BA (0 : Int)) 2).bool) ((nth (row BA (0 : Int)) 3).bool) ((nth (row BA (0 : Int)) 4).list) ((nth (row BA (0 : Int)) 5).list) ((nth (row BA (0 : Int)) 6).list) ((nth (row BA (0 : Int)) 7).list) ((nth (row BA (0 : Int)) 8).int)).1) ((qbr_v ((nth (row BA (0 : Int)) 0).int) ((nth (row BA (0 : Int)) 1).int) ((nth (row BA (0 : Int)) 2).bool) ((nth (row BA (0 : Int)) 3).bool) ((nth (row BA (0 : Int)) 4).list) ((nth (row BA (0 : Int)) 5).list) ((nth (row BA (0 : Int)) 6).list) ((nth (row BA (0 : Int)) 7).list) ((nth (row BA (0 : Int)) 8).int)).2) NU (NU.length : Int) (0 : Int)) && true) else ((qv_o5_3 k s sg bg NA NU ME BA ct ((qbr_v ((nth (row BA (0 : Int)) 0).int) ((nth (row BA (0 : Int)) 1).int) ((nth (row BA (0 : Int)) 2).bool) ((nth (row BA (0 : Int)) 3).bool) ((nth (row BA (0 : Int)) 4).list) ((nth (row BA (0 : Int)) 5).list) ((nth (row BA (0 : Int)) 6).list) ((nth (row BA (0 : Int)) 7).list) ((nth (row BA (0 : Int)) 8).int)).1) ((qbr_v ((nth (row BA (0 : Int)) 0).int) ((nth (row BA (0 : Int)) 1).int) ((nth (row BA (0 : Int)) 2).bool) ((nth (row BA (0 : Int)) 3).bool) ((nth (row BA (0 : Int)) 4).list) ((nth (row BA (0 : Int)) 5).list) ((nth (row BA (0 : Int)) 6).list) ((nth (row BA (0 : Int)) 7).list) ((nth (row BA (0 : Int)) 8).int)).2) NU (NU.length : Int) (0 : Int)) && (bif (qcd_v (NU.length : Int) (1 : Int) (6 : Int)) then (bif ((NA.length : Int) == (NU.length : Int)) then ((qm_c NA) && true) else true) else true)))))))))))
noncomputable def qv_v (k s : Int) (sg bg : Bool) (NA NU ME BA : LL) (ct : Int) : Bool := (bif (!((BA.length : Int) == (1 : Int))) then false else (bif (!((nth (row BA (0 : Int)) 0).int == (1 : Int))) then false else (bif (!(qw_rv ((nth (row BA (0 : Int)) 0).int) ((nth (row BA (0 : Int)) 1).int) ((nth (row BA (0 : Int)) 2).bool) ((nth (row BA (0 : Int)) 3).bool) ((nth (row BA (0 : Int)) 4).list) ((nth (row BA (0 : Int)) 5).list) ((nth (row BA (0 : Int)) 6).list) ((nth (row BA (0 : Int)) 7).list) ((nth (row BA (0 : Int)) 8).int) (1 : Int))) then false else (bif (qv_k5_1 k s sg bg NA NU ME BA ct ((qbr_v ((nth (row BA (0 : Int)) 0).int) ((nth (row BA (0 : Int)) 1).int) ((nth (row BA (0 : Int)) 2).bool) ((nth (row BA (0 : Int)) 3).bool) ((nth (row BA (0 : Int)) 4).list) ((nth (row BA (0 : Int)) 5).list) ((nth (row BA (0 : Int)) 6).list) ((nth (row BA (0 : Int)) 7).list) ((nth (row BA (0 : Int)) 8).int)).1) ((qbr_v ((nth (row BA (0 : Int)) 0).int) ((nth (row BA (0 : Int)) 1).int) ((nth (row BA (0 : Int)) 2).bool) ((nth (row BA (0 : Int)) 3).bool) ((nth (row BA (0 : Int)) 4).list) ((nth (row BA (0 : Int)) 5).list) ((nth (row BA (0 : Int)) 6).list) ((nth (row BA (0 : Int)) 7).list) ((nth (row BA (0 : Int)) 8).int)).2) NU (NU.length : Int) (0 : Int)) then false else (bif (qcd_v (NU.length : Int) (1 : Int) (6 : Int)) then (bif ((NA.length : Int) == (NU.length : Int)) then (qm_v NA) else false) else false)))))
theorem qv_l (k s : Int) (sg bg : Bool) (NA NU ME BA : LL) (ct : Int) : (qv_c k s sg bg NA NU ME BA ct) = true → (qv_t k s sg bg NA NU ME BA ct).val = some (qv_v k s sg bg NA NU ME BA ct) := by
  unfold qv_t qv_v qv_c
  exact fun h => (Tr.ss h (fun h => rfl) (fun h => (Tr.gs h fun h => (Tr.ss h (fun h => rfl) (fun h => (Tr.gs h fun h => (Tr.gb h fun h => (Tr.ss h (fun h => rfl) (fun h => (Tr.gs h fun h => (Tr.gb h fun h => (Tr.ss h (fun h => (Tr.gb h fun h => rfl)) (fun h => (Tr.gb h fun h => (Tr.ss h (fun h => (Tr.ss h (fun h => (Tr.gb h fun h => rfl)) (fun h => rfl))) (fun h => rfl))))))))))))))))
noncomputable def qv_S : List Arg → Option (Bool × Res) := fun xs => match xs with
  | [(true, [(.int .i64, TC.i k), (.int .i64, TC.i s), (.bool, TC.b sg), (.bool, TC.b bg), (.slice 9, TC.l NA), (.slice 2, TC.l NU), (.slice 71, TC.l ME), (.slice 32, TC.l BA), (.int .i64, TC.i ct)])] => some ((qv_c k s sg bg NA NU ME BA ct), qv_mk (qv_v k s sg bg NA NU ME BA ct))
  | _ => .none
theorem qv_e (k s : Int) (sg bg : Bool) (NA NU ME BA : LL) (ct : Int) : runF tab FT D48 live 106 qv_lo [(true, [(.int .i64, TC.i k), (.int .i64, TC.i s), (.bool, TC.b sg), (.bool, TC.b bg), (.slice 9, TC.l NA), (.slice 2, TC.l NU), (.slice 71, TC.l ME), (.slice 32, TC.l BA), (.int .i64, TC.i ct)])] = (qv_t k s sg bg NA NU ME BA ct).run fun p => some (qv_mk p) := by kernel_rfl
theorem qv_s : ∀ xs r, qv_S xs = some (true, r) → runF tab FT D48 live 106 qv_lo xs = some r := by
  intro xs r h
  unfold qv_S at h
  split at h
  · simp only [Option.some.injEq, Prod.mk.injEq] at h
    obtain ⟨h1, rfl⟩ := h
    exact fun_told (qv_e _ _ _ _ _ _ _ _ _) (qv_l _ _ _ _ _ _ _ _ _) h1
  · cases h
noncomputable def D49 : Dt := also D48 106 qv_S
theorem d49 : DOk Go.Proofs.Try.prog tab D49 := d48.also mixed_ok tab_ok names_ok (fnLoops_one (by kernel_rfl) qv_is5) qv_s
theorem int_of_valid {k s : Int} {sg bg : Bool} {NA NU ME BA : LL} {ct : Int} (hk : k = 1) (h : qw_rv k s sg bg NA NU ME BA ct 1 = true) : intV s sg bg NA NU ME BA ct = true := by
  subst hk
  have h : (okV 1 s sg bg NA NU ME BA ct && decide (depthV 1 ME BA ≤ 1)) = true := h
  rw [okV_1] at h
  simp only [Bool.and_eq_true] at h
  exact h.1.1
theorem qv_cc {k : Int} {s : Int} {sg : Bool} {bg : Bool} {NA : LL} {NU : LL} {ME : LL} {BA : LL} {ct : Int} (hb : 0 < BA.length → qw_rc (nth (row BA (0 : Int)) 0).int (nth (row BA (0 : Int)) 1).int (nth (row BA (0 : Int)) 2).bool (nth (row BA (0 : Int)) 3).bool (nth (row BA (0 : Int)) 4).list (nth (row BA (0 : Int)) 5).list (nth (row BA (0 : Int)) 6).list (nth (row BA (0 : Int)) 7).list (nth (row BA (0 : Int)) 8).int 1 = true) (t4 : Typed tab (.slice 9) (.l NA)) (hl : NU.length ≤ 140737488351232) : (qv_c k s sg bg NA NU ME BA ct) = true := by
  unfold qv_c
  refine bifT (fun b1 => ?_) (fun b1 => ?_)
  · skip
    rfl
  · skip
    refine andT (is_true (by have e1 := bneF b1; omega)) ?_
    refine bifT (fun b2 => ?_) (fun b2 => ?_)
    · skip
      rfl
    · skip
      refine andT (is_true (by have e1 := bneF b1; omega)) ?_
      refine andT (by have e1 := bneF b1; exact hb (by omega)) ?_
      refine bifT (fun b3 => ?_) (fun b3 => ?_)
      · skip
        rfl
      · skip
        refine andT (is_true (by have e1 := bneF b1; omega)) ?_
        refine andT (by have e2 := bneF b2; exact (irange (int_of_valid e2 (by simpa using b3))).1) ?_
        refine bifT (fun b4 => ?_) (fun b4 => ?_)
        · skip
          refine andT (by exact is_true ⟨rfl, rfl, rfl, hl⟩) ?_
          rfl
        · skip
          refine andT (by exact is_true ⟨rfl, rfl, rfl, hl⟩) ?_
          refine bifT (fun b5 => ?_) (fun b5 => ?_)
          · skip
            refine bifT (fun b6 => ?_) (fun b6 => ?_)
            · skip
              refine andT (by exact qm_cc t4) ?_
              rfl
            · skip
              rfl
          · skip
            rfl
theorem qv_vv (k s : Int) (sg bg : Bool) (NA NU ME BA : LL) (ct : Int) : qv_v k s sg bg NA NU ME BA ct = (((BA.length : Int) == 1) && (((nth (row BA (0 : Int)) 0).int == 1) && (validV (nth (row BA (0 : Int)) 0).int (nth (row BA (0 : Int)) 1).int (nth (row BA (0 : Int)) 2).bool (nth (row BA (0 : Int)) 3).bool (nth (row BA (0 : Int)) 4).list (nth (row BA (0 : Int)) 5).list (nth (row BA (0 : Int)) 6).list (nth (row BA (0 : Int)) 7).list (nth (row BA (0 : Int)) 8).int 1 && (allI (fun i : Nat => numP NU (loV (nth (row BA (0 : Int)) 1).int (nth (row BA (0 : Int)) 2).bool) (hiV (nth (row BA (0 : Int)) 1).int (nth (row BA (0 : Int)) 2).bool) (i : Int)) NU.length && (inB (NU.length : Int) 1 6 && (((NA.length : Int) == (NU.length : Int)) && allI (fun i : Nat => dnP NA (i : Int)) NA.length)))))) := by
  unfold qv_v
  rw [show ∀ lw hg m, qv_k5_1 k s sg bg NA NU ME BA ct lw hg NU m 0 = !(allI (fun i : Nat => numP NU lw hg (i : Int)) NU.length) from fun lw hg m => by unfold qv_k5_1; rw [qv_R5_eq]; cases allI (fun i : Nat => numP NU lw hg (i : Int)) NU.length <;> rfl]
  rw [qm_vv, show qcd_v (NU.length : Int) 1 6 = inB (NU.length : Int) 1 6 from rfl, show qw_rv (nth (row BA (0 : Int)) 0).int (nth (row BA (0 : Int)) 1).int (nth (row BA (0 : Int)) 2).bool (nth (row BA (0 : Int)) 3).bool (nth (row BA (0 : Int)) 4).list (nth (row BA (0 : Int)) 5).list (nth (row BA (0 : Int)) 6).list (nth (row BA (0 : Int)) 7).list (nth (row BA (0 : Int)) 8).int 1 = validV (nth (row BA (0 : Int)) 0).int (nth (row BA (0 : Int)) 1).int (nth (row BA (0 : Int)) 2).bool (nth (row BA (0 : Int)) 3).bool (nth (row BA (0 : Int)) 4).list (nth (row BA (0 : Int)) 5).list (nth (row BA (0 : Int)) 6).list (nth (row BA (0 : Int)) 7).list (nth (row BA (0 : Int)) 8).int 1 from rfl]
  simp only [bif_nf, bif_tf, bif_ft, Bool.not_not]
  cases h1 : ((nth (row BA (0 : Int)) 0).int == 1) with
  | false => simp only [Bool.false_and, Bool.and_false]
  | true =>
    cases h2 : validV (nth (row BA (0 : Int)) 0).int (nth (row BA (0 : Int)) 1).int (nth (row BA (0 : Int)) 2).bool (nth (row BA (0 : Int)) 3).bool (nth (row BA (0 : Int)) 4).list (nth (row BA (0 : Int)) 5).list (nth (row BA (0 : Int)) 6).list (nth (row BA (0 : Int)) 7).list (nth (row BA (0 : Int)) 8).int 1 with
    | false => simp only [Bool.false_and, Bool.and_false]
    | true =>
      obtain ⟨-, h3, h4⟩ := irange (k := (nth (row BA (0 : Int)) 0).int) (int_of_valid (beq_iff_eq.1 h1) h2)
      rw [h3, h4]
noncomputable def qd_f6 (d k s : Int) (sg bg : Bool) (NA NU ME BA : LL) (ct : Int) (X : LL) (m i en : Int) (NM : LL) : (Int × LL) ⊕ ((Int × Int × Bool × Bool × LL × LL × LL × LL × Int × Int × LL) ⊕ (Int × Int × Bool × Bool × LL × LL × LL × LL × Int × Int × LL)) := (bif (!(qw_rv ((nth (row X i) 2).int) ((nth (row X i) 3).int) ((nth (row X i) 4).bool) ((nth (row X i) 5).bool) ((nth (row X i) 6).list) ((nth (row X i) 7).list) ((nth (row X i) 8).list) ((nth (row X i) 9).list) ((nth (row X i) 10).int) d)) then (.inr (.inl (k, s, sg, bg, NA, NU, ME, BA, ct, en, NM))) else (bif (decide ((nth (row X i) 1).int < en)) then (.inr (.inl (k, s, sg, bg, NA, NU, ME, BA, ct, en, NM))) else (bif (decide ((nth (row X i) 1).int > (24 : Int))) then (.inr (.inl (k, s, sg, bg, NA, NU, ME, BA, ct, en, NM))) else (.inl ((IntKind.wrap .i64 ((nth (row X i) 1).int + (qy_rv ((nth (row X i) 2).int) ((nth (row X i) 3).int) ((nth (row X i) 4).bool) ((nth (row X i) 5).bool) ((nth (row X i) 6).list) ((nth (row X i) 7).list) ((nth (row X i) 8).list) ((nth (row X i) 9).list) ((nth (row X i) 10).int)))), (NM ++ [[TC.s ((nth (row X i) 0).str)]]))))))
noncomputable def qd_e6 (d k s : Int) (sg bg : Bool) (NA NU ME BA : LL) (ct : Int) (X : LL) (m en : Int) (NM : LL) : (Int × Int × Bool × Bool × LL × LL × LL × LL × Int × Int × LL) ⊕ (Int × Int × Bool × Bool × LL × LL × LL × LL × Int × Int × LL) := .inr (k, s, sg, bg, NA, NU, ME, BA, ct, en, NM)
noncomputable def qd_R6 (d k s : Int) (sg bg : Bool) (NA NU ME BA : LL) (ct en : Int) (NM X : LL) (m i : Int) : (Int × Int × Bool × Bool × LL × LL × LL × LL × Int × Int × LL) ⊕ (Int × Int × Bool × Bool × LL × LL × LL × LL × Int × Int × LL) := iter (fun i a => (qd_f6 d k s sg bg NA NU ME BA ct X m (i : Int) (a.1) (a.2))) (fun a => (qd_e6 d k s sg bg NA NU ME BA ct X m (a.1) (a.2))) (ME.length) 0 (en, NM)
abbrev qd_6_σ := Int × Int × Int × Bool × Bool × LL × LL × LL × LL × Int × Int × LL × LL × Int × Int
abbrev qd_6_ω := (Int × Int × Bool × Bool × LL × LL × LL × LL × Int × Int × LL) ⊕ (Int × Int × Bool × Bool × LL × LL × LL × LL × Int × Int × LL)
noncomputable def qd_6_step (d k s : Int) (sg bg : Bool) (NA NU ME BA : LL) (ct en : Int) (NM X : LL) (m i : Int) : Tr (qd_6_σ ⊕ qd_6_ω) := (.ite ((decide (i < m)) = true) (.ite ((0 : Int) ≤ i ∧ i < (X.length : Int)) (.ite ((qw_rc ((nth (row X i) 2).int) ((nth (row X i) 3).int) ((nth (row X i) 4).bool) ((nth (row X i) 5).bool) ((nth (row X i) 6).list) ((nth (row X i) 7).list) ((nth (row X i) 8).list) ((nth (row X i) 9).list) ((nth (row X i) 10).int) d) = true) (.ite ((!(qw_rv ((nth (row X i) 2).int) ((nth (row X i) 3).int) ((nth (row X i) 4).bool) ((nth (row X i) 5).bool) ((nth (row X i) 6).list) ((nth (row X i) 7).list) ((nth (row X i) 8).list) ((nth (row X i) 9).list) ((nth (row X i) 10).int) d)) = true) (.ok (.inr (.inl (k, s, sg, bg, NA, NU, ME, BA, ct, en, NM))))
     (.ite ((decide ((nth (row X i) 1).int < en)) = true) (.ok (.inr (.inl (k, s, sg, bg, NA, NU, ME, BA, ct, en, NM))))
      (.ite ((decide ((nth (row X i) 1).int > (24 : Int))) = true) (.ok (.inr (.inl (k, s, sg, bg, NA, NU, ME, BA, ct, en, NM))))
       (.ite ((qy_rc ((nth (row X i) 2).int) ((nth (row X i) 3).int) ((nth (row X i) 4).bool) ((nth (row X i) 5).bool) ((nth (row X i) 6).list) ((nth (row X i) 7).list) ((nth (row X i) 8).list) ((nth (row X i) 9).list) ((nth (row X i) 10).int)) = true) (.ite (roomFor (tab 9) (NM ++ [[TC.s ((nth (row X i) 0).str)]]).length) (.ok (.inl (d, k, s, sg, bg, NA, NU, ME, BA, ct, (IntKind.wrap .i64 ((nth (row X i) 1).int + (qy_rv ((nth (row X i) 2).int) ((nth (row X i) 3).int) ((nth (row X i) 4).bool) ((nth (row X i) 5).bool) ((nth (row X i) 6).list) ((nth (row X i) 7).list) ((nth (row X i) 8).list) ((nth (row X i) 9).list) ((nth (row X i) 10).int)))), (NM ++ [[TC.s ((nth (row X i) 0).str)]]), X, m, (IntKind.wrap .i64 (i + (1 : Int))))))
         .no)
        .no))))
    .no)
   .no)
  (.ok (.inr (.inr (k, s, sg, bg, NA, NU, ME, BA, ct, en, NM)))))
noncomputable def qd_6_st : qd_6_σ → Tr (qd_6_σ ⊕ qd_6_ω) := fun x => (qd_6_step (x.1) (x.2.1) (x.2.2.1) (x.2.2.2.1) (x.2.2.2.2.1) (x.2.2.2.2.2.1) (x.2.2.2.2.2.2.1) (x.2.2.2.2.2.2.2.1) (x.2.2.2.2.2.2.2.2.1) (x.2.2.2.2.2.2.2.2.2.1) (x.2.2.2.2.2.2.2.2.2.2.1) (x.2.2.2.2.2.2.2.2.2.2.2.1) (x.2.2.2.2.2.2.2.2.2.2.2.2.1) (x.2.2.2.2.2.2.2.2.2.2.2.2.2.1) (x.2.2.2.2.2.2.2.2.2.2.2.2.2.2))
noncomputable def qd_k6_1 (d k s : Int) (sg bg : Bool) (NA NU ME BA : LL) (ct en : Int) (NM X : LL) (m i : Int) : Bool := sumIs (qd_R6 d k s sg bg NA NU ME BA ct en NM X m i)
noncomputable def qd_o6_2 (d k s : Int) (sg bg : Bool) (NA NU ME BA : LL) (ct en : Int) (NM X : LL) (m i : Int) : Bool := is (i = 0 ∧ ME = X ∧ m = (ME.length : Int) ∧ en = 0 ∧ NM = [] ∧ Typed tab (.slice 71) (.l ME) ∧ (∀ x : List TC, x ∈ ME → qw_rc (nth x 2).int (nth x 3).int (nth x 4).bool (nth x 5).bool (nth x 6).list (nth x 7).list (nth x 8).list (nth x 9).list (nth x 10).int d = true) ∧ (∀ x : List TC, x ∈ ME → (!(qw_rv (nth x 2).int (nth x 3).int (nth x 4).bool (nth x 5).bool (nth x 6).list (nth x 7).list (nth x 8).list (nth x 9).list (nth x 10).int d)) = false → qy_rc (nth x 2).int (nth x 3).int (nth x 4).bool (nth x 5).bool (nth x 6).list (nth x 7).list (nth x 8).list (nth x 9).list (nth x 10).int = true))
noncomputable def qd_u6_2_0 (d k s : Int) (sg bg : Bool) (NA NU ME BA : LL) (ct en : Int) (NM X : LL) (m i : Int) : Int := (sumL (qd_R6 d k s sg bg NA NU ME BA ct en NM X m i)).1
noncomputable def qd_u6_2_1 (d k s : Int) (sg bg : Bool) (NA NU ME BA : LL) (ct en : Int) (NM X : LL) (m i : Int) : Int := (sumL (qd_R6 d k s sg bg NA NU ME BA ct en NM X m i)).2.1
noncomputable def qd_u6_2_2 (d k s : Int) (sg bg : Bool) (NA NU ME BA : LL) (ct en : Int) (NM X : LL) (m i : Int) : Bool := (sumL (qd_R6 d k s sg bg NA NU ME BA ct en NM X m i)).2.2.1
noncomputable def qd_u6_2_3 (d k s : Int) (sg bg : Bool) (NA NU ME BA : LL) (ct en : Int) (NM X : LL) (m i : Int) : Bool := (sumL (qd_R6 d k s sg bg NA NU ME BA ct en NM X m i)).2.2.2.1
noncomputable def qd_u6_2_4 (d k s : Int) (sg bg : Bool) (NA NU ME BA : LL) (ct en : Int) (NM X : LL) (m i : Int) : LL := (sumL (qd_R6 d k s sg bg NA NU ME BA ct en NM X m i)).2.2.2.2.1
noncomputable def qd_u6_2_5 (d k s : Int) (sg bg : Bool) (NA NU ME BA : LL) (ct en : Int) (NM X : LL) (m i : Int) : LL := (sumL (qd_R6 d k s sg bg NA NU ME BA ct en NM X m i)).2.2.2.2.2.1
noncomputable def qd_u6_2_6 (d k s : Int) (sg bg : Bool) (NA NU ME BA : LL) (ct en : Int) (NM X : LL) (m i : Int) : LL := (sumL (qd_R6 d k s sg bg NA NU ME BA ct en NM X m i)).2.2.2.2.2.2.1
noncomputable def qd_u6_2_7 (d k s : Int) (sg bg : Bool) (NA NU ME BA : LL) (ct en : Int) (NM X : LL) (m i : Int) : LL := (sumL (qd_R6 d k s sg bg NA NU ME BA ct en NM X m i)).2.2.2.2.2.2.2.1
noncomputable def qd_u6_2_8 (d k s : Int) (sg bg : Bool) (NA NU ME BA : LL) (ct en : Int) (NM X : LL) (m i : Int) : Int := (sumL (qd_R6 d k s sg bg NA NU ME BA ct en NM X m i)).2.2.2.2.2.2.2.2.1
noncomputable def qd_u6_2_9 (d k s : Int) (sg bg : Bool) (NA NU ME BA : LL) (ct en : Int) (NM X : LL) (m i : Int) : Int := (sumL (qd_R6 d k s sg bg NA NU ME BA ct en NM X m i)).2.2.2.2.2.2.2.2.2.1
noncomputable def qd_u6_2_10 (d k s : Int) (sg bg : Bool) (NA NU ME BA : LL) (ct en : Int) (NM X : LL) (m i : Int) : LL := (sumL (qd_R6 d k s sg bg NA NU ME BA ct en NM X m i)).2.2.2.2.2.2.2.2.2.2
noncomputable def qd_o6_3 (d k s : Int) (sg bg : Bool) (NA NU ME BA : LL) (ct en : Int) (NM X : LL) (m i : Int) : Bool := is (i = 0 ∧ ME = X ∧ m = (ME.length : Int) ∧ en = 0 ∧ NM = [] ∧ Typed tab (.slice 71) (.l ME) ∧ (∀ x : List TC, x ∈ ME → qw_rc (nth x 2).int (nth x 3).int (nth x 4).bool (nth x 5).bool (nth x 6).list (nth x 7).list (nth x 8).list (nth x 9).list (nth x 10).int d = true) ∧ (∀ x : List TC, x ∈ ME → (!(qw_rv (nth x 2).int (nth x 3).int (nth x 4).bool (nth x 5).bool (nth x 6).list (nth x 7).list (nth x 8).list (nth x 9).list (nth x 10).int d)) = false → qy_rc (nth x 2).int (nth x 3).int (nth x 4).bool (nth x 5).bool (nth x 6).list (nth x 7).list (nth x 8).list (nth x 9).list (nth x 10).int = true))
noncomputable def qd_u6_3_0 (d k s : Int) (sg bg : Bool) (NA NU ME BA : LL) (ct en : Int) (NM X : LL) (m i : Int) : Int := (sumR (qd_R6 d k s sg bg NA NU ME BA ct en NM X m i)).1
noncomputable def qd_u6_3_1 (d k s : Int) (sg bg : Bool) (NA NU ME BA : LL) (ct en : Int) (NM X : LL) (m i : Int) : Int := (sumR (qd_R6 d k s sg bg NA NU ME BA ct en NM X m i)).2.1
noncomputable def qd_u6_3_2 (d k s : Int) (sg bg : Bool) (NA NU ME BA : LL) (ct en : Int) (NM X : LL) (m i : Int) : Bool := (sumR (qd_R6 d k s sg bg NA NU ME BA ct en NM X m i)).2.2.1
noncomputable def qd_u6_3_3 (d k s : Int) (sg bg : Bool) (NA NU ME BA : LL) (ct en : Int) (NM X : LL) (m i : Int) : Bool := (sumR (qd_R6 d k s sg bg NA NU ME BA ct en NM X m i)).2.2.2.1
noncomputable def qd_u6_3_4 (d k s : Int) (sg bg : Bool) (NA NU ME BA : LL) (ct en : Int) (NM X : LL) (m i : Int) : LL := (sumR (qd_R6 d k s sg bg NA NU ME BA ct en NM X m i)).2.2.2.2.1
noncomputable def qd_u6_3_5 (d k s : Int) (sg bg : Bool) (NA NU ME BA : LL) (ct en : Int) (NM X : LL) (m i : Int) : LL := (sumR (qd_R6 d k s sg bg NA NU ME BA ct en NM X m i)).2.2.2.2.2.1
noncomputable def qd_u6_3_6 (d k s : Int) (sg bg : Bool) (NA NU ME BA : LL) (ct en : Int) (NM X : LL) (m i : Int) : LL := (sumR (qd_R6 d k s sg bg NA NU ME BA ct en NM X m i)).2.2.2.2.2.2.1
noncomputable def qd_u6_3_7 (d k s : Int) (sg bg : Bool) (NA NU ME BA : LL) (ct en : Int) (NM X : LL) (m i : Int) : LL := (sumR (qd_R6 d k s sg bg NA NU ME BA ct en NM X m i)).2.2.2.2.2.2.2.1
noncomputable def qd_u6_3_8 (d k s : Int) (sg bg : Bool) (NA NU ME BA : LL) (ct en : Int) (NM X : LL) (m i : Int) : Int := (sumR (qd_R6 d k s sg bg NA NU ME BA ct en NM X m i)).2.2.2.2.2.2.2.2.1
noncomputable def qd_u6_3_9 (d k s : Int) (sg bg : Bool) (NA NU ME BA : LL) (ct en : Int) (NM X : LL) (m i : Int) : Int := (sumR (qd_R6 d k s sg bg NA NU ME BA ct en NM X m i)).2.2.2.2.2.2.2.2.2.1
noncomputable def qd_u6_3_10 (d k s : Int) (sg bg : Bool) (NA NU ME BA : LL) (ct en : Int) (NM X : LL) (m i : Int) : LL := (sumR (qd_R6 d k s sg bg NA NU ME BA ct en NM X m i)).2.2.2.2.2.2.2.2.2.2
noncomputable def qd_6_fin (d k s : Int) (sg bg : Bool) (NA NU ME BA : LL) (ct en : Int) (NM X : LL) (m i : Int) : Told qd_6_ω := (.br (qd_k6_1 d k s sg bg NA NU ME BA ct en NM X m i) (.leaf (qd_o6_2 d k s sg bg NA NU ME BA ct en NM X m i) (.inl ((qd_u6_2_0 d k s sg bg NA NU ME BA ct en NM X m i), (qd_u6_2_1 d k s sg bg NA NU ME BA ct en NM X m i), (qd_u6_2_2 d k s sg bg NA NU ME BA ct en NM X m i), (qd_u6_2_3 d k s sg bg NA NU ME BA ct en NM X m i), (qd_u6_2_4 d k s sg bg NA NU ME BA ct en NM X m i), (qd_u6_2_5 d k s sg bg NA NU ME BA ct en NM X m i), (qd_u6_2_6 d k s sg bg NA NU ME BA ct en NM X m i), (qd_u6_2_7 d k s sg bg NA NU ME BA ct en NM X m i), (qd_u6_2_8 d k s sg bg NA NU ME BA ct en NM X m i), (qd_u6_2_9 d k s sg bg NA NU ME BA ct en NM X m i), (qd_u6_2_10 d k s sg bg NA NU ME BA ct en NM X m i)))) (.leaf (qd_o6_3 d k s sg bg NA NU ME BA ct en NM X m i) (.inr ((qd_u6_3_0 d k s sg bg NA NU ME BA ct en NM X m i), (qd_u6_3_1 d k s sg bg NA NU ME BA ct en NM X m i), (qd_u6_3_2 d k s sg bg NA NU ME BA ct en NM X m i), (qd_u6_3_3 d k s sg bg NA NU ME BA ct en NM X m i), (qd_u6_3_4 d k s sg bg NA NU ME BA ct en NM X m i), (qd_u6_3_5 d k s sg bg NA NU ME BA ct en NM X m i), (qd_u6_3_6 d k s sg bg NA NU ME BA ct en NM X m i), (qd_u6_3_7 d k s sg bg NA NU ME BA ct en NM X m i), (qd_u6_3_8 d k s sg bg NA NU ME BA ct en NM X m i), (qd_u6_3_9 d k s sg bg NA NU ME BA ct en NM X m i), (qd_u6_3_10 d k s sg bg NA NU ME BA ct en NM X m i)))))
def qd_6_sl (x : qd_6_σ) : List Slot := [⟨.val false [⟨.int .i64, .sh, TC.i (x.1)⟩], ⟨0, 0⟩⟩, ⟨.bx 32 [⟨.int .i64, .sh, TC.i (x.2.1)⟩, ⟨.int .i64, .sh, TC.i (x.2.2.1)⟩, ⟨.bool, .sh, TC.b (x.2.2.2.1)⟩, ⟨.bool, .sh, TC.b (x.2.2.2.2.1)⟩, ⟨.slice 9, .sh, TC.l (x.2.2.2.2.2.1)⟩, ⟨.slice 2, .sh, TC.l (x.2.2.2.2.2.2.1)⟩, ⟨.slice 71, .sh, TC.l (x.2.2.2.2.2.2.2.1)⟩, ⟨.slice 32, .sh, TC.l (x.2.2.2.2.2.2.2.2.1)⟩, ⟨.int .i64, .sh, TC.i (x.2.2.2.2.2.2.2.2.2.1)⟩], ⟨0, 0⟩⟩, ⟨.val false [⟨.int .i64, .sh, TC.i (x.2.2.2.2.2.2.2.2.2.2.1)⟩], ⟨0, 0⟩⟩, ⟨.val false [⟨.slice 9, .own true, TC.l (x.2.2.2.2.2.2.2.2.2.2.2.1)⟩], ⟨0, 0⟩⟩, ⟨.val false [⟨.slice 71, .sh, TC.l (x.2.2.2.2.2.2.2.2.2.2.2.2.1)⟩], ⟨0, 0⟩⟩, ⟨.val false [⟨.int .i64, .sh, TC.i (x.2.2.2.2.2.2.2.2.2.2.2.2.2.1)⟩], ⟨0, 0⟩⟩, ⟨.val false [⟨.int .i64, .sh, TC.i (x.2.2.2.2.2.2.2.2.2.2.2.2.2.2)⟩], ⟨0, 0⟩⟩]
def qd_6_out : qd_6_ω → Ex × List Slot := (Sum.elim (fun x => (.ret, [⟨.bx 32 [⟨.int .i64, .sh, TC.i (x.1)⟩, ⟨.int .i64, .sh, TC.i (x.2.1)⟩, ⟨.bool, .sh, TC.b (x.2.2.1)⟩, ⟨.bool, .sh, TC.b (x.2.2.2.1)⟩, ⟨.slice 9, .sh, TC.l (x.2.2.2.2.1)⟩, ⟨.slice 2, .sh, TC.l (x.2.2.2.2.2.1)⟩, ⟨.slice 71, .sh, TC.l (x.2.2.2.2.2.2.1)⟩, ⟨.slice 32, .sh, TC.l (x.2.2.2.2.2.2.2.1)⟩, ⟨.int .i64, .sh, TC.i (x.2.2.2.2.2.2.2.2.1)⟩], ⟨0, 0⟩⟩, ⟨.val false [⟨.bool, .sh, TC.b false⟩], ⟨0, 0⟩⟩, ⟨.val false [⟨.int .i64, .sh, TC.i (x.2.2.2.2.2.2.2.2.2.1)⟩], ⟨0, 0⟩⟩, ⟨.val false [⟨.slice 9, .own true, TC.l (x.2.2.2.2.2.2.2.2.2.2)⟩], ⟨0, 0⟩⟩])) (fun x => (.exit 0, [⟨.bx 32 [⟨.int .i64, .sh, TC.i (x.1)⟩, ⟨.int .i64, .sh, TC.i (x.2.1)⟩, ⟨.bool, .sh, TC.b (x.2.2.1)⟩, ⟨.bool, .sh, TC.b (x.2.2.2.1)⟩, ⟨.slice 9, .sh, TC.l (x.2.2.2.2.1)⟩, ⟨.slice 2, .sh, TC.l (x.2.2.2.2.2.1)⟩, ⟨.slice 71, .sh, TC.l (x.2.2.2.2.2.2.1)⟩, ⟨.slice 32, .sh, TC.l (x.2.2.2.2.2.2.2.1)⟩, ⟨.int .i64, .sh, TC.i (x.2.2.2.2.2.2.2.2.1)⟩], ⟨0, 0⟩⟩, Slot.none, ⟨.val false [⟨.int .i64, .sh, TC.i (x.2.2.2.2.2.2.2.2.2.1)⟩], ⟨0, 0⟩⟩, ⟨.val false [⟨.slice 9, .own true, TC.l (x.2.2.2.2.2.2.2.2.2.2)⟩], ⟨0, 0⟩⟩])))
noncomputable def qd_lo6 : List Slot → Option (Told (Ex × List Slot)) := fun s => match s with
  | [⟨.val false [⟨.int .i64, .sh, TC.i d⟩], ⟨0, 0⟩⟩, ⟨.bx 32 [⟨.int .i64, .sh, TC.i k⟩, ⟨.int .i64, .sh, TC.i s⟩, ⟨.bool, .sh, TC.b sg⟩, ⟨.bool, .sh, TC.b bg⟩, ⟨.slice 9, .sh, TC.l NA⟩, ⟨.slice 2, .sh, TC.l NU⟩, ⟨.slice 71, .sh, TC.l ME⟩, ⟨.slice 32, .sh, TC.l BA⟩, ⟨.int .i64, .sh, TC.i ct⟩], ⟨0, 0⟩⟩, ⟨.val false [⟨.int .i64, .sh, TC.i en⟩], ⟨0, 0⟩⟩, ⟨.val false [⟨.slice 9, .own true, TC.l NM⟩], ⟨0, 0⟩⟩, ⟨.val false [⟨.slice 71, .sh, TC.l X⟩], ⟨0, 0⟩⟩, ⟨.val false [⟨.int .i64, .sh, TC.i m⟩], ⟨0, 0⟩⟩, ⟨.val false [⟨.int .i64, .sh, TC.i i⟩], ⟨0, 0⟩⟩] => some (((qd_6_fin d k s sg bg NA NU ME BA ct en NM X m i)).map qd_6_out)
  | _ => .none
noncomputable def qd_lo : LoopTeller := fun r s => bif Nat.beq r 6 then qd_lo6 s else .none
theorem qd_6_r (d k s : Int) (sg bg : Bool) (NA NU ME BA : LL) (ct en : Int) (NM X : LL) (m i : Int) (fuel : Nat) : rounds (rnd tab FT D49 live 107 qd_lo 0 6) leave (fuel + 1) (qd_6_sl (d, k, s, sg, bg, NA, NU, ME, BA, ct, en, NM, X, m, i)) = ((qd_6_step d k s sg bg NA NU ME BA ct en NM X m i)).run (goOn (fun s => rounds (rnd tab FT D49 live 107 qd_lo 0 6) leave fuel (qd_6_sl s)) fun w => some (qd_6_out w)) := by kernel_rfl
theorem qd_f6_eq (d : Int) (k s : Int) (sg bg : Bool) (NA NU ME BA : LL) (ct : Int) (m i : Int) (e : Int) (NM : LL) : qd_f6 d k s sg bg NA NU ME BA ct ME m i e NM = bif (validV (nth (row ME i) 2).int (nth (row ME i) 3).int (nth (row ME i) 4).bool (nth (row ME i) 5).bool (nth (row ME i) 6).list (nth (row ME i) 7).list (nth (row ME i) 8).list (nth (row ME i) 9).list (nth (row ME i) 10).int d && (!decide ((nth (row ME i) 1).int < e) && !decide ((nth (row ME i) 1).int > 24))) then Sum.inl (IntKind.wrap .i64 ((nth (row ME i) 1).int + isizeV (nth (row ME i) 2).int (nth (row ME i) 3).int (nth (row ME i) 9).list (nth (row ME i) 10).int), NM ++ [[TC.s (nth (row ME i) 0).str]]) else Sum.inr (Sum.inl (k, s, sg, bg, NA, NU, ME, BA, ct, e, NM)) := by
  unfold qd_f6
  rw [show qw_rv (nth (row ME i) 2).int (nth (row ME i) 3).int (nth (row ME i) 4).bool (nth (row ME i) 5).bool (nth (row ME i) 6).list (nth (row ME i) 7).list (nth (row ME i) 8).list (nth (row ME i) 9).list (nth (row ME i) 10).int d = validV (nth (row ME i) 2).int (nth (row ME i) 3).int (nth (row ME i) 4).bool (nth (row ME i) 5).bool (nth (row ME i) 6).list (nth (row ME i) 7).list (nth (row ME i) 8).list (nth (row ME i) 9).list (nth (row ME i) 10).int d from rfl]
  generalize validV (nth (row ME i) 2).int (nth (row ME i) 3).int (nth (row ME i) 4).bool (nth (row ME i) 5).bool (nth (row ME i) 6).list (nth (row ME i) 7).list (nth (row ME i) 8).list (nth (row ME i) 9).list (nth (row ME i) 10).int d = p0, decide ((nth (row ME i) 1).int < e) = p1, decide ((nth (row ME i) 1).int > 24) = p2
  cases p0 <;> cases p1 <;> cases p2 <;> rfl
theorem qd_R6_eq (d : Int) (k s : Int) (sg bg : Bool) (NA NU ME BA : LL) (ct m : Int) : ∃ a : Int × LL, qd_R6 d k s sg bg NA NU ME BA ct 0 [] ME m 0 = bif (allI (memI ME) ME.length && ME.all fun x => validV (nth x 2).int (nth x 3).int (nth x 4).bool (nth x 5).bool (nth x 6).list (nth x 7).list (nth x 8).list (nth x 9).list (nth x 10).int d) then Sum.inr (k, s, sg, bg, NA, NU, ME, BA, ct, endI ME ME.length, nmAt ME ME.length) else Sum.inl (k, s, sg, bg, NA, NU, ME, BA, ct, a.1, a.2) := by
  unfold qd_R6
  obtain ⟨a, ha⟩ := iter_along (f := fun i a => qd_f6 d k s sg bg NA NU ME BA ct ME m (i : Int) a.1 a.2) (fin := fun a => qd_e6 d k s sg bg NA NU ME BA ct ME m a.1 a.2) (P := fun i : Nat => validV (nth (row ME (i : Int)) 2).int (nth (row ME (i : Int)) 3).int (nth (row ME (i : Int)) 4).bool (nth (row ME (i : Int)) 5).bool (nth (row ME (i : Int)) 6).list (nth (row ME (i : Int)) 7).list (nth (row ME (i : Int)) 8).list (nth (row ME (i : Int)) 9).list (nth (row ME (i : Int)) 10).int d && (!decide ((nth (row ME (i : Int)) 1).int < endI ME i) && !decide ((nth (row ME (i : Int)) 1).int > 24))) (A := fun j => (endI ME j, nmAt ME j)) (w := fun a => Sum.inl (k, s, sg, bg, NA, NU, ME, BA, ct, a.1, a.2)) (N := ME.length) (fun j _ => qd_f6_eq d k s sg bg NA NU ME BA ct m (j : Int) (endI ME j) (nmAt ME j))
  refine ⟨a, ha.trans ?_⟩
  rw [show allI (fun i : Nat => validV (nth (row ME (i : Int)) 2).int (nth (row ME (i : Int)) 3).int (nth (row ME (i : Int)) 4).bool (nth (row ME (i : Int)) 5).bool (nth (row ME (i : Int)) 6).list (nth (row ME (i : Int)) 7).list (nth (row ME (i : Int)) 8).list (nth (row ME (i : Int)) 9).list (nth (row ME (i : Int)) 10).int d && (!decide ((nth (row ME (i : Int)) 1).int < endI ME i) && !decide ((nth (row ME (i : Int)) 1).int > 24))) ME.length = (allI (memI ME) ME.length && ME.all fun x => validV (nth x 2).int (nth x 3).int (nth x 4).bool (nth x 5).bool (nth x 6).list (nth x 7).list (nth x 8).list (nth x 9).list (nth x 10).int d) from by
    rw [← allI_rows, Bool.and_comm, ← allI_and]
    rfl]
  rfl
theorem qd_6_h (d k s : Int) (sg bg : Bool) (NA NU ME BA : LL) (ct en : Int) (NM X : LL) (m i : Int) (ow : qd_6_ω) : ((qd_6_fin d k s sg bg NA NU ME BA ct en NM X m i)).val = some ow → ∃ fuel, loopN qd_6_st fuel (d, k, s, sg, bg, NA, NU, ME, BA, ct, en, NM, X, m, i) = some ow := by
  refine auto_sum (R := (qd_R6 d k s sg bg NA NU ME BA ct en NM X m i)) rfl rfl rfl ?_
  intro ho
  have ho : is (i = 0 ∧ ME = X ∧ m = (ME.length : Int) ∧ en = 0 ∧ NM = [] ∧ Typed tab (.slice 71) (.l ME) ∧ (∀ x : List TC, x ∈ ME → qw_rc (nth x 2).int (nth x 3).int (nth x 4).bool (nth x 5).bool (nth x 6).list (nth x 7).list (nth x 8).list (nth x 9).list (nth x 10).int d = true) ∧ (∀ x : List TC, x ∈ ME → (!(qw_rv (nth x 2).int (nth x 3).int (nth x 4).bool (nth x 5).bool (nth x 6).list (nth x 7).list (nth x 8).list (nth x 9).list (nth x 10).int d)) = false → qy_rc (nth x 2).int (nth x 3).int (nth x 4).bool (nth x 5).bool (nth x 6).list (nth x 7).list (nth x 8).list (nth x 9).list (nth x 10).int = true)) = true := ho.elim id id
  obtain ⟨rfl, rfl, rfl, rfl, rfl, ht, hr, hz⟩ := is_iff.1 ho
  have hlen : ME.length ≤ 140737488351232 := by have := typed_room ht; simp only [show (tab 71).bytes = 152 from rfl] at this; omega
  have hroom := typed_room ht
  simp only [show (tab 71).bytes = 152 from rfl] at hroom
  refine ⟨(ME.length) + 1, ?_⟩
  refine iter_loop (step := qd_6_st) (a := ((0 : Int), ([] : LL))) (ME.length) (fun i a => (qd_f6 d k s sg bg NA NU ME BA ct ME (ME.length : Int) (i : Int) (a.1) (a.2))) (fun a => (qd_e6 d k s sg bg NA NU ME BA ct ME (ME.length : Int) (a.1) (a.2))) (fun i a => (d, k, s, sg, bg, NA, NU, ME, BA, ct, a.1, a.2, ME, (ME.length : Int), (i : Int))) (fun i (a : Int × LL) => a.2.length = i) rfl (fun i a hi hI => ⟨?_, fun a' h => by
    unfold qd_f6 at h
    generalize (!(qw_rv (nth (row ME (i : Int)) 2).int (nth (row ME (i : Int)) 3).int (nth (row ME (i : Int)) 4).bool (nth (row ME (i : Int)) 5).bool (nth (row ME (i : Int)) 6).list (nth (row ME (i : Int)) 7).list (nth (row ME (i : Int)) 8).list (nth (row ME (i : Int)) 9).list (nth (row ME (i : Int)) 10).int d)) = q0, decide ((nth (row ME (i : Int)) 1).int < a.1) = q1, decide ((nth (row ME (i : Int)) 1).int > 24) = q2 at h
    cases q0 <;> cases q1 <;> cases q2 <;> first | (cases h; done) | (cases h; show (a.2 ++ _).length = i + 1; rw [List.length_append, hI]; rfl)⟩) (fun a hI => ?_)
  · show (qd_6_step d k s sg bg NA NU ME BA ct (a.1) (a.2) ME (ME.length : Int) (i : Int)).val = _
    unfold qd_6_step qd_f6
    have c0 : Typed tab (.str) (.s (nth (ME.getD i []) 0).str) := typed_s (typed_cell ht (ME.getD i []) (mem_getD hi) 0 (by decide))
    have c6 : Typed tab (.slice 9) (.l (nth (ME.getD i []) 6).list) := typed_list (typed_cell ht (ME.getD i []) (mem_getD hi) 6 (by decide))
    have c7 : Typed tab (.slice 2) (.l (nth (ME.getD i []) 7).list) := typed_list (typed_cell ht (ME.getD i []) (mem_getD hi) 7 (by decide))
    have c8 : Typed tab (.slice 71) (.l (nth (ME.getD i []) 8).list) := typed_list (typed_cell ht (ME.getD i []) (mem_getD hi) 8 (by decide))
    have c9 : Typed tab (.slice 32) (.l (nth (ME.getD i []) 9).list) := typed_list (typed_cell ht (ME.getD i []) (mem_getD hi) 9 (by decide))
    refine Tr.t (by simp; omega) ?_
    exact (Tr.t (by first | omega | (constructor <;> omega) | (exact hr _ (mem_getD (by omega))) | (exact hz _ (mem_getD (by omega)) (by assumption)) | ((unfold roomFor; simp only [show (tab 9).bytes = 16 from rfl, List.length_append, List.length_singleton]; omega))) (Tr.t (by first | omega | (constructor <;> omega) | (exact hr _ (mem_getD (by omega))) | (exact hz _ (mem_getD (by omega)) (by assumption)) | ((unfold roomFor; simp only [show (tab 9).bytes = 16 from rfl, List.length_append, List.length_singleton]; omega))) (Tr.bh (fun _ => rfl) (fun _ => (Tr.bh (fun _ => rfl) (fun _ => (Tr.bh (fun _ => rfl) (fun _ => (Tr.t (by first | omega | (constructor <;> omega) | (exact hr _ (mem_getD (by omega))) | (exact hz _ (mem_getD (by omega)) (by assumption)) | ((unfold roomFor; simp only [show (tab 9).bytes = 16 from rfl, List.length_append, List.length_singleton]; omega))) (Tr.t (by first | omega | (constructor <;> omega) | (exact hr _ (mem_getD (by omega))) | (exact hz _ (mem_getD (by omega)) (by assumption)) | ((unfold roomFor; simp only [show (tab 9).bytes = 16 from rfl, List.length_append, List.length_singleton]; omega))) (by rw [Tr.val_ok, wrap64 (i := (i : Int) + 1) (by omega) (by omega)]; rfl)))))))))))
  · show (qd_6_step d k s sg bg NA NU ME BA ct (a.1) (a.2) ME (ME.length : Int) (ME.length : Int)).val = _
    refine Tr.n (by first | (simp; done) | (simp; omega) | omega) ?_
    rfl
theorem qd_is6 : LoopIs tab FT D49 live 107 qd_lo 0 6 := by
  refine loop_told (sl := qd_6_sl) (step := qd_6_st) (out := qd_6_out) (lor := qd_lo6) (fin := fun x => (qd_6_fin (x.1) (x.2.1) (x.2.2.1) (x.2.2.2.1) (x.2.2.2.2.1) (x.2.2.2.2.2.1) (x.2.2.2.2.2.2.1) (x.2.2.2.2.2.2.2.1) (x.2.2.2.2.2.2.2.2.1) (x.2.2.2.2.2.2.2.2.2.1) (x.2.2.2.2.2.2.2.2.2.2.1) (x.2.2.2.2.2.2.2.2.2.2.2.1) (x.2.2.2.2.2.2.2.2.2.2.2.2.1) (x.2.2.2.2.2.2.2.2.2.2.2.2.2.1) (x.2.2.2.2.2.2.2.2.2.2.2.2.2.2))) (fun _ => rfl) ?_ (fun x n => qd_6_r x.1 x.2.1 x.2.2.1 x.2.2.2.1 x.2.2.2.2.1 x.2.2.2.2.2.1 x.2.2.2.2.2.2.1 x.2.2.2.2.2.2.2.1 x.2.2.2.2.2.2.2.2.1 x.2.2.2.2.2.2.2.2.2.1 x.2.2.2.2.2.2.2.2.2.2.1 x.2.2.2.2.2.2.2.2.2.2.2.1 x.2.2.2.2.2.2.2.2.2.2.2.2.1 x.2.2.2.2.2.2.2.2.2.2.2.2.2.1 x.2.2.2.2.2.2.2.2.2.2.2.2.2.2 n) (fun x ow => qd_6_h x.1 x.2.1 x.2.2.1 x.2.2.2.1 x.2.2.2.2.1 x.2.2.2.2.2.1 x.2.2.2.2.2.2.1 x.2.2.2.2.2.2.2.1 x.2.2.2.2.2.2.2.2.1 x.2.2.2.2.2.2.2.2.2.1 x.2.2.2.2.2.2.2.2.2.2.1 x.2.2.2.2.2.2.2.2.2.2.2.1 x.2.2.2.2.2.2.2.2.2.2.2.2.1 x.2.2.2.2.2.2.2.2.2.2.2.2.2.1 x.2.2.2.2.2.2.2.2.2.2.2.2.2.2 ow)
  intro s t h
  unfold qd_lo6 at h
  split at h
  · cases h; exact ⟨(_, _, _, _, _, _, _, _, _, _, _, _, _, _, _), rfl, rfl⟩
  · cases h
noncomputable def qd_t (k s : Int) (sg bg : Bool) (NA NU ME BA : LL) (ct d : Int) : Tr (Bool) := (.ite ((!(qcd_v s (1 : Int) (24 : Int))) = true) (.ok false)
  (.ite ((!(qcd_v (ME.length : Int) (1 : Int) (4 : Int))) = true) (.ok false)
   (.ite ((qd_k6_1 d k s sg bg NA NU ME BA ct (0 : Int) [] ME (ME.length : Int) (0 : Int)) = true) (.ite ((qd_o6_2 d k s sg bg NA NU ME BA ct (0 : Int) [] ME (ME.length : Int) (0 : Int)) = true) (.ok false)
     .no)
    (.ite ((qd_o6_3 d k s sg bg NA NU ME BA ct (0 : Int) [] ME (ME.length : Int) (0 : Int)) = true) (.ite ((decide ((qd_u6_3_9 d k s sg bg NA NU ME BA ct (0 : Int) [] ME (ME.length : Int) (0 : Int)) ≤ (qd_u6_3_1 d k s sg bg NA NU ME BA ct (0 : Int) [] ME (ME.length : Int) (0 : Int)))) = true) (.ite ((qm_c (qd_u6_3_10 d k s sg bg NA NU ME BA ct (0 : Int) [] ME (ME.length : Int) (0 : Int))) = true) (.ok (qm_v (qd_u6_3_10 d k s sg bg NA NU ME BA ct (0 : Int) [] ME (ME.length : Int) (0 : Int))))
       .no)
      (.ok false))
     .no))))
def qd_mk (p : Bool) : Res := [(false, [⟨.bool, .sh, TC.b p⟩])]
noncomputable def qd_c (k s : Int) (sg bg : Bool) (NA NU ME BA : LL) (ct d : Int) : Bool := (bif (!(qcd_v s (1 : Int) (24 : Int))) then true else (bif (!(qcd_v (ME.length : Int) (1 : Int) (4 : Int))) then true else (bif (qd_k6_1 d k s sg bg NA NU ME BA ct (0 : Int) [] ME (ME.length : Int) (0 : Int)) then ((qd_o6_2 d k s sg bg NA NU ME BA ct (0 : Int) [] ME (ME.length : Int) (0 : Int)) && true) else ((qd_o6_3 d k s sg bg NA NU ME BA ct (0 : Int) [] ME (ME.length : Int) (0 : Int)) && (bif (decide ((qd_u6_3_9 d k s sg bg NA NU ME BA ct (0 : Int) [] ME (ME.length : Int) (0 : Int)) ≤ (qd_u6_3_1 d k s sg bg NA NU ME BA ct (0 : Int) [] ME (ME.length : Int) (0 : Int)))) then ((qm_c (qd_u6_3_10 d k s sg bg NA NU ME BA ct (0 : Int) [] ME (ME.length : Int) (0 : Int))) && true) else true)))))
noncomputable def qd_v (k s : Int) (sg bg : Bool) (NA NU ME BA : LL) (ct d : Int) : Bool := (bif (!(qcd_v s (1 : Int) (24 : Int))) then false else (bif (!(qcd_v (ME.length : Int) (1 : Int) (4 : Int))) then false else (bif (qd_k6_1 d k s sg bg NA NU ME BA ct (0 : Int) [] ME (ME.length : Int) (0 : Int)) then false else (bif (decide ((qd_u6_3_9 d k s sg bg NA NU ME BA ct (0 : Int) [] ME (ME.length : Int) (0 : Int)) ≤ (qd_u6_3_1 d k s sg bg NA NU ME BA ct (0 : Int) [] ME (ME.length : Int) (0 : Int)))) then (qm_v (qd_u6_3_10 d k s sg bg NA NU ME BA ct (0 : Int) [] ME (ME.length : Int) (0 : Int))) else false))))
theorem qd_l (k s : Int) (sg bg : Bool) (NA NU ME BA : LL) (ct d : Int) : (qd_c k s sg bg NA NU ME BA ct d) = true → (qd_t k s sg bg NA NU ME BA ct d).val = some (qd_v k s sg bg NA NU ME BA ct d) := by
  unfold qd_t qd_v qd_c
  exact fun h => (Tr.ss h (fun h => rfl) (fun h => (Tr.ss h (fun h => rfl) (fun h => (Tr.ss h (fun h => (Tr.gb h fun h => rfl)) (fun h => (Tr.gb h fun h => (Tr.ss h (fun h => (Tr.gb h fun h => rfl)) (fun h => rfl)))))))))
noncomputable def qd_S : List Arg → Option (Bool × Res) := fun xs => match xs with
  | [(true, [(.int .i64, TC.i k), (.int .i64, TC.i s), (.bool, TC.b sg), (.bool, TC.b bg), (.slice 9, TC.l NA), (.slice 2, TC.l NU), (.slice 71, TC.l ME), (.slice 32, TC.l BA), (.int .i64, TC.i ct)]), (false, [(.int .i64, TC.i d)])] => some ((qd_c k s sg bg NA NU ME BA ct d), qd_mk (qd_v k s sg bg NA NU ME BA ct d))
  | _ => .none
theorem qd_e (k s : Int) (sg bg : Bool) (NA NU ME BA : LL) (ct d : Int) : runF tab FT D49 live 107 qd_lo [(true, [(.int .i64, TC.i k), (.int .i64, TC.i s), (.bool, TC.b sg), (.bool, TC.b bg), (.slice 9, TC.l NA), (.slice 2, TC.l NU), (.slice 71, TC.l ME), (.slice 32, TC.l BA), (.int .i64, TC.i ct)]), (false, [(.int .i64, TC.i d)])] = (qd_t k s sg bg NA NU ME BA ct d).run fun p => some (qd_mk p) := by kernel_rfl
theorem qd_s : ∀ xs r, qd_S xs = some (true, r) → runF tab FT D49 live 107 qd_lo xs = some r := by
  intro xs r h
  unfold qd_S at h
  split at h
  · simp only [Option.some.injEq, Prod.mk.injEq] at h
    obtain ⟨h1, rfl⟩ := h
    exact fun_told (qd_e _ _ _ _ _ _ _ _ _ _) (qd_l _ _ _ _ _ _ _ _ _ _) h1
  · cases h
noncomputable def D50 : Dt := also D49 107 qd_S
theorem d50 : DOk Go.Proofs.Try.prog tab D50 := d49.also mixed_ok tab_ok names_ok (fnLoops_one (by kernel_rfl) qd_is6) qd_s
theorem nm_typed {ME : LL} (ht : Typed tab (.slice 71) (.l ME)) : Typed tab (.slice 9) (.l (nmAt ME ME.length)) := by
  have hroom := typed_room ht
  simp only [show (tab 71).bytes = 152 from rfl] at hroom
  have hm : (140737488351232 : Nat) ≤ maxLen := by unfold maxLen; omega
  rw [nmAt_all]
  refine .slice _ _ (by rw [List.length_map, show (tab 9).bytes = 16 from rfl]; show _ ≤ 140737488351232; omega) (by rw [List.length_map]; omega) (fun x hx => ?_) (fun x hx k hk => ?_)
  · obtain ⟨y, _, rfl⟩ := List.mem_map.1 hx; rfl
  · obtain ⟨y, hy, rfl⟩ := List.mem_map.1 hx
    have hk : k = 0 := by have : k < 1 := hk; omega
    subst hk
    exact typed_s ((typed_elem ht hy).2 0 (by decide))
theorem comp_u {d : Int} {k s : Int} {sg bg : Bool} {NA NU ME BA : LL} {ct : Int} {m : Int} (h : qd_k6_1 d k s sg bg NA NU ME BA ct 0 [] ME m 0 = false) : qd_u6_3_10 d k s sg bg NA NU ME BA ct 0 [] ME m 0 = nmAt ME ME.length := by
  unfold qd_u6_3_10
  unfold qd_k6_1 at h
  obtain ⟨a, ha⟩ := qd_R6_eq d k s sg bg NA NU ME BA ct m
  rw [ha] at h ⊢
  generalize (allI (memI ME) ME.length && ME.all fun x => validV (nth x 2).int (nth x 3).int (nth x 4).bool (nth x 5).bool (nth x 6).list (nth x 7).list (nth x 8).list (nth x 9).list (nth x 10).int d) = q at h ⊢
  cases q
  · cases h
  · rfl
theorem qd_cc {k : Int} {s : Int} {sg : Bool} {bg : Bool} {NA : LL} {NU : LL} {ME : LL} {BA : LL} {ct : Int} {d : Int} (ht : Typed tab (.slice 71) (.l ME)) (hr : (∀ x : List TC, x ∈ ME → qw_rc (nth x 2).int (nth x 3).int (nth x 4).bool (nth x 5).bool (nth x 6).list (nth x 7).list (nth x 8).list (nth x 9).list (nth x 10).int d = true)) (hz : (∀ x : List TC, x ∈ ME → (!(qw_rv (nth x 2).int (nth x 3).int (nth x 4).bool (nth x 5).bool (nth x 6).list (nth x 7).list (nth x 8).list (nth x 9).list (nth x 10).int d)) = false → qy_rc (nth x 2).int (nth x 3).int (nth x 4).bool (nth x 5).bool (nth x 6).list (nth x 7).list (nth x 8).list (nth x 9).list (nth x 10).int = true)) : (qd_c k s sg bg NA NU ME BA ct d) = true := by
  unfold qd_c
  refine bifT (fun b1 => ?_) (fun b1 => ?_)
  · skip
    rfl
  · skip
    refine bifT (fun b2 => ?_) (fun b2 => ?_)
    · skip
      rfl
    · skip
      refine bifT (fun b3 => ?_) (fun b3 => ?_)
      · skip
        refine andT (by exact is_true ⟨rfl, rfl, rfl, rfl, rfl, ht, hr, hz⟩) ?_
        rfl
      · skip
        refine andT (by exact is_true ⟨rfl, rfl, rfl, rfl, rfl, ht, hr, hz⟩) ?_
        refine bifT (fun b4 => ?_) (fun b4 => ?_)
        · skip
          refine andT (by rw [comp_u b3]; exact qm_cc (nm_typed ht)) ?_
          rfl
        · skip
          rfl
theorem qd_vv (k s : Int) (sg bg : Bool) (NA NU ME BA : LL) (ct d : Int) : qd_v k s sg bg NA NU ME BA ct d = (inB s 1 24 && (inB (ME.length : Int) 1 4 && ((allI (memI ME) ME.length && ME.all fun x => validV (nth x 2).int (nth x 3).int (nth x 4).bool (nth x 5).bool (nth x 6).list (nth x 7).list (nth x 8).list (nth x 9).list (nth x 10).int d) && (decide (endI ME ME.length ≤ s) && allI (fun i : Nat => dnP ME (i : Int)) ME.length)))) := by
  unfold qd_v
  obtain ⟨a, ha⟩ := qd_R6_eq d k s sg bg NA NU ME BA ct (ME.length : Int)
  unfold qd_k6_1 qd_u6_3_9 qd_u6_3_1 qd_u6_3_10
  rw [ha, show qcd_v s 1 24 = inB s 1 24 from rfl, show qcd_v (ME.length : Int) 1 4 = inB (ME.length : Int) 1 4 from rfl]
  have hn : allI (fun i : Nat => dnP (nmAt ME ME.length) (i : Int)) (nmAt ME ME.length).length = allI (fun i : Nat => dnP ME (i : Int)) ME.length := by
    rw [nmAt_len]
    exact allI_congr fun i hi => by unfold dnP; rw [nm_str hi, nm_dup hi]
  generalize (allI (memI ME) ME.length && ME.all fun x => validV (nth x 2).int (nth x 3).int (nth x 4).bool (nth x 5).bool (nth x 6).list (nth x 7).list (nth x 8).list (nth x 9).list (nth x 10).int d) = q
  cases q
  · simp only [bif_nf, bif_tf, bif_ft, Bool.not_not, Bool.false_and, Bool.and_false]
    show (inB s 1 24 && (inB (ME.length : Int) 1 4 && false)) = false
    simp only [Bool.and_false]
  · show (bif !(inB s 1 24) then false else bif !(inB (ME.length : Int) 1 4) then false else bif false then false else bif decide (endI ME ME.length ≤ s) then qm_v (nmAt ME ME.length) else false) = _
    rw [qm_vv, hn]
    simp only [bif_nf, bif_tf, bif_ft, Bool.not_not, Bool.true_and, Bool.not_false]
noncomputable def qw_t (k s : Int) (sg bg : Bool) (NA NU ME BA : LL) (ct d : Int) : Tr (Bool) := (.ite ((decide (d < (1 : Int))) = true) (.ok false)
  (.ite ((qba_rc k s sg bg NA NU ME BA ct ((qbm_v k s sg bg NA NU ME BA ct).1) ((qbm_v k s sg bg NA NU ME BA ct).2.1) ((qbm_v k s sg bg NA NU ME BA ct).2.2.1) ((qbm_v k s sg bg NA NU ME BA ct).2.2.2.1) ((qbm_v k s sg bg NA NU ME BA ct).2.2.2.2.1) ((qbm_v k s sg bg NA NU ME BA ct).2.2.2.2.2.1) ((qbm_v k s sg bg NA NU ME BA ct).2.2.2.2.2.2.1) ((qbm_v k s sg bg NA NU ME BA ct).2.2.2.2.2.2.2.1) ((qbm_v k s sg bg NA NU ME BA ct).2.2.2.2.2.2.2.2)) = true) (.ite ((!(qba_rv k s sg bg NA NU ME BA ct ((qbm_v k s sg bg NA NU ME BA ct).1) ((qbm_v k s sg bg NA NU ME BA ct).2.1) ((qbm_v k s sg bg NA NU ME BA ct).2.2.1) ((qbm_v k s sg bg NA NU ME BA ct).2.2.2.1) ((qbm_v k s sg bg NA NU ME BA ct).2.2.2.2.1) ((qbm_v k s sg bg NA NU ME BA ct).2.2.2.2.2.1) ((qbm_v k s sg bg NA NU ME BA ct).2.2.2.2.2.2.1) ((qbm_v k s sg bg NA NU ME BA ct).2.2.2.2.2.2.2.1) ((qbm_v k s sg bg NA NU ME BA ct).2.2.2.2.2.2.2.2))) = true) (.ok false)
    (.ite ((k == (1 : Int)) = true) (.ite ((qbx_c k s sg bg NA NU ME BA ct) = true) (.ok (qbx_v k s sg bg NA NU ME BA ct))
      .no)
     (.ite ((k == (2 : Int)) = true) (.ok (qcd_v s (1 : Int) (16 : Int)))
      (.ite ((k == (3 : Int)) = true) (.ite ((qv_c k s sg bg NA NU ME BA ct) = true) (.ok (qv_v k s sg bg NA NU ME BA ct))
        .no)
       (.ite ((k == (4 : Int)) = true) (.ite ((qd_c k s sg bg NA NU ME BA ct (IntKind.wrap .i64 (d - (1 : Int)))) = true) (.ok (qd_v k s sg bg NA NU ME BA ct (IntKind.wrap .i64 (d - (1 : Int)))))
         .no)
        (.ite ((k == (5 : Int)) = true) (.ite ((qcd_v ct (1 : Int) (4 : Int)) = true) (.ite (((BA.length : Int) == (1 : Int)) = true) (.ite ((0 : Int) ≤ (0 : Int) ∧ (0 : Int) < (BA.length : Int)) (.ite ((qw_rc ((nth (row BA (0 : Int)) 0).int) ((nth (row BA (0 : Int)) 1).int) ((nth (row BA (0 : Int)) 2).bool) ((nth (row BA (0 : Int)) 3).bool) ((nth (row BA (0 : Int)) 4).list) ((nth (row BA (0 : Int)) 5).list) ((nth (row BA (0 : Int)) 6).list) ((nth (row BA (0 : Int)) 7).list) ((nth (row BA (0 : Int)) 8).int) (IntKind.wrap .i64 (d - (1 : Int)))) = true) (.ite ((qw_rv ((nth (row BA (0 : Int)) 0).int) ((nth (row BA (0 : Int)) 1).int) ((nth (row BA (0 : Int)) 2).bool) ((nth (row BA (0 : Int)) 3).bool) ((nth (row BA (0 : Int)) 4).list) ((nth (row BA (0 : Int)) 5).list) ((nth (row BA (0 : Int)) 6).list) ((nth (row BA (0 : Int)) 7).list) ((nth (row BA (0 : Int)) 8).int) (IntKind.wrap .i64 (d - (1 : Int)))) = true) (.ite ((qy_rc k s sg bg NA NU ME BA ct) = true) (.ok (decide ((qy_rv k s sg bg NA NU ME BA ct) ≤ (24 : Int))))
               .no)
              (.ok false))
             .no)
            .no)
           (.ok false))
          (.ok false))
         (.ite ((k == (6 : Int)) = true) (.ok (s == (2 : Int)))
          (.ok false))))))))
   .no))
def qw_mk (p : Bool) : Res := [(false, [⟨.bool, .sh, TC.b p⟩])]
noncomputable def qw_c (k s : Int) (sg bg : Bool) (NA NU ME BA : LL) (ct d : Int) : Bool := (bif (decide (d < (1 : Int))) then true else ((qba_rc k s sg bg NA NU ME BA ct ((qbm_v k s sg bg NA NU ME BA ct).1) ((qbm_v k s sg bg NA NU ME BA ct).2.1) ((qbm_v k s sg bg NA NU ME BA ct).2.2.1) ((qbm_v k s sg bg NA NU ME BA ct).2.2.2.1) ((qbm_v k s sg bg NA NU ME BA ct).2.2.2.2.1) ((qbm_v k s sg bg NA NU ME BA ct).2.2.2.2.2.1) ((qbm_v k s sg bg NA NU ME BA ct).2.2.2.2.2.2.1) ((qbm_v k s sg bg NA NU ME BA ct).2.2.2.2.2.2.2.1) ((qbm_v k s sg bg NA NU ME BA ct).2.2.2.2.2.2.2.2)) && (bif (!(qba_rv k s sg bg NA NU ME BA ct ((qbm_v k s sg bg NA NU ME BA ct).1) ((qbm_v k s sg bg NA NU ME BA ct).2.1) ((qbm_v k s sg bg NA NU ME BA ct).2.2.1) ((qbm_v k s sg bg NA NU ME BA ct).2.2.2.1) ((qbm_v k s sg bg NA NU ME BA ct).2.2.2.2.1) ((qbm_v k s sg bg NA NU ME BA ct).2.2.2.2.2.1) ((qbm_v k s sg bg NA NU ME BA ct).2.2.2.2.2.2.1) ((qbm_v k s sg bg NA NU ME BA ct).2.2.2.2.2.2.2.1) ((qbm_v k s sg bg NA NU ME BA ct).2.2.2.2.2.2.2.2))) then true else (bif (k == (1 : Int)) then ((qbx_c k s sg bg NA NU ME BA ct) && true) else (bif (k == (2 : Int)) then true else (bif (k == (3 : Int)) then ((qv_c k s sg bg NA NU ME BA ct) && true) else (bif (k == (4 : Int)) then ((qd_c k s sg bg NA NU ME BA ct (IntKind.wrap .i64 (d - (1 : Int)))) && true) else (bif (k == (5 : Int)) then (bif (qcd_v ct (1 : Int) (4 : Int)) then (bif ((BA.length : Int) == (1 : Int)) then (is ((0 : Int) ≤ (0 : Int) ∧ (0 : Int) < (BA.length : Int)) && ((qw_rc ((nth (row BA (0 : Int)) 0).int) ((nth (row BA (0 : Int)) 1).int) ((nth (row BA (0 : Int)) 2).bool) ((nth (row BA (0 : Int)) 3).bool) ((nth (row BA (0 : Int)) 4).list) ((nth (row BA (0 : Int)) 5).list) ((nth (row BA (0 : Int)) 6).list) ((nth (row BA (0 : Int)) 7).list) ((nth (row BA (0 : Int)) 8).int) (IntKind.wrap .i64 (d - (1 : Int)))) && (bif (qw_rv ((nth (row BA (0 : Int)) 0).int) ((nth (row BA (0 : Int)) 1).int) ((nth (row BA (0 : Int)) 2).bool) ((nth (row BA (0 : Int)) 3).bool) ((nth (row BA (0 : Int)) 4).list) ((nth (row BA (0 : Int)) 5).list) ((nth (row BA (0 : Int)) 6).list) ((nth (row BA (0 : Int)) 7).list) ((nth (row BA (0 : Int)) 8).int) (IntKind.wrap .i64 (d - (1 : Int)))) then ((qy_rc k s sg bg NA NU ME BA ct) && true) else true))) else true) else true) else (bif (k == (6 : Int)) then true else true)))))))))
noncomputable def qw_v (k s : Int) (sg bg : Bool) (NA NU ME BA : LL) (ct d : Int) : Bool := (bif (decide (d < (1 : Int))) then false else (bif (!(qba_rv k s sg bg NA NU ME BA ct ((qbm_v k s sg bg NA NU ME BA ct).1) ((qbm_v k s sg bg NA NU ME BA ct).2.1) ((qbm_v k s sg bg NA NU ME BA ct).2.2.1) ((qbm_v k s sg bg NA NU ME BA ct).2.2.2.1) ((qbm_v k s sg bg NA NU ME BA ct).2.2.2.2.1) ((qbm_v k s sg bg NA NU ME BA ct).2.2.2.2.2.1) ((qbm_v k s sg bg NA NU ME BA ct).2.2.2.2.2.2.1) ((qbm_v k s sg bg NA NU ME BA ct).2.2.2.2.2.2.2.1) ((qbm_v k s sg bg NA NU ME BA ct).2.2.2.2.2.2.2.2))) then false else (bif (k == (1 : Int)) then (qbx_v k s sg bg NA NU ME BA ct) else (bif (k == (2 : Int)) then (qcd_v s (1 : Int) (16 : Int)) else (bif (k == (3 : Int)) then (qv_v k s sg bg NA NU ME BA ct) else (bif (k == (4 : Int)) then (qd_v k s sg bg NA NU ME BA ct (IntKind.wrap .i64 (d - (1 : Int)))) else (bif (k == (5 : Int)) then (bif (qcd_v ct (1 : Int) (4 : Int)) then (bif ((BA.length : Int) == (1 : Int)) then (bif (qw_rv ((nth (row BA (0 : Int)) 0).int) ((nth (row BA (0 : Int)) 1).int) ((nth (row BA (0 : Int)) 2).bool) ((nth (row BA (0 : Int)) 3).bool) ((nth (row BA (0 : Int)) 4).list) ((nth (row BA (0 : Int)) 5).list) ((nth (row BA (0 : Int)) 6).list) ((nth (row BA (0 : Int)) 7).list) ((nth (row BA (0 : Int)) 8).int) (IntKind.wrap .i64 (d - (1 : Int)))) then (decide ((qy_rv k s sg bg NA NU ME BA ct) ≤ (24 : Int))) else false) else false) else false) else (bif (k == (6 : Int)) then (s == (2 : Int)) else false))))))))
theorem qw_l (k s : Int) (sg bg : Bool) (NA NU ME BA : LL) (ct d : Int) : (qw_c k s sg bg NA NU ME BA ct d) = true → (qw_t k s sg bg NA NU ME BA ct d).val = some (qw_v k s sg bg NA NU ME BA ct d) := by
  unfold qw_t qw_v qw_c
  exact fun h => (Tr.ss h (fun h => rfl) (fun h => (Tr.gb h fun h => (Tr.ss h (fun h => rfl) (fun h => (Tr.ss h (fun h => (Tr.gb h fun h => rfl)) (fun h => (Tr.ss h (fun h => rfl) (fun h => (Tr.ss h (fun h => (Tr.gb h fun h => rfl)) (fun h => (Tr.ss h (fun h => (Tr.gb h fun h => rfl)) (fun h => (Tr.ss h (fun h => (Tr.ss h (fun h => (Tr.ss h (fun h => (Tr.gs h fun h => (Tr.gb h fun h => (Tr.ss h (fun h => (Tr.gb h fun h => rfl)) (fun h => rfl))))) (fun h => rfl))) (fun h => rfl))) (fun h => (Tr.ss h (fun h => rfl) (fun h => rfl)))))))))))))))))
noncomputable def qw_S : List Arg → Option (Bool × Res) := fun xs => match xs with
  | [(true, [(.int .i64, TC.i k), (.int .i64, TC.i s), (.bool, TC.b sg), (.bool, TC.b bg), (.slice 9, TC.l NA), (.slice 2, TC.l NU), (.slice 71, TC.l ME), (.slice 32, TC.l BA), (.int .i64, TC.i ct)]), (false, [(.int .i64, TC.i d)])] => some ((qw_c k s sg bg NA NU ME BA ct d), qw_mk (qw_v k s sg bg NA NU ME BA ct d))
  | _ => .none
theorem qw_e (k s : Int) (sg bg : Bool) (NA NU ME BA : LL) (ct d : Int) : runF tab FT D50 live 73 noLoops [(true, [(.int .i64, TC.i k), (.int .i64, TC.i s), (.bool, TC.b sg), (.bool, TC.b bg), (.slice 9, TC.l NA), (.slice 2, TC.l NU), (.slice 71, TC.l ME), (.slice 32, TC.l BA), (.int .i64, TC.i ct)]), (false, [(.int .i64, TC.i d)])] = (qw_t k s sg bg NA NU ME BA ct d).run fun p => some (qw_mk p) := by kernel_rfl
theorem qw_s : ∀ xs r, qw_S xs = some (true, r) → runF tab FT D50 live 73 noLoops xs = some r := by
  intro xs r h
  unfold qw_S at h
  split at h
  · simp only [Option.some.injEq, Prod.mk.injEq] at h
    obtain ⟨h1, rfl⟩ := h
    exact fun_told (qw_e _ _ _ _ _ _ _ _ _ _) (qw_l _ _ _ _ _ _ _ _ _ _) h1
  · cases h
theorem qw_nx (k s : Int) (sg bg : Bool) (NA NU ME BA : LL) (ct d : Int) : is (max (rowsDep ME) (rowsDep BA) < qw_O.n + 1 ∧ d ≤ 3 ∧ max (rowsDep ME) (rowsDep BA) < qba_O.n ∧ max (rowsDep ME) (rowsDep BA) < qy_O.n ∧ Typed tab (.slice 9) (.l NA) ∧ Typed tab (.slice 2) (.l NU) ∧ Typed tab (.slice 71) (.l ME) ∧ Typed tab (.slice 32) (.l BA)) = true → (qw_c k s sg bg NA NU ME BA ct d) = true ∧ (qw_v k s sg bg NA NU ME BA ct d) = validV k s sg bg NA NU ME BA ct d := by
  intro h
  obtain ⟨hM, hd, hS, hZ, t4, t5, t6, t7⟩ := is_iff.1 h
  by_cases hd1 : d < 1
  · refine ⟨by unfold qw_c; rw [decide_eq_true hd1]; rfl, ?_⟩
    unfold qw_v validV
    rw [decide_eq_true hd1]
    show false = _
    cases hk : okV k s sg bg NA NU ME BA ct with
    | false => rfl
    | true => have := okV_pos hk; rw [decide_eq_false (by omega)]; rfl
  have hsame : ∀ (k' s' : Int) (sg' bg' : Bool) (A B C D : LL) (ct' : Int), Typed tab (.slice 9) (.l A) → Typed tab (.slice 2) (.l B) → Typed tab (.slice 71) (.l C) → Typed tab (.slice 32) (.l D) → qba_rc k s sg bg NA NU ME BA ct k' s' sg' bg' A B C D ct' = true :=
    fun _ _ _ _ _ _ _ _ _ a b c e => is_true ⟨by omega, t4, t5, t6, t7, a, b, c, e⟩
  have hv : ∀ (k' s' : Int) (sg' bg' : Bool) (A B C D : LL) (ct' : Int), qba_rv k s sg bg NA NU ME BA ct k' s' sg' bg' A B C D ct' = sameV k s sg bg NA NU ME BA ct k' s' sg' bg' A B C D ct' := fun _ _ _ _ _ _ _ _ _ => rfl
  have z4 : Typed tab (.slice 9) (.l []) := typed_none
  have z5 : Typed tab (.slice 2) (.l []) := typed_none
  have z6 : Typed tab (.slice 71) (.l []) := typed_none
  have z7 : Typed tab (.slice 32) (.l []) := typed_none
  have w1 : IntKind.wrap .i64 (d - 1) = d - 1 := wrap64 (by omega) (by omega)
  have e0 : decide (d < 1) = false := decide_eq_false hd1
  have hbase : ∀ d', d' ≤ 3 → 0 < BA.length → qw_rc (nth (row BA (0 : Int)) 0).int (nth (row BA (0 : Int)) 1).int (nth (row BA (0 : Int)) 2).bool (nth (row BA (0 : Int)) 3).bool (nth (row BA (0 : Int)) 4).list (nth (row BA (0 : Int)) 5).list (nth (row BA (0 : Int)) 6).list (nth (row BA (0 : Int)) 7).list (nth (row BA (0 : Int)) 8).int d' = true := fun d' hd' hb => by
    have := dep_base (ME := ME) hb 6 7
    exact is_true ⟨by omega, hd', by omega, by omega, typed_list ((typed_elem t7 (mem_getD (i := 0) hb)).2 4 (by decide)), typed_list ((typed_elem t7 (mem_getD (i := 0) hb)).2 5 (by decide)), typed_list ((typed_elem t7 (mem_getD (i := 0) hb)).2 6 (by decide)), typed_list ((typed_elem t7 (mem_getD (i := 0) hb)).2 7 (by decide))⟩
  unfold qw_c qw_v
  rw [e0, w1]
  by_cases k1 : k = 1
  · subst k1
    rw [show qbm_v 1 s sg bg NA NU ME BA ct = (1, s, sg, bg, [], [], [], [], 0) from rfl]
    refine ⟨?_, ?_⟩
    · simp only [hsame _ _ _ _ _ _ _ _ _ z4 z5 z6 z7, qbx_cc1, Int.reduceBEq, cond_true, cond_false, Bool.true_and, Bool.and_true, bif_same]
    · rw [← pure1 (by omega)]
      simp only [hv, qbx_vv, Int.reduceBEq, cond_true, cond_false]
  by_cases k2 : k = 2
  · subst k2
    rw [show qbm_v 2 s sg bg NA NU ME BA ct = (2, s, false, false, [], [], [], [], 0) from rfl]
    refine ⟨?_, ?_⟩
    · simp only [hsame _ _ _ _ _ _ _ _ _ z4 z5 z6 z7, Int.reduceBEq, cond_true, cond_false, Bool.true_and, Bool.and_true, bif_same]
    · rw [valid_2 (by omega), ← pureB (k := 2) (s := s)]
      simp only [hv, Int.reduceBEq, cond_true, cond_false]
      rfl
  by_cases k6 : k = 6
  · subst k6
    rw [show qbm_v 6 s sg bg NA NU ME BA ct = (6, s, false, false, [], [], [], [], 0) from rfl]
    refine ⟨?_, ?_⟩
    · simp only [hsame _ _ _ _ _ _ _ _ _ z4 z5 z6 z7, Int.reduceBEq, cond_true, cond_false, Bool.true_and, Bool.and_true, bif_same]
    · rw [valid_6 (by omega), ← pureB (k := 6) (s := s)]
      simp only [hv, Int.reduceBEq, cond_true, cond_false]
  by_cases k3 : k = 3
  · subst k3
    rw [show qbm_v 3 s sg bg NA NU ME BA ct = (3, 0, false, false, NA, NU, [], BA, 0) from rfl]
    refine ⟨?_, ?_⟩
    · have hl : NU.length ≤ 140737488351232 := by have := typed_room t5; simp only [show (tab 2).bytes = 8 from rfl] at this; omega
      simp only [hsame _ _ _ _ _ _ _ _ _ t4 t5 z6 t7, qv_cc (hbase 1 (by omega)) t4 hl, Int.reduceBEq, cond_true, cond_false, Bool.true_and, Bool.and_true, bif_same]
    · rw [← pure3 (by omega)]
      simp only [hv, qv_vv, Int.reduceBEq, cond_true, cond_false]
  by_cases k4 : k = 4
  · subst k4
    rw [show qbm_v 4 s sg bg NA NU ME BA ct = (4, s, false, false, [], [], ME, [], 0) from rfl]
    refine ⟨?_, ?_⟩
    · have hr : ∀ x, x ∈ ME → qw_rc (nth x 2).int (nth x 3).int (nth x 4).bool (nth x 5).bool (nth x 6).list (nth x 7).list (nth x 8).list (nth x 9).list (nth x 10).int (d - 1) = true := fun x hx => by
        have := dep_max (BA := BA) hx 8 9
        exact is_true ⟨by omega, by omega, by omega, by omega, typed_list ((typed_elem t6 hx).2 6 (by decide)), typed_list ((typed_elem t6 hx).2 7 (by decide)), typed_list ((typed_elem t6 hx).2 8 (by decide)), typed_list ((typed_elem t6 hx).2 9 (by decide))⟩
      have hz : ∀ x, x ∈ ME → (!(qw_rv (nth x 2).int (nth x 3).int (nth x 4).bool (nth x 5).bool (nth x 6).list (nth x 7).list (nth x 8).list (nth x 9).list (nth x 10).int (d - 1))) = false → qy_rc (nth x 2).int (nth x 3).int (nth x 4).bool (nth x 5).bool (nth x 6).list (nth x 7).list (nth x 8).list (nth x 9).list (nth x 10).int = true := fun x hx hk => by
        have := dep_max (BA := BA) hx 8 9
        have hk : qw_rv (nth x 2).int (nth x 3).int (nth x 4).bool (nth x 5).bool (nth x 6).list (nth x 7).list (nth x 8).list (nth x 9).list (nth x 10).int (d - 1) = true := by simpa using hk
        have hk : (okV (nth x 2).int (nth x 3).int (nth x 4).bool (nth x 5).bool (nth x 6).list (nth x 7).list (nth x 8).list (nth x 9).list (nth x 10).int && decide (depthV (nth x 2).int (nth x 8).list (nth x 9).list ≤ d - 1)) = true := hk
        rw [Bool.and_eq_true] at hk
        exact is_true ⟨by omega, (okV_isize hk.1).2⟩
      simp only [hsame _ _ _ _ _ _ _ _ _ z4 z5 t6 z7, qd_cc t6 hr hz, Int.reduceBEq, cond_true, cond_false, Bool.true_and, Bool.and_true, bif_same]
    · rw [← pure4 (by omega) hd]
      simp only [hv, qd_vv, Int.reduceBEq, cond_true, cond_false]
  by_cases k5 : k = 5
  · subst k5
    rw [show qbm_v 5 s sg bg NA NU ME BA ct = (5, 0, false, false, [], [], [], BA, ct) from rfl]
    refine ⟨?_, ?_⟩
    · simp only [hsame _ _ _ _ _ _ _ _ _ z4 z5 z6 t7, Int.reduceBEq, cond_true, cond_false, Bool.true_and, Bool.and_true]
      cases hb : ((BA.length : Int) == 1) with
      | false => simp only [cond_false, bif_same]
      | true =>
        have hb0 : 0 < BA.length := by have := beq_iff_eq.1 hb; omega
        rw [hbase (d - 1) (by omega) hb0, show is ((0 : Int) ≤ (0 : Int) ∧ (0 : Int) < (BA.length : Int)) = true from is_true (by constructor <;> omega)]
        cases hk : qw_rv (nth (row BA (0 : Int)) 0).int (nth (row BA (0 : Int)) 1).int (nth (row BA (0 : Int)) 2).bool (nth (row BA (0 : Int)) 3).bool (nth (row BA (0 : Int)) 4).list (nth (row BA (0 : Int)) 5).list (nth (row BA (0 : Int)) 6).list (nth (row BA (0 : Int)) 7).list (nth (row BA (0 : Int)) 8).int (d - 1) with
        | false => simp only [cond_true, cond_false, Bool.true_and, bif_same]
        | true =>
          have hk' : (okV (nth (row BA (0 : Int)) 0).int (nth (row BA (0 : Int)) 1).int (nth (row BA (0 : Int)) 2).bool (nth (row BA (0 : Int)) 3).bool (nth (row BA (0 : Int)) 4).list (nth (row BA (0 : Int)) 5).list (nth (row BA (0 : Int)) 6).list (nth (row BA (0 : Int)) 7).list (nth (row BA (0 : Int)) 8).int && decide (depthV (nth (row BA (0 : Int)) 0).int (nth (row BA (0 : Int)) 6).list (nth (row BA (0 : Int)) 7).list ≤ d - 1)) = true := hk
          rw [Bool.and_eq_true] at hk'
          have hsz : qy_rc 5 s sg bg NA NU ME BA ct = true := is_true ⟨by omega, by
            rw [isizeC]
            show (if h : 0 < BA.length then isizeC (nth (row BA (0 : Int)) 0).int (nth (row BA (0 : Int)) 7).list else false) = true
            rw [dif_pos hb0]; exact (okV_isize hk'.1).2⟩
          simp only [hsz, cond_true, Bool.true_and, bif_same]
    · rw [← pure5 (by omega) hd]
      simp only [hv, Int.reduceBEq, cond_true, cond_false, show qcd_v ct 1 4 = inB ct 1 4 from rfl, show qw_rv (nth (row BA (0 : Int)) 0).int (nth (row BA (0 : Int)) 1).int (nth (row BA (0 : Int)) 2).bool (nth (row BA (0 : Int)) 3).bool (nth (row BA (0 : Int)) 4).list (nth (row BA (0 : Int)) 5).list (nth (row BA (0 : Int)) 6).list (nth (row BA (0 : Int)) 7).list (nth (row BA (0 : Int)) 8).int (d - 1) = validV (nth (row BA (0 : Int)) 0).int (nth (row BA (0 : Int)) 1).int (nth (row BA (0 : Int)) 2).bool (nth (row BA (0 : Int)) 3).bool (nth (row BA (0 : Int)) 4).list (nth (row BA (0 : Int)) 5).list (nth (row BA (0 : Int)) 6).list (nth (row BA (0 : Int)) 7).list (nth (row BA (0 : Int)) 8).int (d - 1) from rfl, show qy_rv 5 s sg bg NA NU ME BA ct = isizeV 5 s BA ct from rfl, bif_ft]
  have e1 : (k == 1) = false := by simpa using k1
  have e2 : (k == 2) = false := by simpa using k2
  have e3 : (k == 3) = false := by simpa using k3
  have e4 : (k == 4) = false := by simpa using k4
  have e5 : (k == 5) = false := by simpa using k5
  have e6 : (k == 6) = false := by simpa using k6
  have ho : qbm_v k s sg bg NA NU ME BA ct = (k, 0, false, false, [], [], [], [], 0) := by
    unfold qbm_v
    simp only [e1, e2, e3, e4, e5, e6, cond_false]
  have hn : validV k s sg bg NA NU ME BA ct d = false := by
    unfold validV
    cases hk : okV k s sg bg NA NU ME BA ct with
    | false => rfl
    | true => have := okV_kind hk; omega
  rw [ho, hn]
  simp only [e1, e2, e3, e4, e5, e6, hsame _ _ _ _ _ _ _ _ _ z4 z5 z6 z7, cond_false, Bool.true_and, bif_same, and_self]
theorem qw_nxr (k s : Int) (sg bg : Bool) (NA NU ME BA : LL) (ct d : Int) : qw_rc (i_impl_Type_valid := ⟨qw_O.n + 1⟩) k s sg bg NA NU ME BA ct d = true → (qw_c k s sg bg NA NU ME BA ct d) = true ∧ (qw_v k s sg bg NA NU ME BA ct d) = (qw_rv k s sg bg NA NU ME BA ct d) := fun h => qw_nx k s sg bg NA NU ME BA ct d h
theorem qw_rs : ∀ xs r, qw_rS (i_impl_Type_valid := ⟨qw_O.n + 1⟩) xs = some (true, r) → runF tab FT D50 live 73 noLoops xs = some r := by
  intro xs r h
  unfold qw_rS at h
  split at h
  · simp only [Option.some.injEq, Prod.mk.injEq] at h
    obtain ⟨h1, rfl⟩ := h
    have hx := qw_nxr _ _ _ _ _ _ _ _ _ _ h1
    have ht := fun_told (qw_e _ _ _ _ _ _ _ _ _ _) (qw_l _ _ _ _ _ _ _ _ _ _) hx.1
    rw [hx.2] at ht
    exact ht
  · cases h
theorem qw_step : qw_G (i_impl_Type_valid := ⟨qw_O.n + 1⟩) := by
  have h := DOk.also2 (S := qw_rS (i_impl_Type_valid := ⟨qw_O.n + 1⟩)) mixed_ok tab_ok names_ok d42 d50 noLoops_ok qw_rs
  refine qw_G.mk (i_impl_Type_valid := ⟨qw_O.n + 1⟩) ?_
  exact h
noncomputable def qby_t (k s : Int) (sg bg : Bool) (NA NU ME BA : LL) (ct : Int) : Tr (Bool) := (.ite ((qw_rc k s sg bg NA NU ME BA ct (3 : Int)) = true) (.ok (qw_rv k s sg bg NA NU ME BA ct (3 : Int)))
  .no)
def qby_mk (p : Bool) : Res := [(false, [⟨.bool, .sh, TC.b p⟩])]
noncomputable def qby_c (k s : Int) (sg bg : Bool) (NA NU ME BA : LL) (ct : Int) : Bool := ((qw_rc k s sg bg NA NU ME BA ct (3 : Int)) && true)
noncomputable def qby_v (k s : Int) (sg bg : Bool) (NA NU ME BA : LL) (ct : Int) : Bool := (qw_rv k s sg bg NA NU ME BA ct (3 : Int))
theorem qby_l (k s : Int) (sg bg : Bool) (NA NU ME BA : LL) (ct : Int) : (qby_c k s sg bg NA NU ME BA ct) = true → (qby_t k s sg bg NA NU ME BA ct).val = some (qby_v k s sg bg NA NU ME BA ct) := by
  unfold qby_t qby_v qby_c
  exact fun h => (Tr.gb h fun h => rfl)
noncomputable def qby_S : List Arg → Option (Bool × Res) := fun xs => match xs with
  | [(true, [(.int .i64, TC.i k), (.int .i64, TC.i s), (.bool, TC.b sg), (.bool, TC.b bg), (.slice 9, TC.l NA), (.slice 2, TC.l NU), (.slice 71, TC.l ME), (.slice 32, TC.l BA), (.int .i64, TC.i ct)])] => some ((qby_c k s sg bg NA NU ME BA ct), qby_mk (qby_v k s sg bg NA NU ME BA ct))
  | _ => .none
theorem qby_e (k s : Int) (sg bg : Bool) (NA NU ME BA : LL) (ct : Int) : runF tab FT D50 live 36 noLoops [(true, [(.int .i64, TC.i k), (.int .i64, TC.i s), (.bool, TC.b sg), (.bool, TC.b bg), (.slice 9, TC.l NA), (.slice 2, TC.l NU), (.slice 71, TC.l ME), (.slice 32, TC.l BA), (.int .i64, TC.i ct)])] = (qby_t k s sg bg NA NU ME BA ct).run fun p => some (qby_mk p) := by kernel_rfl
theorem qby_s : ∀ xs r, qby_S xs = some (true, r) → runF tab FT D50 live 36 noLoops xs = some r := by
  intro xs r h
  unfold qby_S at h
  split at h
  · simp only [Option.some.injEq, Prod.mk.injEq] at h
    obtain ⟨h1, rfl⟩ := h
    exact fun_told (qby_e _ _ _ _ _ _ _ _ _) (qby_l _ _ _ _ _ _ _ _ _) h1
  · cases h
noncomputable def D51 : Dt := also D50 36 qby_S
theorem d51 : DOk Go.Proofs.Try.prog tab D51 := d50.also mixed_ok tab_ok names_ok noLoops_ok qby_s
theorem qby_cc {k : Int} {s : Int} {sg : Bool} {bg : Bool} {NA : LL} {NU : LL} {ME : LL} {BA : LL} {ct : Int} (h : qw_rc k s sg bg NA NU ME BA ct 3 = true) : (qby_c k s sg bg NA NU ME BA ct) = true := by
  unfold qby_c
  refine andT (by exact h) ?_
  rfl
theorem qby_vv (k s : Int) (sg bg : Bool) (NA NU ME BA : LL) (ct : Int) : qby_v k s sg bg NA NU ME BA ct = okV k s sg bg NA NU ME BA ct := by
  show (okV k s sg bg NA NU ME BA ct && decide (depthV k ME BA ≤ 3)) = _
  cases h : okV k s sg bg NA NU ME BA ct with
  | false => rfl
  | true => rw [decide_eq_true (okV_top h).2]; rfl
abbrev qk_3_σ := Int × LL × Int × Int
abbrev qk_3_ω := (LL)
noncomputable def qk_3_step (n : Int) (X : LL) (m k : Int) : Tr (qk_3_σ ⊕ qk_3_ω) := (.ite ((decide (k < m)) = true) (.ite (0 ≤ (IntKind.wrap .i64 ((8 : Int) * k))) (.ite ((0 : Int) ≤ k ∧ k < (X.length : Int)) (.ok (.inl (n, (X.set (k).toNat (splice (row X k) 0 [TC.i (IntKind.wrap .u8 (Int.fdiv n (2 ^ (min ((IntKind.wrap .i64 ((8 : Int) * k))).toNat 64))))])), m, (IntKind.wrap .i64 (k + (1 : Int))))))
    .no)
   .no)
  (.ok (.inr X)))
noncomputable def qk_3_st : qk_3_σ → Tr (qk_3_σ ⊕ qk_3_ω) := fun x => (qk_3_step (x.1) (x.2.1) (x.2.2.1) (x.2.2.2))
noncomputable def qk_o3_1 (n : Int) (X : LL) (m k : Int) : Bool := is (∃ sz : Nat, m = (sz : Int) ∧ sz ≤ 8 ∧ X = List.replicate sz [TC.i 0] ∧ k = 0)
noncomputable def qk_u3_1 (n : Int) (X : LL) (m k : Int) : LL := bRows n m.toNat
noncomputable def qk_3_fin (n : Int) (X : LL) (m k : Int) : Told qk_3_ω := (.leaf (qk_o3_1 n X m k) (qk_u3_1 n X m k))
def qk_3_sl (x : qk_3_σ) : List Slot := [⟨.val false [⟨.int .i64, .sh, TC.i (x.1)⟩], ⟨0, 0⟩⟩, ⟨.val false [⟨.slice 5, .own true, TC.l (x.2.1)⟩], ⟨0, 0⟩⟩, ⟨.val false [⟨.int .i64, .sh, TC.i (x.2.2.1)⟩], ⟨0, 0⟩⟩, ⟨.val false [⟨.int .i64, .sh, TC.i (x.2.2.2)⟩], ⟨0, 0⟩⟩]
def qk_3_out : qk_3_ω → Ex × List Slot := (fun x => (.exit 0, [Slot.none, ⟨.val false [⟨.slice 5, .own true, TC.l x⟩], ⟨0, 0⟩⟩]))
noncomputable def qk_lo3 : List Slot → Option (Told (Ex × List Slot)) := fun s => match s with
  | [⟨.val false [⟨.int .i64, .sh, TC.i n⟩], ⟨0, 0⟩⟩, ⟨.val false [⟨.slice 5, .own true, TC.l X⟩], ⟨0, 0⟩⟩, ⟨.val false [⟨.int .i64, .sh, TC.i m⟩], ⟨0, 0⟩⟩, ⟨.val false [⟨.int .i64, .sh, TC.i k⟩], ⟨0, 0⟩⟩] => some (((qk_3_fin n X m k)).map qk_3_out)
  | _ => .none
noncomputable def qk_lo : LoopTeller := fun r s => bif Nat.beq r 3 then qk_lo3 s else .none
theorem qk_3_r (n : Int) (X : LL) (m k : Int) (fuel : Nat) : rounds (rnd tab FT D51 live 83 qk_lo 0 3) leave (fuel + 1) (qk_3_sl (n, X, m, k)) = ((qk_3_step n X m k)).run (goOn (fun s => rounds (rnd tab FT D51 live 83 qk_lo 0 3) leave fuel (qk_3_sl s)) fun w => some (qk_3_out w)) := by kernel_rfl
theorem qk_3_h (n : Int) (X : LL) (m k : Int) (ow : qk_3_ω) : ((qk_3_fin n X m k)).val = some ow → ∃ fuel, loopN qk_3_st fuel (n, X, m, k) = some ow := by
  intro h
  refine auto_leaf (R := bRows n m.toNat) (fun ho => ?_) h
  obtain ⟨sz, rfl, h8, rfl, rfl⟩ := is_iff.1 ho
  rw [wr_zero (n := n)]
  refine ⟨sz + 1, loopN_run (step := qk_3_st) (N := sz) (fun j => (n, (wr sz (bAt n) (fun _ => [TC.i 0]) (fun p => decide (p < j))), (sz : Int), (j : Int))) (fun j hj => ?_) ?_ sz 0 (by omega)⟩
  · have e := wr_step (L := sz) (p0 := j) (F := bAt n) (O := fun _ => [TC.i 0]) (vis := fun p => decide (p < j)) (vis' := fun p => decide (p < j + 1)) hj (fun _ => rfl) (fun _ => rfl) (fun p _ => by
      rw [Bool.eq_iff_iff]; simp only [Bool.or_eq_true, decide_eq_true_eq, beq_iff_eq]; omega)
    show (qk_3_step n (wr sz (bAt n) (fun _ => [TC.i 0]) (fun p => decide (p < j))) (sz : Int) (j : Int)).val = _
    unfold qk_3_step
    rw [bAt_i64 (by omega)]
    refine Tr.t (by simp; omega) ?_
    refine Tr.t (by rw [wrap64 (by omega) (by omega)]; omega) ?_
    refine Tr.t ⟨by omega, by rw [wr_len]; omega⟩ ?_
    rw [Tr.val_ok, wrap64 (i := (j : Int) + 1) (by omega) (by omega)]
    show some (Sum.inl (n, (wr sz (bAt n) (fun _ => [TC.i 0]) (fun p => decide (p < j))).set j (splice ((wr sz (bAt n) (fun _ => [TC.i 0]) (fun p => decide (p < j))).getD j []) 0 (bAt n j)), (sz : Int), ((j + 1 : Nat) : Int))) = _
    rw [e]
  · show (qk_3_step n (wr sz (bAt n) (fun _ => [TC.i 0]) (fun p => decide (p < sz))) (sz : Int) (sz : Int)).val = _
    refine Tr.n (by simp) ?_
    rw [wr_bRows]
    rfl
theorem qk_is3 : LoopIs tab FT D51 live 83 qk_lo 0 3 := by
  refine loop_told (sl := qk_3_sl) (step := qk_3_st) (out := qk_3_out) (lor := qk_lo3) (fin := fun x => (qk_3_fin (x.1) (x.2.1) (x.2.2.1) (x.2.2.2))) (fun _ => rfl) ?_ (fun x n => qk_3_r x.1 x.2.1 x.2.2.1 x.2.2.2 n) (fun x ow => qk_3_h x.1 x.2.1 x.2.2.1 x.2.2.2 ow)
  intro s t h
  unfold qk_lo3 at h
  split at h
  · cases h; exact ⟨(_, _, _, _), rfl, rfl⟩
  · cases h
noncomputable def qk_t (n size : Int) : Tr (BS) := (.ite (0 ≤ size ∧ size ≤ size ∧ size * 1 ≤ 140737488355328 ∧ size ≤ 140737488355328) (.ite ((qk_o3_1 n (List.replicate (size).toNat [TC.i (0 : Int)]) ((List.replicate (size).toNat [TC.i (0 : Int)]).length : Int) (0 : Int)) = true) (.ok ((qk_u3_1 n (List.replicate (size).toNat [TC.i (0 : Int)]) ((List.replicate (size).toNat [TC.i (0 : Int)]).length : Int) (0 : Int)).map byteOf))
   .no)
  .no)
def qk_mk (p : BS) : Res := [(false, [⟨.str, .sh, TC.s p⟩])]
noncomputable def qk_c (n size : Int) : Bool := is (∃ sz : Nat, size = (sz : Int) ∧ sz ≤ 8)
noncomputable def qk_v (n size : Int) : BS := hid (bytesL n size.toNat)
theorem qk_l (n size : Int) : (qk_c n size) = true → (qk_t n size).val = some (qk_v n size) := by
  intro h
  obtain ⟨sz, rfl, h8⟩ := is_iff.1 h
  unfold qk_t
  refine Tr.t (by omega) ?_
  refine Tr.t (is_true ⟨sz, by simp, h8, rfl, rfl⟩) ?_
  unfold qk_v
  rw [hid_eq]; simp; rfl
noncomputable def qk_S : List Arg → Option (Bool × Res) := fun xs => match xs with
  | [(false, [(.int .i64, TC.i n)]), (false, [(.int .i64, TC.i size)])] => some ((qk_c n size), qk_mk (qk_v n size))
  | _ => .none
theorem qk_e (n size : Int) : runF tab FT D51 live 83 qk_lo [(false, [(.int .i64, TC.i n)]), (false, [(.int .i64, TC.i size)])] = (qk_t n size).run fun p => some (qk_mk p) := by kernel_rfl
theorem qk_s : ∀ xs r, qk_S xs = some (true, r) → runF tab FT D51 live 83 qk_lo xs = some r := by
  intro xs r h
  unfold qk_S at h
  split at h
  · simp only [Option.some.injEq, Prod.mk.injEq] at h
    obtain ⟨h1, rfl⟩ := h
    exact fun_told (qk_e _ _) (qk_l _ _) h1
  · cases h
noncomputable def D52 : Dt := also D51 83 qk_S
theorem d52 : DOk Go.Proofs.Try.prog tab D52 := d51.also mixed_ok tab_ok names_ok (fnLoops_one (by kernel_rfl) qk_is3) qk_s
theorem qk_h {n size : Int} : qk_v n size = bytesL n size.toNat := hid_eq _
theorem qk_len {n : Int} {sz : Nat} : (qk_v n (sz : Int)).length = sz := by rw [qk_h]; exact bytesL_len
noncomputable def qci_t (a0 : Bool) : Tr (Int) := (.ite (a0 = true) (.ok (1 : Int))
  (.ok (0 : Int)))
def qci_mk (p : Int) : Res := [(false, [⟨.int .i64, .sh, TC.i p⟩])]
noncomputable def qci_c (a0 : Bool) : Bool := true
noncomputable def qci_v (a0 : Bool) : Int := (bif a0 then (1 : Int) else (0 : Int))
theorem qci_l (a0 : Bool) : (qci_c a0) = true → (qci_t a0).val = some (qci_v a0) := by
  intro h
  skip
  unfold qci_t qci_v
  exact (Tr.s rfl rfl)
noncomputable def qci_S : List Arg → Option (Bool × Res) := fun xs => match xs with
  | [(false, [(.bool, TC.b a0)])] => some (true, qci_mk (qci_v a0))
  | _ => .none
theorem qci_e (a0 : Bool) : runF tab FT D52 live 84 noLoops [(false, [(.bool, TC.b a0)])] = (qci_t a0).run fun p => some (qci_mk p) := by kernel_rfl
theorem qci_s : ∀ xs r, qci_S xs = some (true, r) → runF tab FT D52 live 84 noLoops xs = some r := by
  intro xs r h
  unfold qci_S at h
  split at h
  · simp only [Option.some.injEq, Prod.mk.injEq] at h
    obtain ⟨h1, rfl⟩ := h
    exact fun_told (qci_e _) (qci_l _) rfl
  · cases h
noncomputable def D53 : Dt := also D52 84 qci_S
theorem d53 : DOk Go.Proofs.Try.prog tab D53 := d52.also mixed_ok tab_ok names_ok noLoops_ok qci_s
section
class qe_O where n : Nat
variable [i_impl_Type_encode : qe_O]
noncomputable def qe_rc (k s : Int) (sg bg : Bool) (NA NU ME BA : LL) (ct : Int) : Bool := is (max (rowsDep ME) (rowsDep BA) < qe_O.n ∧ okV k s sg bg NA NU ME BA ct = true)
noncomputable def qe_rv (k s : Int) (sg bg : Bool) (NA NU ME BA : LL) (ct : Int) : BS := encV k s sg bg NA NU ME BA ct
def qe_rmk (p : BS) : Res := [(false, [⟨.str, .sh, TC.s p⟩])]
noncomputable def qe_rS : List Arg → Option (Bool × Res) := fun xs => match xs with
  | [(true, [(.int .i64, TC.i k), (.int .i64, TC.i s), (.bool, TC.b sg), (.bool, TC.b bg), (.slice 9, TC.l NA), (.slice 2, TC.l NU), (.slice 71, TC.l ME), (.slice 32, TC.l BA), (.int .i64, TC.i ct)])] => some ((qe_rc k s sg bg NA NU ME BA ct), qe_rmk (qe_rv k s sg bg NA NU ME BA ct))
  | _ => .none
noncomputable def D54 : Dt := also D53 53 qe_rS
class qe_G : Prop where ok : DOk Go.Proofs.Try.prog tab D54
variable [g_impl_Type_encode : qe_G]
theorem d54 : DOk Go.Proofs.Try.prog tab D54 := qe_G.ok
noncomputable def qcc_t (s : BS) : Tr (BS) := (.ite ((qk_c (s.length : Int) (1 : Int)) = true) (.ite ((((qk_v (s.length : Int) (1 : Int)).length + s.length : Nat) : Int) ≤ 9223372036854775807) (.ok ((qk_v (s.length : Int) (1 : Int)) ++ s))
   .no)
  .no)
def qcc_mk (p : BS) : Res := [(false, [⟨.str, .sh, TC.s p⟩])]
noncomputable def qcc_c (s : BS) : Bool := is (((qk_c (s.length : Int) (1 : Int)) = true) ∧ ((((qk_v (s.length : Int) (1 : Int)).length + s.length : Nat) : Int) ≤ 9223372036854775807))
noncomputable def qcc_v (s : BS) : BS := ((qk_v (s.length : Int) (1 : Int)) ++ s)
theorem qcc_l (s : BS) : (qcc_c s) = true → (qcc_t s).val = some (qcc_v s) := by
  intro h
  obtain ⟨hc0, hc1⟩ := is_iff.1 h
  unfold qcc_t
  exact (Tr.t hc0 (Tr.t hc1 rfl))
noncomputable def qcc_S : List Arg → Option (Bool × Res) := fun xs => match xs with
  | [(false, [(.str, TC.s s)])] => some ((qcc_c s), qcc_mk (qcc_v s))
  | _ => .none
theorem qcc_e (s : BS) : runF tab FT D54 live 85 noLoops [(false, [(.str, TC.s s)])] = (qcc_t s).run fun p => some (qcc_mk p) := by kernel_rfl
theorem qcc_s : ∀ xs r, qcc_S xs = some (true, r) → runF tab FT D54 live 85 noLoops xs = some r := by
  intro xs r h
  unfold qcc_S at h
  split at h
  · simp only [Option.some.injEq, Prod.mk.injEq] at h
    obtain ⟨h1, rfl⟩ := h
    exact fun_told (qcc_e _) (qcc_l _) h1
  · cases h
noncomputable def D55 : Dt := also D54 85 qcc_S
theorem d55 : DOk Go.Proofs.Try.prog tab D55 := d54.also mixed_ok tab_ok names_ok noLoops_ok qcc_s
theorem pb1 {n : Int} : qk_c n (1 : Int) = true := is_true ⟨1, rfl, by omega⟩
theorem pb8 {n : Int} : qk_c n (8 : Int) = true := is_true ⟨8, rfl, by omega⟩
theorem pbh1 {n : Int} : qk_v n (1 : Int) = bytesL n 1 := qk_h
theorem pbh8 {n : Int} : qk_v n (8 : Int) = bytesL n 8 := qk_h
theorem qcc_h {s : BS} : qcc_v s = bytesL (s.length : Int) 1 ++ s := by unfold qcc_v; rw [pbh1]
theorem qcc_cc {s : BS} (h : s.length ≤ 1000) : qcc_c s = true := is_true ⟨pb1, by rw [pbh1, bytesL_len]; omega⟩
theorem truths (sg bg : Bool) : IntKind.wrap .i64 ((qci_v sg) + (IntKind.wrap .i64 ((2 : Int) * (qci_v bg)))) = flg sg bg := by
  cases sg <;> cases bg <;> rfl
abbrev qe_17_σ := Int × Int × Bool × Bool × LL × LL × LL × LL × Int × BS × LL × Int × Int
abbrev qe_17_ω := (BS)
noncomputable def qe_17_step (k s : Int) (sg bg : Bool) (NA NU ME BA : LL) (ct : Int) (o : BS) (X : LL) (m i : Int) : Tr (qe_17_σ ⊕ qe_17_ω) := (.ite ((decide (i < m)) = true) (.ite ((0 : Int) ≤ i ∧ i < (X.length : Int)) (.ite ((qcc_c ((nth (row X i) 0).str)) = true) (.ite ((qk_c ((nth (row X i) 1).int) (1 : Int)) = true) (.ite ((((qcc_v ((nth (row X i) 0).str)).length + (qk_v ((nth (row X i) 1).int) (1 : Int)).length : Nat) : Int) ≤ 9223372036854775807) (.ite ((qe_rc ((nth (row X i) 2).int) ((nth (row X i) 3).int) ((nth (row X i) 4).bool) ((nth (row X i) 5).bool) ((nth (row X i) 6).list) ((nth (row X i) 7).list) ((nth (row X i) 8).list) ((nth (row X i) 9).list) ((nth (row X i) 10).int)) = true) (.ite (((((qcc_v ((nth (row X i) 0).str)) ++ (qk_v ((nth (row X i) 1).int) (1 : Int))).length + (qe_rv ((nth (row X i) 2).int) ((nth (row X i) 3).int) ((nth (row X i) 4).bool) ((nth (row X i) 5).bool) ((nth (row X i) 6).list) ((nth (row X i) 7).list) ((nth (row X i) 8).list) ((nth (row X i) 9).list) ((nth (row X i) 10).int)).length : Nat) : Int) ≤ 9223372036854775807) (.ite (((o.length + (((qcc_v ((nth (row X i) 0).str)) ++ (qk_v ((nth (row X i) 1).int) (1 : Int))) ++ (qe_rv ((nth (row X i) 2).int) ((nth (row X i) 3).int) ((nth (row X i) 4).bool) ((nth (row X i) 5).bool) ((nth (row X i) 6).list) ((nth (row X i) 7).list) ((nth (row X i) 8).list) ((nth (row X i) 9).list) ((nth (row X i) 10).int))).length : Nat) : Int) ≤ 9223372036854775807) (.ok (.inl (k, s, sg, bg, NA, NU, ME, BA, ct, (o ++ (((qcc_v ((nth (row X i) 0).str)) ++ (qk_v ((nth (row X i) 1).int) (1 : Int))) ++ (qe_rv ((nth (row X i) 2).int) ((nth (row X i) 3).int) ((nth (row X i) 4).bool) ((nth (row X i) 5).bool) ((nth (row X i) 6).list) ((nth (row X i) 7).list) ((nth (row X i) 8).list) ((nth (row X i) 9).list) ((nth (row X i) 10).int)))), X, m, (IntKind.wrap .i64 (i + (1 : Int))))))
         .no)
        .no)
       .no)
      .no)
     .no)
    .no)
   .no)
  (.ok (.inr o)))
noncomputable def qe_17_st : qe_17_σ → Tr (qe_17_σ ⊕ qe_17_ω) := fun x => (qe_17_step (x.1) (x.2.1) (x.2.2.1) (x.2.2.2.1) (x.2.2.2.2.1) (x.2.2.2.2.2.1) (x.2.2.2.2.2.2.1) (x.2.2.2.2.2.2.2.1) (x.2.2.2.2.2.2.2.2.1) (x.2.2.2.2.2.2.2.2.2.1) (x.2.2.2.2.2.2.2.2.2.2.1) (x.2.2.2.2.2.2.2.2.2.2.2.1) (x.2.2.2.2.2.2.2.2.2.2.2.2))
noncomputable def qe_o17_1 (k s : Int) (sg bg : Bool) (NA NU ME BA : LL) (ct : Int) (o : BS) (X : LL) (m i : Int) : Bool := is (i = 0 ∧ ME = X ∧ m = (ME.length : Int) ∧ ME.length ≤ 4 ∧ (∀ x : List TC, x ∈ ME → okV (nth x 2).int (nth x 3).int (nth x 4).bool (nth x 5).bool (nth x 6).list (nth x 7).list (nth x 8).list (nth x 9).list (nth x 10).int = true) ∧ (∀ x : List TC, x ∈ ME → (nth x 0).str.length ≤ 12) ∧ (∀ x : List TC, x ∈ ME → qe_rc (nth x 2).int (nth x 3).int (nth x 4).bool (nth x 5).bool (nth x 6).list (nth x 7).list (nth x 8).list (nth x 9).list (nth x 10).int = true) ∧ o.length ≤ 1000)
noncomputable def qe_u17_1 (k s : Int) (sg bg : Bool) (NA NU ME BA : LL) (ct : Int) (o : BS) (X : LL) (m i : Int) : BS := ME.foldl (fun o x => o ++ (memB x ++ encV (nth x 2).int (nth x 3).int (nth x 4).bool (nth x 5).bool (nth x 6).list (nth x 7).list (nth x 8).list (nth x 9).list (nth x 10).int)) o
noncomputable def qe_17_fin (k s : Int) (sg bg : Bool) (NA NU ME BA : LL) (ct : Int) (o : BS) (X : LL) (m i : Int) : Told qe_17_ω := (.leaf (qe_o17_1 k s sg bg NA NU ME BA ct o X m i) (qe_u17_1 k s sg bg NA NU ME BA ct o X m i))
def qe_17_sl (x : qe_17_σ) : List Slot := [⟨.bx 32 [⟨.int .i64, .sh, TC.i (x.1)⟩, ⟨.int .i64, .sh, TC.i (x.2.1)⟩, ⟨.bool, .sh, TC.b (x.2.2.1)⟩, ⟨.bool, .sh, TC.b (x.2.2.2.1)⟩, ⟨.slice 9, .sh, TC.l (x.2.2.2.2.1)⟩, ⟨.slice 2, .sh, TC.l (x.2.2.2.2.2.1)⟩, ⟨.slice 71, .sh, TC.l (x.2.2.2.2.2.2.1)⟩, ⟨.slice 32, .sh, TC.l (x.2.2.2.2.2.2.2.1)⟩, ⟨.int .i64, .sh, TC.i (x.2.2.2.2.2.2.2.2.1)⟩], ⟨0, 0⟩⟩, ⟨.val false [⟨.str, .sh, TC.s (x.2.2.2.2.2.2.2.2.2.1)⟩], ⟨0, 0⟩⟩, ⟨.val false [⟨.slice 71, .sh, TC.l (x.2.2.2.2.2.2.2.2.2.2.1)⟩], ⟨0, 0⟩⟩, ⟨.val false [⟨.int .i64, .sh, TC.i (x.2.2.2.2.2.2.2.2.2.2.2.1)⟩], ⟨0, 0⟩⟩, ⟨.val false [⟨.int .i64, .sh, TC.i (x.2.2.2.2.2.2.2.2.2.2.2.2)⟩], ⟨0, 0⟩⟩]
def qe_17_out : qe_17_ω → Ex × List Slot := (fun x => (.exit 3, [Slot.none, ⟨.val false [⟨.str, .sh, TC.s x⟩], ⟨0, 0⟩⟩]))
noncomputable def qe_lo17 : List Slot → Option (Told (Ex × List Slot)) := fun s => match s with
  | [⟨.bx 32 [⟨.int .i64, .sh, TC.i k⟩, ⟨.int .i64, .sh, TC.i s⟩, ⟨.bool, .sh, TC.b sg⟩, ⟨.bool, .sh, TC.b bg⟩, ⟨.slice 9, .sh, TC.l NA⟩, ⟨.slice 2, .sh, TC.l NU⟩, ⟨.slice 71, .sh, TC.l ME⟩, ⟨.slice 32, .sh, TC.l BA⟩, ⟨.int .i64, .sh, TC.i ct⟩], ⟨0, 0⟩⟩, ⟨.val false [⟨.str, .sh, TC.s o⟩], ⟨0, 0⟩⟩, ⟨.val false [⟨.slice 71, .sh, TC.l X⟩], ⟨0, 0⟩⟩, ⟨.val false [⟨.int .i64, .sh, TC.i m⟩], ⟨0, 0⟩⟩, ⟨.val false [⟨.int .i64, .sh, TC.i i⟩], ⟨0, 0⟩⟩] => some (((qe_17_fin k s sg bg NA NU ME BA ct o X m i)).map qe_17_out)
  | _ => .none
abbrev qe_10_σ := Int × Int × Bool × Bool × LL × LL × LL × LL × Int × BS × LL × Int × Int
abbrev qe_10_ω := (BS)
noncomputable def qe_10_step (k s : Int) (sg bg : Bool) (NA NU ME BA : LL) (ct : Int) (o : BS) (X : LL) (m i : Int) : Tr (qe_10_σ ⊕ qe_10_ω) := (.ite ((decide (i < m)) = true) (.ite ((0 : Int) ≤ i ∧ i < (X.length : Int)) (.ite ((qcc_c ((nth (row X i) 0).str)) = true) (.ite ((0 : Int) ≤ i ∧ i < (NU.length : Int)) (.ite ((qk_c ((nth (row NU i) 0).int) (8 : Int)) = true) (.ite ((((qcc_v ((nth (row X i) 0).str)).length + (qk_v ((nth (row NU i) 0).int) (8 : Int)).length : Nat) : Int) ≤ 9223372036854775807) (.ite (((o.length + ((qcc_v ((nth (row X i) 0).str)) ++ (qk_v ((nth (row NU i) 0).int) (8 : Int))).length : Nat) : Int) ≤ 9223372036854775807) (.ok (.inl (k, s, sg, bg, NA, NU, ME, BA, ct, (o ++ ((qcc_v ((nth (row X i) 0).str)) ++ (qk_v ((nth (row NU i) 0).int) (8 : Int)))), X, m, (IntKind.wrap .i64 (i + (1 : Int))))))
        .no)
       .no)
      .no)
     .no)
    .no)
   .no)
  (.ok (.inr o)))
noncomputable def qe_10_st : qe_10_σ → Tr (qe_10_σ ⊕ qe_10_ω) := fun x => (qe_10_step (x.1) (x.2.1) (x.2.2.1) (x.2.2.2.1) (x.2.2.2.2.1) (x.2.2.2.2.2.1) (x.2.2.2.2.2.2.1) (x.2.2.2.2.2.2.2.1) (x.2.2.2.2.2.2.2.2.1) (x.2.2.2.2.2.2.2.2.2.1) (x.2.2.2.2.2.2.2.2.2.2.1) (x.2.2.2.2.2.2.2.2.2.2.2.1) (x.2.2.2.2.2.2.2.2.2.2.2.2))
noncomputable def qe_o10_1 (k s : Int) (sg bg : Bool) (NA NU ME BA : LL) (ct : Int) (o : BS) (X : LL) (m i : Int) : Bool := is (i = 0 ∧ NA = X ∧ m = (NA.length : Int) ∧ NU.length = NA.length ∧ NA.length ≤ 6 ∧ (∀ i, i < NA.length → (nth (row NA (i : Int)) 0).str.length ≤ 12) ∧ o.length ≤ 1000)
noncomputable def qe_u10_1 (k s : Int) (sg bg : Bool) (NA NU ME BA : LL) (ct : Int) (o : BS) (X : LL) (m i : Int) : BS := o ++ enumB NA NU NA.length
noncomputable def qe_10_fin (k s : Int) (sg bg : Bool) (NA NU ME BA : LL) (ct : Int) (o : BS) (X : LL) (m i : Int) : Told qe_10_ω := (.leaf (qe_o10_1 k s sg bg NA NU ME BA ct o X m i) (qe_u10_1 k s sg bg NA NU ME BA ct o X m i))
def qe_10_sl (x : qe_10_σ) : List Slot := [⟨.bx 32 [⟨.int .i64, .sh, TC.i (x.1)⟩, ⟨.int .i64, .sh, TC.i (x.2.1)⟩, ⟨.bool, .sh, TC.b (x.2.2.1)⟩, ⟨.bool, .sh, TC.b (x.2.2.2.1)⟩, ⟨.slice 9, .sh, TC.l (x.2.2.2.2.1)⟩, ⟨.slice 2, .sh, TC.l (x.2.2.2.2.2.1)⟩, ⟨.slice 71, .sh, TC.l (x.2.2.2.2.2.2.1)⟩, ⟨.slice 32, .sh, TC.l (x.2.2.2.2.2.2.2.1)⟩, ⟨.int .i64, .sh, TC.i (x.2.2.2.2.2.2.2.2.1)⟩], ⟨0, 0⟩⟩, ⟨.val false [⟨.str, .sh, TC.s (x.2.2.2.2.2.2.2.2.2.1)⟩], ⟨0, 0⟩⟩, ⟨.val false [⟨.slice 9, .sh, TC.l (x.2.2.2.2.2.2.2.2.2.2.1)⟩], ⟨0, 0⟩⟩, ⟨.val false [⟨.int .i64, .sh, TC.i (x.2.2.2.2.2.2.2.2.2.2.2.1)⟩], ⟨0, 0⟩⟩, ⟨.val false [⟨.int .i64, .sh, TC.i (x.2.2.2.2.2.2.2.2.2.2.2.2)⟩], ⟨0, 0⟩⟩]
def qe_10_out : qe_10_ω → Ex × List Slot := (fun x => (.exit 1, [Slot.none, ⟨.val false [⟨.str, .sh, TC.s x⟩], ⟨0, 0⟩⟩]))
noncomputable def qe_lo10 : List Slot → Option (Told (Ex × List Slot)) := fun s => match s with
  | [⟨.bx 32 [⟨.int .i64, .sh, TC.i k⟩, ⟨.int .i64, .sh, TC.i s⟩, ⟨.bool, .sh, TC.b sg⟩, ⟨.bool, .sh, TC.b bg⟩, ⟨.slice 9, .sh, TC.l NA⟩, ⟨.slice 2, .sh, TC.l NU⟩, ⟨.slice 71, .sh, TC.l ME⟩, ⟨.slice 32, .sh, TC.l BA⟩, ⟨.int .i64, .sh, TC.i ct⟩], ⟨0, 0⟩⟩, ⟨.val false [⟨.str, .sh, TC.s o⟩], ⟨0, 0⟩⟩, ⟨.val false [⟨.slice 9, .sh, TC.l X⟩], ⟨0, 0⟩⟩, ⟨.val false [⟨.int .i64, .sh, TC.i m⟩], ⟨0, 0⟩⟩, ⟨.val false [⟨.int .i64, .sh, TC.i i⟩], ⟨0, 0⟩⟩] => some (((qe_10_fin k s sg bg NA NU ME BA ct o X m i)).map qe_10_out)
  | _ => .none
noncomputable def qe_lo : LoopTeller := fun r s => bif Nat.beq r 10 then qe_lo10 s else bif Nat.beq r 17 then qe_lo17 s else .none
theorem qe_17_r (k s : Int) (sg bg : Bool) (NA NU ME BA : LL) (ct : Int) (o : BS) (X : LL) (m i : Int) (fuel : Nat) : rounds (rnd tab FT D55 live 53 qe_lo 1 17) leave (fuel + 1) (qe_17_sl (k, s, sg, bg, NA, NU, ME, BA, ct, o, X, m, i)) = ((qe_17_step k s sg bg NA NU ME BA ct o X m i)).run (goOn (fun s => rounds (rnd tab FT D55 live 53 qe_lo 1 17) leave fuel (qe_17_sl s)) fun w => some (qe_17_out w)) := by kernel_rfl
theorem qe_17_h (k s : Int) (sg bg : Bool) (NA NU ME BA : LL) (ct : Int) (o : BS) (X : LL) (m i : Int) (ow : qe_17_ω) : ((qe_17_fin k s sg bg NA NU ME BA ct o X m i)).val = some ow → ∃ fuel, loopN qe_17_st fuel (k, s, sg, bg, NA, NU, ME, BA, ct, o, X, m, i) = some ow := by
  intro h
  refine auto_leaf (R := ME.foldl (fun o x => o ++ (memB x ++ encV (nth x 2).int (nth x 3).int (nth x 4).bool (nth x 5).bool (nth x 6).list (nth x 7).list (nth x 8).list (nth x 9).list (nth x 10).int)) o) (fun ho => ?_) h
  obtain ⟨rfl, rfl, rfl, h4, hok, hn, hr, hl⟩ := is_iff.1 ho
  have key := loopN_run (step := qe_17_st) (N := ME.length) (fun j => (k, s, sg, bg, NA, NU, ME, BA, ct, (ME.take j).foldl (fun o x => o ++ (memB x ++ encV (nth x 2).int (nth x 3).int (nth x 4).bool (nth x 5).bool (nth x 6).list (nth x 7).list (nth x 8).list (nth x 9).list (nth x 10).int)) o, ME, (ME.length : Int), (j : Int))) (w := ME.foldl (fun o x => o ++ (memB x ++ encV (nth x 2).int (nth x 3).int (nth x 4).bool (nth x 5).bool (nth x 6).list (nth x 7).list (nth x 8).list (nth x 9).list (nth x 10).int)) o) (fun j hj => ?_) ?_ ME.length 0 (by omega)
  · exact ⟨_, key⟩
  · have hx : row ME (j : Int) ∈ ME := by rw [row_nat]; exact mem_getD hj
    have hE := encV_big (hok _ hx)
    have hj12 := hn _ hx
    have hfl := fold_len (f := fun x => memB x ++ encV (nth x 2).int (nth x 3).int (nth x 4).bool (nth x 5).bool (nth x 6).list (nth x 7).list (nth x 8).list (nth x 9).list (nth x 10).int) (c := 25014) (l := ME.take j) (o := o) (fun x hx => by
      have hx := List.mem_of_mem_take hx
      have h1 := encV_big (hok x hx)
      have h2 := hn x hx
      unfold memB
      simp only [List.length_append, bytesL_len]
      omega)
    rw [List.length_take] at hfl
    have htk : ME.take (j + 1) = ME.take j ++ [row ME (j : Int)] := by rw [List.take_succ_eq_append_getElem hj, row_nat, getD_at hj]
    have hst : (ME.take (j + 1)).foldl (fun o x => o ++ (memB x ++ encV (nth x 2).int (nth x 3).int (nth x 4).bool (nth x 5).bool (nth x 6).list (nth x 7).list (nth x 8).list (nth x 9).list (nth x 10).int)) o = (ME.take j).foldl (fun o x => o ++ (memB x ++ encV (nth x 2).int (nth x 3).int (nth x 4).bool (nth x 5).bool (nth x 6).list (nth x 7).list (nth x 8).list (nth x 9).list (nth x 10).int)) o ++ (memB (row ME (j : Int)) ++ encV (nth (row ME (j : Int)) 2).int (nth (row ME (j : Int)) 3).int (nth (row ME (j : Int)) 4).bool (nth (row ME (j : Int)) 5).bool (nth (row ME (j : Int)) 6).list (nth (row ME (j : Int)) 7).list (nth (row ME (j : Int)) 8).list (nth (row ME (j : Int)) 9).list (nth (row ME (j : Int)) 10).int) := by rw [htk, List.foldl_append]; rfl
    show (qe_17_step k s sg bg NA NU ME BA ct ((ME.take j).foldl (fun o x => o ++ (memB x ++ encV (nth x 2).int (nth x 3).int (nth x 4).bool (nth x 5).bool (nth x 6).list (nth x 7).list (nth x 8).list (nth x 9).list (nth x 10).int)) o) ME (ME.length : Int) (j : Int)).val = _
    rw [hst]
    generalize (ME.take j).foldl (fun o x => o ++ (memB x ++ encV (nth x 2).int (nth x 3).int (nth x 4).bool (nth x 5).bool (nth x 6).list (nth x 7).list (nth x 8).list (nth x 9).list (nth x 10).int)) o = Q at hfl
    unfold qe_17_step
    have hlen : Q.length ≤ 1000 + 4 * 25014 := by
      have : min j ME.length * 25014 ≤ 4 * 25014 := Nat.mul_le_mul_right _ (by omega)
      omega
    rw [qcc_h, pbh1, show qe_rv (nth (row ME (j : Int)) 2).int (nth (row ME (j : Int)) 3).int (nth (row ME (j : Int)) 4).bool (nth (row ME (j : Int)) 5).bool (nth (row ME (j : Int)) 6).list (nth (row ME (j : Int)) 7).list (nth (row ME (j : Int)) 8).list (nth (row ME (j : Int)) 9).list (nth (row ME (j : Int)) 10).int = encV (nth (row ME (j : Int)) 2).int (nth (row ME (j : Int)) 3).int (nth (row ME (j : Int)) 4).bool (nth (row ME (j : Int)) 5).bool (nth (row ME (j : Int)) 6).list (nth (row ME (j : Int)) 7).list (nth (row ME (j : Int)) 8).list (nth (row ME (j : Int)) 9).list (nth (row ME (j : Int)) 10).int from rfl]
    refine (Tr.t (by simp; omega) (Tr.t (by constructor <;> omega) (Tr.t (qcc_cc (by omega)) (Tr.t pb1 (Tr.t (by simp only [List.length_append, bytesL_len]; omega) (Tr.t (hr _ hx) (Tr.t (by simp only [List.length_append, bytesL_len]; omega) (Tr.t (by simp only [List.length_append, bytesL_len]; omega) ?_))))))))
    rw [Tr.val_ok, wrap64 (i := (j : Int) + 1) (by omega) (by omega)]; rfl
  · rw [List.take_length]
    show (qe_17_step k s sg bg NA NU ME BA ct (ME.foldl (fun o x => o ++ (memB x ++ encV (nth x 2).int (nth x 3).int (nth x 4).bool (nth x 5).bool (nth x 6).list (nth x 7).list (nth x 8).list (nth x 9).list (nth x 10).int)) o) ME (ME.length : Int) (ME.length : Int)).val = _
    unfold qe_17_step
    refine Tr.n (by simp) ?_
    rfl
theorem qe_is17 : LoopIs tab FT D55 live 53 qe_lo 1 17 := by
  refine loop_told (sl := qe_17_sl) (step := qe_17_st) (out := qe_17_out) (lor := qe_lo17) (fin := fun x => (qe_17_fin (x.1) (x.2.1) (x.2.2.1) (x.2.2.2.1) (x.2.2.2.2.1) (x.2.2.2.2.2.1) (x.2.2.2.2.2.2.1) (x.2.2.2.2.2.2.2.1) (x.2.2.2.2.2.2.2.2.1) (x.2.2.2.2.2.2.2.2.2.1) (x.2.2.2.2.2.2.2.2.2.2.1) (x.2.2.2.2.2.2.2.2.2.2.2.1) (x.2.2.2.2.2.2.2.2.2.2.2.2))) (fun _ => rfl) ?_ (fun x n => qe_17_r x.1 x.2.1 x.2.2.1 x.2.2.2.1 x.2.2.2.2.1 x.2.2.2.2.2.1 x.2.2.2.2.2.2.1 x.2.2.2.2.2.2.2.1 x.2.2.2.2.2.2.2.2.1 x.2.2.2.2.2.2.2.2.2.1 x.2.2.2.2.2.2.2.2.2.2.1 x.2.2.2.2.2.2.2.2.2.2.2.1 x.2.2.2.2.2.2.2.2.2.2.2.2 n) (fun x ow => qe_17_h x.1 x.2.1 x.2.2.1 x.2.2.2.1 x.2.2.2.2.1 x.2.2.2.2.2.1 x.2.2.2.2.2.2.1 x.2.2.2.2.2.2.2.1 x.2.2.2.2.2.2.2.2.1 x.2.2.2.2.2.2.2.2.2.1 x.2.2.2.2.2.2.2.2.2.2.1 x.2.2.2.2.2.2.2.2.2.2.2.1 x.2.2.2.2.2.2.2.2.2.2.2.2 ow)
  intro s t h
  unfold qe_lo17 at h
  split at h
  · cases h; exact ⟨(_, _, _, _, _, _, _, _, _, _, _, _, _), rfl, rfl⟩
  · cases h
theorem qe_10_r (k s : Int) (sg bg : Bool) (NA NU ME BA : LL) (ct : Int) (o : BS) (X : LL) (m i : Int) (fuel : Nat) : rounds (rnd tab FT D55 live 53 qe_lo 0 10) leave (fuel + 1) (qe_10_sl (k, s, sg, bg, NA, NU, ME, BA, ct, o, X, m, i)) = ((qe_10_step k s sg bg NA NU ME BA ct o X m i)).run (goOn (fun s => rounds (rnd tab FT D55 live 53 qe_lo 0 10) leave fuel (qe_10_sl s)) fun w => some (qe_10_out w)) := by kernel_rfl
theorem qe_10_h (k s : Int) (sg bg : Bool) (NA NU ME BA : LL) (ct : Int) (o : BS) (X : LL) (m i : Int) (ow : qe_10_ω) : ((qe_10_fin k s sg bg NA NU ME BA ct o X m i)).val = some ow → ∃ fuel, loopN qe_10_st fuel (k, s, sg, bg, NA, NU, ME, BA, ct, o, X, m, i) = some ow := by
  intro h
  refine auto_leaf (R := o ++ enumB NA NU NA.length) (fun ho => ?_) h
  obtain ⟨rfl, rfl, rfl, hU, h6, hn, hl⟩ := is_iff.1 ho
  have key := loopN_run (step := qe_10_st) (N := NA.length) (fun j => (k, s, sg, bg, NA, NU, ME, BA, ct, o ++ enumB NA NU j, NA, (NA.length : Int), (j : Int))) (w := o ++ enumB NA NU NA.length) (fun j hj => ?_) ?_ NA.length 0 (by omega)
  · exact ⟨_, Eq.trans (congrArg (loopN qe_10_st _) (by simp [enumB])) key⟩
  · have he := enumB_len (NU := NU) hn j (by omega)
    have hj12 := hn j hj
    show (qe_10_step k s sg bg NA NU ME BA ct (o ++ enumB NA NU j) NA (NA.length : Int) (j : Int)).val = _
    unfold qe_10_step
    rw [qcc_h, pbh8]
    refine (Tr.t (by simp; omega) (Tr.t (by constructor <;> omega) (Tr.t (qcc_cc (by omega)) (Tr.t (by constructor <;> omega) (Tr.t pb8 (Tr.t (by simp only [List.length_append, bytesL_len]; omega) (Tr.t (by simp only [List.length_append, bytesL_len]; omega) ?_)))))))
    rw [Tr.val_ok, wrap64 (i := (j : Int) + 1) (by omega) (by omega), List.append_assoc]; rfl
  · show (qe_10_step k s sg bg NA NU ME BA ct (o ++ enumB NA NU NA.length) NA (NA.length : Int) (NA.length : Int)).val = _
    unfold qe_10_step
    refine Tr.n (by simp) ?_
    rfl
theorem qe_is10 : LoopIs tab FT D55 live 53 qe_lo 0 10 := by
  refine loop_told (sl := qe_10_sl) (step := qe_10_st) (out := qe_10_out) (lor := qe_lo10) (fin := fun x => (qe_10_fin (x.1) (x.2.1) (x.2.2.1) (x.2.2.2.1) (x.2.2.2.2.1) (x.2.2.2.2.2.1) (x.2.2.2.2.2.2.1) (x.2.2.2.2.2.2.2.1) (x.2.2.2.2.2.2.2.2.1) (x.2.2.2.2.2.2.2.2.2.1) (x.2.2.2.2.2.2.2.2.2.2.1) (x.2.2.2.2.2.2.2.2.2.2.2.1) (x.2.2.2.2.2.2.2.2.2.2.2.2))) (fun _ => rfl) ?_ (fun x n => qe_10_r x.1 x.2.1 x.2.2.1 x.2.2.2.1 x.2.2.2.2.1 x.2.2.2.2.2.1 x.2.2.2.2.2.2.1 x.2.2.2.2.2.2.2.1 x.2.2.2.2.2.2.2.2.1 x.2.2.2.2.2.2.2.2.2.1 x.2.2.2.2.2.2.2.2.2.2.1 x.2.2.2.2.2.2.2.2.2.2.2.1 x.2.2.2.2.2.2.2.2.2.2.2.2 n) (fun x ow => qe_10_h x.1 x.2.1 x.2.2.1 x.2.2.2.1 x.2.2.2.2.1 x.2.2.2.2.2.1 x.2.2.2.2.2.2.1 x.2.2.2.2.2.2.2.1 x.2.2.2.2.2.2.2.2.1 x.2.2.2.2.2.2.2.2.2.1 x.2.2.2.2.2.2.2.2.2.2.1 x.2.2.2.2.2.2.2.2.2.2.2.1 x.2.2.2.2.2.2.2.2.2.2.2.2 ow)
  intro s t h
  unfold qe_lo10 at h
  split at h
  · cases h; exact ⟨(_, _, _, _, _, _, _, _, _, _, _, _, _), rfl, rfl⟩
  · cases h
noncomputable def qe_t (k s : Int) (sg bg : Bool) (NA NU ME BA : LL) (ct : Int) : Tr (BS) := (.ite ((qk_c k (1 : Int)) = true) (.ite ((k == (1 : Int)) = true) (.ite ((qk_c s (1 : Int)) = true) (.ite ((((qk_v k (1 : Int)).length + (qk_v s (1 : Int)).length : Nat) : Int) ≤ 9223372036854775807) (.ite ((qk_c (IntKind.wrap .i64 ((qci_v sg) + (IntKind.wrap .i64 ((2 : Int) * (qci_v bg))))) (1 : Int)) = true) (.ite (((((qk_v k (1 : Int)) ++ (qk_v s (1 : Int))).length + (qk_v (IntKind.wrap .i64 ((qci_v sg) + (IntKind.wrap .i64 ((2 : Int) * (qci_v bg))))) (1 : Int)).length : Nat) : Int) ≤ 9223372036854775807) (.ok (((qk_v k (1 : Int)) ++ (qk_v s (1 : Int))) ++ (qk_v (IntKind.wrap .i64 ((qci_v sg) + (IntKind.wrap .i64 ((2 : Int) * (qci_v bg))))) (1 : Int))))
       .no)
      .no)
     .no)
    .no)
   (.ite ((k == (2 : Int)) = true) (.ite ((qk_c s (1 : Int)) = true) (.ite ((((qk_v k (1 : Int)).length + (qk_v s (1 : Int)).length : Nat) : Int) ≤ 9223372036854775807) (.ok ((qk_v k (1 : Int)) ++ (qk_v s (1 : Int))))
      .no)
     .no)
    (.ite ((k == (3 : Int)) = true) (.ite ((0 : Int) ≤ (0 : Int) ∧ (0 : Int) < (BA.length : Int)) (.ite ((qe_rc ((nth (row BA (0 : Int)) 0).int) ((nth (row BA (0 : Int)) 1).int) ((nth (row BA (0 : Int)) 2).bool) ((nth (row BA (0 : Int)) 3).bool) ((nth (row BA (0 : Int)) 4).list) ((nth (row BA (0 : Int)) 5).list) ((nth (row BA (0 : Int)) 6).list) ((nth (row BA (0 : Int)) 7).list) ((nth (row BA (0 : Int)) 8).int)) = true) (.ite ((qk_c (NA.length : Int) (1 : Int)) = true) (.ite ((((qe_rv ((nth (row BA (0 : Int)) 0).int) ((nth (row BA (0 : Int)) 1).int) ((nth (row BA (0 : Int)) 2).bool) ((nth (row BA (0 : Int)) 3).bool) ((nth (row BA (0 : Int)) 4).list) ((nth (row BA (0 : Int)) 5).list) ((nth (row BA (0 : Int)) 6).list) ((nth (row BA (0 : Int)) 7).list) ((nth (row BA (0 : Int)) 8).int)).length + (qk_v (NA.length : Int) (1 : Int)).length : Nat) : Int) ≤ 9223372036854775807) (.ite ((((qk_v k (1 : Int)).length + ((qe_rv ((nth (row BA (0 : Int)) 0).int) ((nth (row BA (0 : Int)) 1).int) ((nth (row BA (0 : Int)) 2).bool) ((nth (row BA (0 : Int)) 3).bool) ((nth (row BA (0 : Int)) 4).list) ((nth (row BA (0 : Int)) 5).list) ((nth (row BA (0 : Int)) 6).list) ((nth (row BA (0 : Int)) 7).list) ((nth (row BA (0 : Int)) 8).int)) ++ (qk_v (NA.length : Int) (1 : Int))).length : Nat) : Int) ≤ 9223372036854775807) (.ite ((qe_o10_1 k s sg bg NA NU ME BA ct ((qk_v k (1 : Int)) ++ ((qe_rv ((nth (row BA (0 : Int)) 0).int) ((nth (row BA (0 : Int)) 1).int) ((nth (row BA (0 : Int)) 2).bool) ((nth (row BA (0 : Int)) 3).bool) ((nth (row BA (0 : Int)) 4).list) ((nth (row BA (0 : Int)) 5).list) ((nth (row BA (0 : Int)) 6).list) ((nth (row BA (0 : Int)) 7).list) ((nth (row BA (0 : Int)) 8).int)) ++ (qk_v (NA.length : Int) (1 : Int)))) NA (NA.length : Int) (0 : Int)) = true) (.ok (qe_u10_1 k s sg bg NA NU ME BA ct ((qk_v k (1 : Int)) ++ ((qe_rv ((nth (row BA (0 : Int)) 0).int) ((nth (row BA (0 : Int)) 1).int) ((nth (row BA (0 : Int)) 2).bool) ((nth (row BA (0 : Int)) 3).bool) ((nth (row BA (0 : Int)) 4).list) ((nth (row BA (0 : Int)) 5).list) ((nth (row BA (0 : Int)) 6).list) ((nth (row BA (0 : Int)) 7).list) ((nth (row BA (0 : Int)) 8).int)) ++ (qk_v (NA.length : Int) (1 : Int)))) NA (NA.length : Int) (0 : Int)))
           .no)
          .no)
         .no)
        .no)
       .no)
      .no)
     (.ite ((k == (4 : Int)) = true) (.ite ((qk_c s (1 : Int)) = true) (.ite ((qk_c (ME.length : Int) (1 : Int)) = true) (.ite ((((qk_v s (1 : Int)).length + (qk_v (ME.length : Int) (1 : Int)).length : Nat) : Int) ≤ 9223372036854775807) (.ite ((((qk_v k (1 : Int)).length + ((qk_v s (1 : Int)) ++ (qk_v (ME.length : Int) (1 : Int))).length : Nat) : Int) ≤ 9223372036854775807) (.ite ((qe_o17_1 k s sg bg NA NU ME BA ct ((qk_v k (1 : Int)) ++ ((qk_v s (1 : Int)) ++ (qk_v (ME.length : Int) (1 : Int)))) ME (ME.length : Int) (0 : Int)) = true) (.ok (qe_u17_1 k s sg bg NA NU ME BA ct ((qk_v k (1 : Int)) ++ ((qk_v s (1 : Int)) ++ (qk_v (ME.length : Int) (1 : Int)))) ME (ME.length : Int) (0 : Int)))
           .no)
          .no)
         .no)
        .no)
       .no)
      (.ite ((k == (5 : Int)) = true) (.ite ((qk_c ct (1 : Int)) = true) (.ite ((0 : Int) ≤ (0 : Int) ∧ (0 : Int) < (BA.length : Int)) (.ite ((qe_rc ((nth (row BA (0 : Int)) 0).int) ((nth (row BA (0 : Int)) 1).int) ((nth (row BA (0 : Int)) 2).bool) ((nth (row BA (0 : Int)) 3).bool) ((nth (row BA (0 : Int)) 4).list) ((nth (row BA (0 : Int)) 5).list) ((nth (row BA (0 : Int)) 6).list) ((nth (row BA (0 : Int)) 7).list) ((nth (row BA (0 : Int)) 8).int)) = true) (.ite ((((qk_v ct (1 : Int)).length + (qe_rv ((nth (row BA (0 : Int)) 0).int) ((nth (row BA (0 : Int)) 1).int) ((nth (row BA (0 : Int)) 2).bool) ((nth (row BA (0 : Int)) 3).bool) ((nth (row BA (0 : Int)) 4).list) ((nth (row BA (0 : Int)) 5).list) ((nth (row BA (0 : Int)) 6).list) ((nth (row BA (0 : Int)) 7).list) ((nth (row BA (0 : Int)) 8).int)).length : Nat) : Int) ≤ 9223372036854775807) (.ite ((((qk_v k (1 : Int)).length + ((qk_v ct (1 : Int)) ++ (qe_rv ((nth (row BA (0 : Int)) 0).int) ((nth (row BA (0 : Int)) 1).int) ((nth (row BA (0 : Int)) 2).bool) ((nth (row BA (0 : Int)) 3).bool) ((nth (row BA (0 : Int)) 4).list) ((nth (row BA (0 : Int)) 5).list) ((nth (row BA (0 : Int)) 6).list) ((nth (row BA (0 : Int)) 7).list) ((nth (row BA (0 : Int)) 8).int))).length : Nat) : Int) ≤ 9223372036854775807) (.ok ((qk_v k (1 : Int)) ++ ((qk_v ct (1 : Int)) ++ (qe_rv ((nth (row BA (0 : Int)) 0).int) ((nth (row BA (0 : Int)) 1).int) ((nth (row BA (0 : Int)) 2).bool) ((nth (row BA (0 : Int)) 3).bool) ((nth (row BA (0 : Int)) 4).list) ((nth (row BA (0 : Int)) 5).list) ((nth (row BA (0 : Int)) 6).list) ((nth (row BA (0 : Int)) 7).list) ((nth (row BA (0 : Int)) 8).int)))))
            .no)
           .no)
          .no)
         .no)
        .no)
       (.ok (qk_v k (1 : Int))))))))
  .no)
def qe_mk (p : BS) : Res := [(false, [⟨.str, .sh, TC.s p⟩])]
noncomputable def qe_c (k s : Int) (sg bg : Bool) (NA NU ME BA : LL) (ct : Int) : Bool := ((qk_c k (1 : Int)) && (bif (k == (1 : Int)) then ((qk_c s (1 : Int)) && (is ((((qk_v k (1 : Int)).length + (qk_v s (1 : Int)).length : Nat) : Int) ≤ 9223372036854775807) && ((qk_c (IntKind.wrap .i64 ((qci_v sg) + (IntKind.wrap .i64 ((2 : Int) * (qci_v bg))))) (1 : Int)) && (is (((((qk_v k (1 : Int)) ++ (qk_v s (1 : Int))).length + (qk_v (IntKind.wrap .i64 ((qci_v sg) + (IntKind.wrap .i64 ((2 : Int) * (qci_v bg))))) (1 : Int)).length : Nat) : Int) ≤ 9223372036854775807) && true)))) else (bif (k == (2 : Int)) then ((qk_c s (1 : Int)) && (is ((((qk_v k (1 : Int)).length + (qk_v s (1 : Int)).length : Nat) : Int) ≤ 9223372036854775807) && true)) else (bif (k == (3 : Int)) then (is ((0 : Int) ≤ (0 : Int) ∧ (0 : Int) < (BA.length : Int)) && ((qe_rc ((nth (row BA (0 : Int)) 0).int) ((nth (row BA (0 : Int)) 1).int) ((nth (row BA (0 : Int)) 2).bool) ((nth (row BA (0 : Int)) 3).bool) ((nth (row BA (0 : Int)) 4).list) ((nth (row BA (0 : Int)) 5).list) ((nth (row BA (0 : Int)) 6).list) ((nth (row BA (0 : Int)) 7).list) ((nth (row BA (0 : Int)) 8).int)) && ((qk_c (NA.length : Int) (1 : Int)) && (is ((((qe_rv ((nth (row BA (0 : Int)) 0).int) ((nth (row BA (0 : Int)) 1).int) ((nth (row BA (0 : Int)) 2).bool) ((nth (row BA (0 : Int)) 3).bool) ((nth (row BA (0 : Int)) 4).list) ((nth (row BA (0 : Int)) 5).list) ((nth (row BA (0 : Int)) 6).list) ((nth (row BA (0 : Int)) 7).list) ((nth (row BA (0 : Int)) 8).int)).length + (qk_v (NA.length : Int) (1 : Int)).length : Nat) : Int) ≤ 9223372036854775807) && (is ((((qk_v k (1 : Int)).length + ((qe_rv ((nth (row BA (0 : Int)) 0).int) ((nth (row BA (0 : Int)) 1).int) ((nth (row BA (0 : Int)) 2).bool) ((nth (row BA (0 : Int)) 3).bool) ((nth (row BA (0 : Int)) 4).list) ((nth (row BA (0 : Int)) 5).list) ((nth (row BA (0 : Int)) 6).list) ((nth (row BA (0 : Int)) 7).list) ((nth (row BA (0 : Int)) 8).int)) ++ (qk_v (NA.length : Int) (1 : Int))).length : Nat) : Int) ≤ 9223372036854775807) && ((qe_o10_1 k s sg bg NA NU ME BA ct ((qk_v k (1 : Int)) ++ ((qe_rv ((nth (row BA (0 : Int)) 0).int) ((nth (row BA (0 : Int)) 1).int) ((nth (row BA (0 : Int)) 2).bool) ((nth (row BA (0 : Int)) 3).bool) ((nth (row BA (0 : Int)) 4).list) ((nth (row BA (0 : Int)) 5).list) ((nth (row BA (0 : Int)) 6).list) ((nth (row BA (0 : Int)) 7).list) ((nth (row BA (0 : Int)) 8).int)) ++ (qk_v (NA.length : Int) (1 : Int)))) NA (NA.length : Int) (0 : Int)) && true)))))) else (bif (k == (4 : Int)) then ((qk_c s (1 : Int)) && ((qk_c (ME.length : Int) (1 : Int)) && (is ((((qk_v s (1 : Int)).length + (qk_v (ME.length : Int) (1 : Int)).length : Nat) : Int) ≤ 9223372036854775807) && (is ((((qk_v k (1 : Int)).length + ((qk_v s (1 : Int)) ++ (qk_v (ME.length : Int) (1 : Int))).length : Nat) : Int) ≤ 9223372036854775807) && ((qe_o17_1 k s sg bg NA NU ME BA ct ((qk_v k (1 : Int)) ++ ((qk_v s (1 : Int)) ++ (qk_v (ME.length : Int) (1 : Int)))) ME (ME.length : Int) (0 : Int)) && true))))) else (bif (k == (5 : Int)) then ((qk_c ct (1 : Int)) && (is ((0 : Int) ≤ (0 : Int) ∧ (0 : Int) < (BA.length : Int)) && ((qe_rc ((nth (row BA (0 : Int)) 0).int) ((nth (row BA (0 : Int)) 1).int) ((nth (row BA (0 : Int)) 2).bool) ((nth (row BA (0 : Int)) 3).bool) ((nth (row BA (0 : Int)) 4).list) ((nth (row BA (0 : Int)) 5).list) ((nth (row BA (0 : Int)) 6).list) ((nth (row BA (0 : Int)) 7).list) ((nth (row BA (0 : Int)) 8).int)) && (is ((((qk_v ct (1 : Int)).length + (qe_rv ((nth (row BA (0 : Int)) 0).int) ((nth (row BA (0 : Int)) 1).int) ((nth (row BA (0 : Int)) 2).bool) ((nth (row BA (0 : Int)) 3).bool) ((nth (row BA (0 : Int)) 4).list) ((nth (row BA (0 : Int)) 5).list) ((nth (row BA (0 : Int)) 6).list) ((nth (row BA (0 : Int)) 7).list) ((nth (row BA (0 : Int)) 8).int)).length : Nat) : Int) ≤ 9223372036854775807) && (is ((((qk_v k (1 : Int)).length + ((qk_v ct (1 : Int)) ++ (qe_rv ((nth (row BA (0 : Int)) 0).int) ((nth (row BA (0 : Int)) 1).int) ((nth (row BA (0 : Int)) 2).bool) ((nth (row BA (0 : Int)) 3).bool) ((nth (row BA (0 : Int)) 4).list) ((nth (row BA (0 : Int)) 5).list) ((nth (row BA (0 : Int)) 6).list) ((nth (row BA (0 : Int)) 7).list) ((nth (row BA (0 : Int)) 8).int))).length : Nat) : Int) ≤ 9223372036854775807) && true))))) else true))))))
noncomputable def qe_v (k s : Int) (sg bg : Bool) (NA NU ME BA : LL) (ct : Int) : BS := (bif (k == (1 : Int)) then (((qk_v k (1 : Int)) ++ (qk_v s (1 : Int))) ++ (qk_v (IntKind.wrap .i64 ((qci_v sg) + (IntKind.wrap .i64 ((2 : Int) * (qci_v bg))))) (1 : Int))) else (bif (k == (2 : Int)) then ((qk_v k (1 : Int)) ++ (qk_v s (1 : Int))) else (bif (k == (3 : Int)) then (qe_u10_1 k s sg bg NA NU ME BA ct ((qk_v k (1 : Int)) ++ ((qe_rv ((nth (row BA (0 : Int)) 0).int) ((nth (row BA (0 : Int)) 1).int) ((nth (row BA (0 : Int)) 2).bool) ((nth (row BA (0 : Int)) 3).bool) ((nth (row BA (0 : Int)) 4).list) ((nth (row BA (0 : Int)) 5).list) ((nth (row BA (0 : Int)) 6).list) ((nth (row BA (0 : Int)) 7).list) ((nth (row BA (0 : Int)) 8).int)) ++ (qk_v (NA.length : Int) (1 : Int)))) NA (NA.length : Int) (0 : Int)) else (bif (k == (4 : Int)) then (qe_u17_1 k s sg bg NA NU ME BA ct ((qk_v k (1 : Int)) ++ ((qk_v s (1 : Int)) ++ (qk_v (ME.length : Int) (1 : Int)))) ME (ME.length : Int) (0 : Int)) else (bif (k == (5 : Int)) then ((qk_v k (1 : Int)) ++ ((qk_v ct (1 : Int)) ++ (qe_rv ((nth (row BA (0 : Int)) 0).int) ((nth (row BA (0 : Int)) 1).int) ((nth (row BA (0 : Int)) 2).bool) ((nth (row BA (0 : Int)) 3).bool) ((nth (row BA (0 : Int)) 4).list) ((nth (row BA (0 : Int)) 5).list) ((nth (row BA (0 : Int)) 6).list) ((nth (row BA (0 : Int)) 7).list) ((nth (row BA (0 : Int)) 8).int)))) else (qk_v k (1 : Int)))))))
theorem qe_l (k s : Int) (sg bg : Bool) (NA NU ME BA : LL) (ct : Int) : (qe_c k s sg bg NA NU ME BA ct) = true → (qe_t k s sg bg NA NU ME BA ct).val = some (qe_v k s sg bg NA NU ME BA ct) := by
  unfold qe_t qe_v qe_c
  exact fun h => (Tr.gb h fun h => (Tr.ss h (fun h => (Tr.gb h fun h => (Tr.gs h fun h => (Tr.gb h fun h => (Tr.gs h fun h => rfl))))) (fun h => (Tr.ss h (fun h => (Tr.gb h fun h => (Tr.gs h fun h => rfl))) (fun h => (Tr.ss h (fun h => (Tr.gs h fun h => (Tr.gb h fun h => (Tr.gb h fun h => (Tr.gs h fun h => (Tr.gs h fun h => (Tr.gb h fun h => rfl))))))) (fun h => (Tr.ss h (fun h => (Tr.gb h fun h => (Tr.gb h fun h => (Tr.gs h fun h => (Tr.gs h fun h => (Tr.gb h fun h => rfl)))))) (fun h => (Tr.ss h (fun h => (Tr.gb h fun h => (Tr.gs h fun h => (Tr.gb h fun h => (Tr.gs h fun h => (Tr.gs h fun h => rfl)))))) (fun h => rfl)))))))))))
noncomputable def qe_S : List Arg → Option (Bool × Res) := fun xs => match xs with
  | [(true, [(.int .i64, TC.i k), (.int .i64, TC.i s), (.bool, TC.b sg), (.bool, TC.b bg), (.slice 9, TC.l NA), (.slice 2, TC.l NU), (.slice 71, TC.l ME), (.slice 32, TC.l BA), (.int .i64, TC.i ct)])] => some ((qe_c k s sg bg NA NU ME BA ct), qe_mk (qe_v k s sg bg NA NU ME BA ct))
  | _ => .none
theorem qe_e (k s : Int) (sg bg : Bool) (NA NU ME BA : LL) (ct : Int) : runF tab FT D55 live 53 qe_lo [(true, [(.int .i64, TC.i k), (.int .i64, TC.i s), (.bool, TC.b sg), (.bool, TC.b bg), (.slice 9, TC.l NA), (.slice 2, TC.l NU), (.slice 71, TC.l ME), (.slice 32, TC.l BA), (.int .i64, TC.i ct)])] = (qe_t k s sg bg NA NU ME BA ct).run fun p => some (qe_mk p) := by kernel_rfl
theorem qe_s : ∀ xs r, qe_S xs = some (true, r) → runF tab FT D55 live 53 qe_lo xs = some r := by
  intro xs r h
  unfold qe_S at h
  split at h
  · simp only [Option.some.injEq, Prod.mk.injEq] at h
    obtain ⟨h1, rfl⟩ := h
    exact fun_told (qe_e _ _ _ _ _ _ _ _ _) (qe_l _ _ _ _ _ _ _ _ _) h1
  · cases h
theorem qe_nx (k s : Int) (sg bg : Bool) (NA NU ME BA : LL) (ct : Int) : is (max (rowsDep ME) (rowsDep BA) < qe_O.n + 1 ∧ okV k s sg bg NA NU ME BA ct = true) = true → (qe_c k s sg bg NA NU ME BA ct) = true ∧ (qe_v k s sg bg NA NU ME BA ct) = encV k s sg bg NA NU ME BA ct := by
  intro h
  obtain ⟨hM, hk⟩ := is_iff.1 h
  unfold qe_c qe_v
  simp only [pbh1, pb1, truths, Bool.true_and]
  have hrb : 0 < BA.length → okV (nth (row BA (0 : Int)) 0).int (nth (row BA (0 : Int)) 1).int (nth (row BA (0 : Int)) 2).bool (nth (row BA (0 : Int)) 3).bool (nth (row BA (0 : Int)) 4).list (nth (row BA (0 : Int)) 5).list (nth (row BA (0 : Int)) 6).list (nth (row BA (0 : Int)) 7).list (nth (row BA (0 : Int)) 8).int = true → qe_rc (nth (row BA (0 : Int)) 0).int (nth (row BA (0 : Int)) 1).int (nth (row BA (0 : Int)) 2).bool (nth (row BA (0 : Int)) 3).bool (nth (row BA (0 : Int)) 4).list (nth (row BA (0 : Int)) 5).list (nth (row BA (0 : Int)) 6).list (nth (row BA (0 : Int)) 7).list (nth (row BA (0 : Int)) 8).int = true := fun hb ho => is_true ⟨by have := dep_base (ME := ME) hb 6 7; omega, ho⟩
  have hrm : (∀ x : List TC, x ∈ ME → okV (nth x 2).int (nth x 3).int (nth x 4).bool (nth x 5).bool (nth x 6).list (nth x 7).list (nth x 8).list (nth x 9).list (nth x 10).int = true) → ∀ x : List TC, x ∈ ME → qe_rc (nth x 2).int (nth x 3).int (nth x 4).bool (nth x 5).bool (nth x 6).list (nth x 7).list (nth x 8).list (nth x 9).list (nth x 10).int = true := fun ho x hx => is_true ⟨by have := dep_max (BA := BA) hx 8 9; omega, ho x hx⟩
  rcases okV_kind hk with rfl | rfl | rfl | rfl | rfl | rfl
  · rw [encV_1]
    simp only [Int.reduceBEq, cond_true, cond_false]
    cases sg <;> cases bg <;> (exact ⟨andT (is_true (by simp only [List.length_append, bytesL_len]; omega)) (andT (is_true (by simp only [List.length_append, bytesL_len]; omega)) rfl), by first | rfl | trivial⟩)
  · rw [encV_2]
    simp only [Int.reduceBEq, cond_true, cond_false]
    exact ⟨andT (is_true (by simp only [List.length_append, bytesL_len]; omega)) rfl, by first | rfl | trivial⟩
  · obtain ⟨e1, e2, e3, -⟩ := okV_enum hk
    obtain ⟨hb, ho, hl⟩ := okV_ebase hk
    have hr := hrb hb ho
    rw [encV_3 hb]
    simp only [Int.reduceBEq, cond_true, cond_false]
    rw [show qe_rv (nth (row BA (0 : Int)) 0).int (nth (row BA (0 : Int)) 1).int (nth (row BA (0 : Int)) 2).bool (nth (row BA (0 : Int)) 3).bool (nth (row BA (0 : Int)) 4).list (nth (row BA (0 : Int)) 5).list (nth (row BA (0 : Int)) 6).list (nth (row BA (0 : Int)) 7).list (nth (row BA (0 : Int)) 8).int = encV (nth (row BA (0 : Int)) 0).int (nth (row BA (0 : Int)) 1).int (nth (row BA (0 : Int)) 2).bool (nth (row BA (0 : Int)) 3).bool (nth (row BA (0 : Int)) 4).list (nth (row BA (0 : Int)) 5).list (nth (row BA (0 : Int)) 6).list (nth (row BA (0 : Int)) 7).list (nth (row BA (0 : Int)) 8).int from rfl]
    exact ⟨andT (is_true (by constructor <;> omega)) (andT hr (andT (is_true (by simp only [List.length_append, bytesL_len]; omega)) (andT (is_true (by simp only [List.length_append, bytesL_len]; omega)) (andT (is_true ⟨rfl, rfl, rfl, by omega, by omega, okV_names hk, (by simp only [List.length_append, bytesL_len]; omega)⟩) rfl)))), by first | rfl | trivial⟩
  · obtain ⟨e4, hok, hn⟩ := okV_comp hk
    have hr := hrm hok
    rw [encV_4]
    simp only [Int.reduceBEq, cond_true, cond_false]
    exact ⟨andT (is_true (by simp only [List.length_append, bytesL_len]; omega)) (andT (is_true (by simp only [List.length_append, bytesL_len]; omega)) (andT (is_true ⟨rfl, rfl, rfl, e4, hok, hn, hr, (by simp only [List.length_append, bytesL_len]; omega)⟩) rfl)), by first | rfl | trivial⟩
  · obtain ⟨hb, ho⟩ := okV_base hk
    have hr := hrb hb ho
    have hl := encV_big ho
    rw [encV_5 hb]
    simp only [Int.reduceBEq, cond_true, cond_false]
    rw [show qe_rv (nth (row BA (0 : Int)) 0).int (nth (row BA (0 : Int)) 1).int (nth (row BA (0 : Int)) 2).bool (nth (row BA (0 : Int)) 3).bool (nth (row BA (0 : Int)) 4).list (nth (row BA (0 : Int)) 5).list (nth (row BA (0 : Int)) 6).list (nth (row BA (0 : Int)) 7).list (nth (row BA (0 : Int)) 8).int = encV (nth (row BA (0 : Int)) 0).int (nth (row BA (0 : Int)) 1).int (nth (row BA (0 : Int)) 2).bool (nth (row BA (0 : Int)) 3).bool (nth (row BA (0 : Int)) 4).list (nth (row BA (0 : Int)) 5).list (nth (row BA (0 : Int)) 6).list (nth (row BA (0 : Int)) 7).list (nth (row BA (0 : Int)) 8).int from rfl]
    exact ⟨andT (is_true (by constructor <;> omega)) (andT hr (andT (is_true (by simp only [List.length_append, bytesL_len]; omega)) (andT (is_true (by simp only [List.length_append, bytesL_len]; omega)) rfl))), by first | rfl | trivial⟩
  · rw [encV_6]
    simp only [Int.reduceBEq, cond_true, cond_false]
    exact ⟨by first | rfl | trivial, by first | rfl | trivial⟩
theorem qe_nxr (k s : Int) (sg bg : Bool) (NA NU ME BA : LL) (ct : Int) : qe_rc (i_impl_Type_encode := ⟨qe_O.n + 1⟩) k s sg bg NA NU ME BA ct = true → (qe_c k s sg bg NA NU ME BA ct) = true ∧ (qe_v k s sg bg NA NU ME BA ct) = (qe_rv k s sg bg NA NU ME BA ct) := fun h => qe_nx k s sg bg NA NU ME BA ct h
theorem qe_rs : ∀ xs r, qe_rS (i_impl_Type_encode := ⟨qe_O.n + 1⟩) xs = some (true, r) → runF tab FT D55 live 53 qe_lo xs = some r := by
  intro xs r h
  unfold qe_rS at h
  split at h
  · simp only [Option.some.injEq, Prod.mk.injEq] at h
    obtain ⟨h1, rfl⟩ := h
    have hx := qe_nxr _ _ _ _ _ _ _ _ _ h1
    have ht := fun_told (qe_e _ _ _ _ _ _ _ _ _) (qe_l _ _ _ _ _ _ _ _ _) hx.1
    rw [hx.2] at ht
    exact ht
  · cases h
theorem qe_step : qe_G (i_impl_Type_encode := ⟨qe_O.n + 1⟩) := by
  have h := DOk.also2 (S := qe_rS (i_impl_Type_encode := ⟨qe_O.n + 1⟩)) mixed_ok tab_ok names_ok d53 d55 (fnLoops_two (by kernel_rfl) qe_is10 qe_is17) qe_rs
  refine qe_G.mk (i_impl_Type_encode := ⟨qe_O.n + 1⟩) ?_
  exact h
noncomputable def qbz_t (k s : Int) (sg bg : Bool) (NA NU ME BA : LL) (ct : Int) : Tr (BS) := (.ite ((qby_c k s sg bg NA NU ME BA ct) = true) (.ite ((!(qby_v k s sg bg NA NU ME BA ct)) = true) (.ok ([]))
   (.ite ((qe_rc k s sg bg NA NU ME BA ct) = true) (.ok (qe_rv k s sg bg NA NU ME BA ct))
    .no))
  .no)
def qbz_mk (p : BS) : Res := [(false, [⟨.str, .sh, TC.s p⟩])]
noncomputable def qbz_c (k s : Int) (sg bg : Bool) (NA NU ME BA : LL) (ct : Int) : Bool := ((qby_c k s sg bg NA NU ME BA ct) && (bif (!(qby_v k s sg bg NA NU ME BA ct)) then true else ((qe_rc k s sg bg NA NU ME BA ct) && true)))
noncomputable def qbz_v (k s : Int) (sg bg : Bool) (NA NU ME BA : LL) (ct : Int) : BS := (bif (!(qby_v k s sg bg NA NU ME BA ct)) then [] else (qe_rv k s sg bg NA NU ME BA ct))
theorem qbz_l (k s : Int) (sg bg : Bool) (NA NU ME BA : LL) (ct : Int) : (qbz_c k s sg bg NA NU ME BA ct) = true → (qbz_t k s sg bg NA NU ME BA ct).val = some (qbz_v k s sg bg NA NU ME BA ct) := by
  unfold qbz_t qbz_v qbz_c
  exact fun h => (Tr.gb h fun h => (Tr.ss h (fun h => rfl) (fun h => (Tr.gb h fun h => rfl))))
noncomputable def qbz_S : List Arg → Option (Bool × Res) := fun xs => match xs with
  | [(true, [(.int .i64, TC.i k), (.int .i64, TC.i s), (.bool, TC.b sg), (.bool, TC.b bg), (.slice 9, TC.l NA), (.slice 2, TC.l NU), (.slice 71, TC.l ME), (.slice 32, TC.l BA), (.int .i64, TC.i ct)])] => some ((qbz_c k s sg bg NA NU ME BA ct), qbz_mk (qbz_v k s sg bg NA NU ME BA ct))
  | _ => .none
theorem qbz_e (k s : Int) (sg bg : Bool) (NA NU ME BA : LL) (ct : Int) : runF tab FT D55 live 19 noLoops [(true, [(.int .i64, TC.i k), (.int .i64, TC.i s), (.bool, TC.b sg), (.bool, TC.b bg), (.slice 9, TC.l NA), (.slice 2, TC.l NU), (.slice 71, TC.l ME), (.slice 32, TC.l BA), (.int .i64, TC.i ct)])] = (qbz_t k s sg bg NA NU ME BA ct).run fun p => some (qbz_mk p) := by kernel_rfl
theorem qbz_s : ∀ xs r, qbz_S xs = some (true, r) → runF tab FT D55 live 19 noLoops xs = some r := by
  intro xs r h
  unfold qbz_S at h
  split at h
  · simp only [Option.some.injEq, Prod.mk.injEq] at h
    obtain ⟨h1, rfl⟩ := h
    exact fun_told (qbz_e _ _ _ _ _ _ _ _ _) (qbz_l _ _ _ _ _ _ _ _ _) h1
  · cases h
noncomputable def D56 : Dt := also D55 19 qbz_S
theorem d56 : DOk Go.Proofs.Try.prog tab D56 := d55.also mixed_ok tab_ok names_ok noLoops_ok qbz_s
theorem qbz_cc {k : Int} {s : Int} {sg : Bool} {bg : Bool} {NA : LL} {NU : LL} {ME : LL} {BA : LL} {ct : Int} (vac : qw_rc k s sg bg NA NU ME BA ct 3 = true)(ien : okV k s sg bg NA NU ME BA ct = true → qe_rc k s sg bg NA NU ME BA ct = true) : (qbz_c k s sg bg NA NU ME BA ct) = true := by
  unfold qbz_c
  refine andT (by exact qby_cc vac) ?_
  refine bifT (fun b1 => ?_) (fun b1 => ?_)
  · skip
    rfl
  · skip
    refine andT (by exact ien (by (rw [← qby_vv]; simpa using b1))) ?_
    rfl
theorem qbz_vv (k s : Int) (sg bg : Bool) (NA NU ME BA : LL) (ct : Int) : qbz_v k s sg bg NA NU ME BA ct = bif okV k s sg bg NA NU ME BA ct then encV k s sg bg NA NU ME BA ct else [] := by
  show (bif !(qby_v k s sg bg NA NU ME BA ct) then [] else encV k s sg bg NA NU ME BA ct) = _
  rw [qby_vv]
  cases h : okV k s sg bg NA NU ME BA ct <;> rfl
abbrev qbj_4_σ := LL × LL × Int
abbrev qbj_4_ω := (Unit) ⊕ (Unit)
noncomputable def qbj_4_step (A C : LL) (i : Int) : Tr (qbj_4_σ ⊕ qbj_4_ω) := (.ite ((decide (i < (A.length : Int))) = true) (.ite ((0 : Int) ≤ i ∧ i < (A.length : Int)) (.ite ((0 : Int) ≤ i ∧ i < (C.length : Int)) (.ite ((!((nth (row A i) 0).str == (nth (row C i) 0).str)) = true) (.ok (.inr (.inl ())))
     (.ok (.inl (A, C, (IntKind.wrap .i64 (i + (1 : Int)))))))
    .no)
   .no)
  (.ok (.inr (.inr ()))))
noncomputable def qbj_4_st : qbj_4_σ → Tr (qbj_4_σ ⊕ qbj_4_ω) := fun x => (qbj_4_step (x.1) (x.2.1) (x.2.2))
noncomputable def qbj_o4_1 (A C : LL) (i : Int) : Bool := is (A = C ∧ Typed tab (.slice 9) (.l A) ∧ i = 0)
noncomputable def qbj_4_fin (A C : LL) (i : Int) : Told qbj_4_ω := (.leaf (qbj_o4_1 A C i) (.inr ()))
def qbj_4_sl (x : qbj_4_σ) : List Slot := [⟨.val false [⟨.slice 9, .sh, TC.l (x.1)⟩], ⟨0, 0⟩⟩, ⟨.val false [⟨.slice 9, .sh, TC.l (x.2.1)⟩], ⟨0, 0⟩⟩, ⟨.val false [⟨.int .i64, .sh, TC.i (x.2.2)⟩], ⟨0, 0⟩⟩]
def qbj_4_out : qbj_4_ω → Ex × List Slot := (Sum.elim (fun x => (.ret, [⟨.val false [⟨.bool, .sh, TC.b false⟩], ⟨0, 0⟩⟩])) (fun x => (.exit 0, [Slot.none])))
noncomputable def qbj_lo4 : List Slot → Option (Told (Ex × List Slot)) := fun s => match s with
  | [⟨.val false [⟨.slice 9, .sh, TC.l A⟩], ⟨0, 0⟩⟩, ⟨.val false [⟨.slice 9, .sh, TC.l C⟩], ⟨0, 0⟩⟩, ⟨.val false [⟨.int .i64, .sh, TC.i i⟩], ⟨0, 0⟩⟩] => some (((qbj_4_fin A C i)).map qbj_4_out)
  | _ => .none
noncomputable def qbj_lo : LoopTeller := fun r s => bif Nat.beq r 4 then qbj_lo4 s else .none
theorem qbj_4_r (A C : LL) (i : Int) (fuel : Nat) : rounds (rnd tab FT D56 live 38 qbj_lo 0 4) leave (fuel + 1) (qbj_4_sl (A, C, i)) = ((qbj_4_step A C i)).run (goOn (fun s => rounds (rnd tab FT D56 live 38 qbj_lo 0 4) leave fuel (qbj_4_sl s)) fun w => some (qbj_4_out w)) := by kernel_rfl
theorem qbj_4_h (A C : LL) (i : Int) (ow : qbj_4_ω) : ((qbj_4_fin A C i)).val = some ow → ∃ fuel, loopN qbj_4_st fuel (A, C, i) = some ow := by
  intro h
  refine auto_leaf (R := Sum.inr ()) (fun ho => ?_) h
  obtain ⟨rfl, ht, rfl⟩ := is_iff.1 ho
  have hlen : A.length ≤ 140737488351232 := by have := typed_room ht; simp only [show (tab 9).bytes = 16 from rfl] at this; omega
  refine ⟨_, loopN_run (N := A.length) (fun i => (A, A, (i : Int))) (fun i hi => ?_) ?_ A.length 0 (by omega)⟩
  · have c0 : Typed tab (.str) (.s (nth (A.getD i []) 0).str) := typed_s (typed_cell ht (A.getD i []) (mem_getD hi) 0 (by decide))
    show (qbj_4_step A A (i : Int)).val = _
    unfold qbj_4_step
    refine Tr.t (by simp; omega) ?_
    refine Tr.t (by first | omega | (constructor <;> omega)) ?_
    refine Tr.t (by first | omega | (constructor <;> omega)) ?_
    refine Tr.n (by simp [qba_rv, qe_rv, qy_rv, qw_rv, qbc_rv, qq_rv, qg_rv, qf_rv, qbh_rv, qo_rv]) ?_
    rw [Tr.val_ok, wrap64 (i := (i : Int) + 1) (by omega) (by omega)]; rfl
  · show (qbj_4_step A A (A.length : Int)).val = _
    refine Tr.n (by simp) ?_
    rfl
theorem qbj_is4 : LoopIs tab FT D56 live 38 qbj_lo 0 4 := by
  refine loop_told (sl := qbj_4_sl) (step := qbj_4_st) (out := qbj_4_out) (lor := qbj_lo4) (fin := fun x => (qbj_4_fin (x.1) (x.2.1) (x.2.2))) (fun _ => rfl) ?_ (fun x n => qbj_4_r x.1 x.2.1 x.2.2 n) (fun x ow => qbj_4_h x.1 x.2.1 x.2.2 ow)
  intro s t h
  unfold qbj_lo4 at h
  split at h
  · cases h; exact ⟨(_, _, _), rfl, rfl⟩
  · cases h
noncomputable def qbj_t (A C : LL) : Tr (Bool) := (.ite ((!((A.length : Int) == (C.length : Int))) = true) (.ok false)
  (.ite ((qbj_o4_1 A C (0 : Int)) = true) (.ok true)
   .no))
def qbj_mk (p : Bool) : Res := [(false, [⟨.bool, .sh, TC.b p⟩])]
noncomputable def qbj_c (A C : LL) : Bool := is (A = C ∧ Typed tab (.slice 9) (.l A))
noncomputable def qbj_v (A C : LL) : Bool := true
theorem qbj_l (A C : LL) : (qbj_c A C) = true → (qbj_t A C).val = some (qbj_v A C) := by
  intro h
  obtain ⟨rfl, ht⟩ := is_iff.1 h
  unfold qbj_t
  refine Tr.n (by simp) ?_
  refine Tr.t (is_true ⟨rfl, ht, rfl⟩) ?_
  rfl
noncomputable def qbj_S : List Arg → Option (Bool × Res) := fun xs => match xs with
  | [(false, [(.slice 9, TC.l A)]), (false, [(.slice 9, TC.l C)])] => some ((qbj_c A C), qbj_mk (qbj_v A C))
  | _ => .none
theorem qbj_e (A C : LL) : runF tab FT D56 live 38 qbj_lo [(false, [(.slice 9, TC.l A)]), (false, [(.slice 9, TC.l C)])] = (qbj_t A C).run fun p => some (qbj_mk p) := by kernel_rfl
theorem qbj_s : ∀ xs r, qbj_S xs = some (true, r) → runF tab FT D56 live 38 qbj_lo xs = some r := by
  intro xs r h
  unfold qbj_S at h
  split at h
  · simp only [Option.some.injEq, Prod.mk.injEq] at h
    obtain ⟨h1, rfl⟩ := h
    exact fun_told (qbj_e _ _) (qbj_l _ _) h1
  · cases h
noncomputable def D57 : Dt := also D56 38 qbj_S
theorem d57 : DOk Go.Proofs.Try.prog tab D57 := d56.also mixed_ok tab_ok names_ok (fnLoops_one (by kernel_rfl) qbj_is4) qbj_s
abbrev qbl_4_σ := LL × LL × Int
abbrev qbl_4_ω := (Unit) ⊕ (Unit)
noncomputable def qbl_4_step (A C : LL) (i : Int) : Tr (qbl_4_σ ⊕ qbl_4_ω) := (.ite ((decide (i < (A.length : Int))) = true) (.ite ((0 : Int) ≤ i ∧ i < (A.length : Int)) (.ite ((0 : Int) ≤ i ∧ i < (C.length : Int)) (.ite ((!((nth (row A i) 0).int == (nth (row C i) 0).int)) = true) (.ok (.inr (.inl ())))
     (.ok (.inl (A, C, (IntKind.wrap .i64 (i + (1 : Int)))))))
    .no)
   .no)
  (.ok (.inr (.inr ()))))
noncomputable def qbl_4_st : qbl_4_σ → Tr (qbl_4_σ ⊕ qbl_4_ω) := fun x => (qbl_4_step (x.1) (x.2.1) (x.2.2))
noncomputable def qbl_o4_1 (A C : LL) (i : Int) : Bool := is (A = C ∧ Typed tab (.slice 2) (.l A) ∧ i = 0)
noncomputable def qbl_4_fin (A C : LL) (i : Int) : Told qbl_4_ω := (.leaf (qbl_o4_1 A C i) (.inr ()))
def qbl_4_sl (x : qbl_4_σ) : List Slot := [⟨.val false [⟨.slice 2, .sh, TC.l (x.1)⟩], ⟨0, 0⟩⟩, ⟨.val false [⟨.slice 2, .sh, TC.l (x.2.1)⟩], ⟨0, 0⟩⟩, ⟨.val false [⟨.int .i64, .sh, TC.i (x.2.2)⟩], ⟨0, 0⟩⟩]
def qbl_4_out : qbl_4_ω → Ex × List Slot := (Sum.elim (fun x => (.ret, [⟨.val false [⟨.bool, .sh, TC.b false⟩], ⟨0, 0⟩⟩])) (fun x => (.exit 0, [Slot.none])))
noncomputable def qbl_lo4 : List Slot → Option (Told (Ex × List Slot)) := fun s => match s with
  | [⟨.val false [⟨.slice 2, .sh, TC.l A⟩], ⟨0, 0⟩⟩, ⟨.val false [⟨.slice 2, .sh, TC.l C⟩], ⟨0, 0⟩⟩, ⟨.val false [⟨.int .i64, .sh, TC.i i⟩], ⟨0, 0⟩⟩] => some (((qbl_4_fin A C i)).map qbl_4_out)
  | _ => .none
noncomputable def qbl_lo : LoopTeller := fun r s => bif Nat.beq r 4 then qbl_lo4 s else .none
theorem qbl_4_r (A C : LL) (i : Int) (fuel : Nat) : rounds (rnd tab FT D57 live 39 qbl_lo 0 4) leave (fuel + 1) (qbl_4_sl (A, C, i)) = ((qbl_4_step A C i)).run (goOn (fun s => rounds (rnd tab FT D57 live 39 qbl_lo 0 4) leave fuel (qbl_4_sl s)) fun w => some (qbl_4_out w)) := by kernel_rfl
theorem qbl_4_h (A C : LL) (i : Int) (ow : qbl_4_ω) : ((qbl_4_fin A C i)).val = some ow → ∃ fuel, loopN qbl_4_st fuel (A, C, i) = some ow := by
  intro h
  refine auto_leaf (R := Sum.inr ()) (fun ho => ?_) h
  obtain ⟨rfl, ht, rfl⟩ := is_iff.1 ho
  have hlen : A.length ≤ 140737488351232 := by have := typed_room ht; simp only [show (tab 2).bytes = 8 from rfl] at this; omega
  refine ⟨_, loopN_run (N := A.length) (fun i => (A, A, (i : Int))) (fun i hi => ?_) ?_ A.length 0 (by omega)⟩
  · skip
    show (qbl_4_step A A (i : Int)).val = _
    unfold qbl_4_step
    refine Tr.t (by simp; omega) ?_
    refine Tr.t (by first | omega | (constructor <;> omega)) ?_
    refine Tr.t (by first | omega | (constructor <;> omega)) ?_
    refine Tr.n (by simp [qba_rv, qe_rv, qy_rv, qw_rv, qbc_rv, qq_rv, qg_rv, qf_rv, qbh_rv, qo_rv]) ?_
    rw [Tr.val_ok, wrap64 (i := (i : Int) + 1) (by omega) (by omega)]; rfl
  · show (qbl_4_step A A (A.length : Int)).val = _
    refine Tr.n (by simp) ?_
    rfl
theorem qbl_is4 : LoopIs tab FT D57 live 39 qbl_lo 0 4 := by
  refine loop_told (sl := qbl_4_sl) (step := qbl_4_st) (out := qbl_4_out) (lor := qbl_lo4) (fin := fun x => (qbl_4_fin (x.1) (x.2.1) (x.2.2))) (fun _ => rfl) ?_ (fun x n => qbl_4_r x.1 x.2.1 x.2.2 n) (fun x ow => qbl_4_h x.1 x.2.1 x.2.2 ow)
  intro s t h
  unfold qbl_lo4 at h
  split at h
  · cases h; exact ⟨(_, _, _), rfl, rfl⟩
  · cases h
noncomputable def qbl_t (A C : LL) : Tr (Bool) := (.ite ((!((A.length : Int) == (C.length : Int))) = true) (.ok false)
  (.ite ((qbl_o4_1 A C (0 : Int)) = true) (.ok true)
   .no))
def qbl_mk (p : Bool) : Res := [(false, [⟨.bool, .sh, TC.b p⟩])]
noncomputable def qbl_c (A C : LL) : Bool := is (A = C ∧ Typed tab (.slice 2) (.l A))
noncomputable def qbl_v (A C : LL) : Bool := true
theorem qbl_l (A C : LL) : (qbl_c A C) = true → (qbl_t A C).val = some (qbl_v A C) := by
  intro h
  obtain ⟨rfl, ht⟩ := is_iff.1 h
  unfold qbl_t
  refine Tr.n (by simp) ?_
  refine Tr.t (is_true ⟨rfl, ht, rfl⟩) ?_
  rfl
noncomputable def qbl_S : List Arg → Option (Bool × Res) := fun xs => match xs with
  | [(false, [(.slice 2, TC.l A)]), (false, [(.slice 2, TC.l C)])] => some ((qbl_c A C), qbl_mk (qbl_v A C))
  | _ => .none
theorem qbl_e (A C : LL) : runF tab FT D57 live 39 qbl_lo [(false, [(.slice 2, TC.l A)]), (false, [(.slice 2, TC.l C)])] = (qbl_t A C).run fun p => some (qbl_mk p) := by kernel_rfl
theorem qbl_s : ∀ xs r, qbl_S xs = some (true, r) → runF tab FT D57 live 39 qbl_lo xs = some r := by
  intro xs r h
  unfold qbl_S at h
  split at h
  · simp only [Option.some.injEq, Prod.mk.injEq] at h
    obtain ⟨h1, rfl⟩ := h
    exact fun_told (qbl_e _ _) (qbl_l _ _) h1
  · cases h
noncomputable def D58 : Dt := also D57 39 qbl_S
theorem d58 : DOk Go.Proofs.Try.prog tab D58 := d57.also mixed_ok tab_ok names_ok (fnLoops_one (by kernel_rfl) qbl_is4) qbl_s
section
class qbn_O where n : Nat
variable [i_laws_eqType : qbn_O]
noncomputable def qbn_rc (x0 x1 : Int) (x2 x3 : Bool) (x4 x5 x6 x7 : LL) (x8 y0 y1 : Int) (y2 y3 : Bool) (y4 y5 y6 y7 : LL) (y8 : Int) : Bool := is (max (rowsDep x6) (rowsDep x7) < qbn_O.n ∧ x0 = y0 ∧ x1 = y1 ∧ x2 = y2 ∧ x3 = y3 ∧ x4 = y4 ∧ x5 = y5 ∧ x6 = y6 ∧ x7 = y7 ∧ x8 = y8 ∧ Typed tab (.slice 9) (.l x4) ∧ Typed tab (.slice 2) (.l x5) ∧ Typed tab (.slice 71) (.l x6) ∧ Typed tab (.slice 32) (.l x7))
noncomputable def qbn_rv (x0 x1 : Int) (x2 x3 : Bool) (x4 x5 x6 x7 : LL) (x8 y0 y1 : Int) (y2 y3 : Bool) (y4 y5 y6 y7 : LL) (y8 : Int) : Bool := true
def qbn_rmk (p : Bool) : Res := [(false, [⟨.bool, .sh, TC.b p⟩])]
noncomputable def qbn_rS : List Arg → Option (Bool × Res) := fun xs => match xs with
  | [(true, [(.int .i64, TC.i x0), (.int .i64, TC.i x1), (.bool, TC.b x2), (.bool, TC.b x3), (.slice 9, TC.l x4), (.slice 2, TC.l x5), (.slice 71, TC.l x6), (.slice 32, TC.l x7), (.int .i64, TC.i x8)]), (true, [(.int .i64, TC.i y0), (.int .i64, TC.i y1), (.bool, TC.b y2), (.bool, TC.b y3), (.slice 9, TC.l y4), (.slice 2, TC.l y5), (.slice 71, TC.l y6), (.slice 32, TC.l y7), (.int .i64, TC.i y8)])] => some ((qbn_rc x0 x1 x2 x3 x4 x5 x6 x7 x8 y0 y1 y2 y3 y4 y5 y6 y7 y8), qbn_rmk (qbn_rv x0 x1 x2 x3 x4 x5 x6 x7 x8 y0 y1 y2 y3 y4 y5 y6 y7 y8))
  | _ => .none
noncomputable def D59 : Dt := also D58 13 qbn_rS
class qbn_G : Prop where ok : DOk Go.Proofs.Try.prog tab D59
variable [g_laws_eqType : qbn_G]
theorem d59 : DOk Go.Proofs.Try.prog tab D59 := qbn_G.ok
noncomputable def qce_t (x0 : BS) (x1 x2 x3 : Int) (x4 x5 : Bool) (x6 x7 x8 x9 : LL) (x10 : Int) (y0 : BS) (y1 y2 y3 : Int) (y4 y5 : Bool) (y6 y7 y8 y9 : LL) (y10 : Int) : Tr (Bool) := (.ite ((!(x0 == y0)) = true) (.ok false)
  (.ite ((!(x1 == y1)) = true) (.ok false)
   (.ite ((qbn_rc x2 x3 x4 x5 x6 x7 x8 x9 x10 y2 y3 y4 y5 y6 y7 y8 y9 y10) = true) (.ite ((!(qbn_rv x2 x3 x4 x5 x6 x7 x8 x9 x10 y2 y3 y4 y5 y6 y7 y8 y9 y10)) = true) (.ok false)
     (.ok true))
    .no)))
def qce_mk (p : Bool) : Res := [(false, [⟨.bool, .sh, TC.b p⟩])]
noncomputable def qce_c (x0 : BS) (x1 x2 x3 : Int) (x4 x5 : Bool) (x6 x7 x8 x9 : LL) (x10 : Int) (y0 : BS) (y1 y2 y3 : Int) (y4 y5 : Bool) (y6 y7 y8 y9 : LL) (y10 : Int) : Bool := (bif (!(x0 == y0)) then true else (bif (!(x1 == y1)) then true else ((qbn_rc x2 x3 x4 x5 x6 x7 x8 x9 x10 y2 y3 y4 y5 y6 y7 y8 y9 y10) && (bif (!(qbn_rv x2 x3 x4 x5 x6 x7 x8 x9 x10 y2 y3 y4 y5 y6 y7 y8 y9 y10)) then true else true))))
noncomputable def qce_v (x0 : BS) (x1 x2 x3 : Int) (x4 x5 : Bool) (x6 x7 x8 x9 : LL) (x10 : Int) (y0 : BS) (y1 y2 y3 : Int) (y4 y5 : Bool) (y6 y7 y8 y9 : LL) (y10 : Int) : Bool := (bif (!(x0 == y0)) then false else (bif (!(x1 == y1)) then false else (bif (!(qbn_rv x2 x3 x4 x5 x6 x7 x8 x9 x10 y2 y3 y4 y5 y6 y7 y8 y9 y10)) then false else true)))
theorem qce_l (x0 : BS) (x1 x2 x3 : Int) (x4 x5 : Bool) (x6 x7 x8 x9 : LL) (x10 : Int) (y0 : BS) (y1 y2 y3 : Int) (y4 y5 : Bool) (y6 y7 y8 y9 : LL) (y10 : Int) : (qce_c x0 x1 x2 x3 x4 x5 x6 x7 x8 x9 x10 y0 y1 y2 y3 y4 y5 y6 y7 y8 y9 y10) = true → (qce_t x0 x1 x2 x3 x4 x5 x6 x7 x8 x9 x10 y0 y1 y2 y3 y4 y5 y6 y7 y8 y9 y10).val = some (qce_v x0 x1 x2 x3 x4 x5 x6 x7 x8 x9 x10 y0 y1 y2 y3 y4 y5 y6 y7 y8 y9 y10) := by
  unfold qce_t qce_v qce_c
  exact fun h => (Tr.ss h (fun h => rfl) (fun h => (Tr.ss h (fun h => rfl) (fun h => (Tr.gb h fun h => (Tr.ss h (fun h => rfl) (fun h => rfl)))))))
noncomputable def qce_S : List Arg → Option (Bool × Res) := fun xs => match xs with
  | [(true, [(.str, TC.s x0), (.int .i64, TC.i x1), (.int .i64, TC.i x2), (.int .i64, TC.i x3), (.bool, TC.b x4), (.bool, TC.b x5), (.slice 9, TC.l x6), (.slice 2, TC.l x7), (.slice 71, TC.l x8), (.slice 32, TC.l x9), (.int .i64, TC.i x10)]), (true, [(.str, TC.s y0), (.int .i64, TC.i y1), (.int .i64, TC.i y2), (.int .i64, TC.i y3), (.bool, TC.b y4), (.bool, TC.b y5), (.slice 9, TC.l y6), (.slice 2, TC.l y7), (.slice 71, TC.l y8), (.slice 32, TC.l y9), (.int .i64, TC.i y10)])] => some ((qce_c x0 x1 x2 x3 x4 x5 x6 x7 x8 x9 x10 y0 y1 y2 y3 y4 y5 y6 y7 y8 y9 y10), qce_mk (qce_v x0 x1 x2 x3 x4 x5 x6 x7 x8 x9 x10 y0 y1 y2 y3 y4 y5 y6 y7 y8 y9 y10))
  | _ => .none
theorem qce_e (x0 : BS) (x1 x2 x3 : Int) (x4 x5 : Bool) (x6 x7 x8 x9 : LL) (x10 : Int) (y0 : BS) (y1 y2 y3 : Int) (y4 y5 : Bool) (y6 y7 y8 y9 : LL) (y10 : Int) : runF tab FT D59 live 76 noLoops [(true, [(.str, TC.s x0), (.int .i64, TC.i x1), (.int .i64, TC.i x2), (.int .i64, TC.i x3), (.bool, TC.b x4), (.bool, TC.b x5), (.slice 9, TC.l x6), (.slice 2, TC.l x7), (.slice 71, TC.l x8), (.slice 32, TC.l x9), (.int .i64, TC.i x10)]), (true, [(.str, TC.s y0), (.int .i64, TC.i y1), (.int .i64, TC.i y2), (.int .i64, TC.i y3), (.bool, TC.b y4), (.bool, TC.b y5), (.slice 9, TC.l y6), (.slice 2, TC.l y7), (.slice 71, TC.l y8), (.slice 32, TC.l y9), (.int .i64, TC.i y10)])] = (qce_t x0 x1 x2 x3 x4 x5 x6 x7 x8 x9 x10 y0 y1 y2 y3 y4 y5 y6 y7 y8 y9 y10).run fun p => some (qce_mk p) := by kernel_rfl
theorem qce_s : ∀ xs r, qce_S xs = some (true, r) → runF tab FT D59 live 76 noLoops xs = some r := by
  intro xs r h
  unfold qce_S at h
  split at h
  · simp only [Option.some.injEq, Prod.mk.injEq] at h
    obtain ⟨h1, rfl⟩ := h
    exact fun_told (qce_e _ _ _ _ _ _ _ _ _ _ _ _ _ _ _ _ _ _ _ _ _ _) (qce_l _ _ _ _ _ _ _ _ _ _ _ _ _ _ _ _ _ _ _ _ _ _) h1
  · cases h
noncomputable def D60 : Dt := also D59 76 qce_S
theorem d60 : DOk Go.Proofs.Try.prog tab D60 := d59.also mixed_ok tab_ok names_ok noLoops_ok qce_s
theorem qce_cc {x0 : BS} {x1 : Int} {x2 : Int} {x3 : Int} {x4 : Bool} {x5 : Bool} {x6 : LL} {x7 : LL} {x8 : LL} {x9 : LL} {x10 : Int} (h0 : (qbn_rc x2 x3 x4 x5 x6 x7 x8 x9 x10 x2 x3 x4 x5 x6 x7 x8 x9 x10) = true) : (qce_c x0 x1 x2 x3 x4 x5 x6 x7 x8 x9 x10 x0 x1 x2 x3 x4 x5 x6 x7 x8 x9 x10) = true := by
  unfold qce_c
  simp [h0, qbc_rv, qq_rv, qo_rv, qg_rv, qbh_rv, qf_rv, qy_rv, qba_rv, qw_rv, qe_rv, qbn_rv]
abbrev qbi_4_σ := LL × LL × Int
abbrev qbi_4_ω := (Unit) ⊕ (Unit)
noncomputable def qbi_4_step (A C : LL) (i : Int) : Tr (qbi_4_σ ⊕ qbi_4_ω) := (.ite ((decide (i < (A.length : Int))) = true) (.ite ((0 : Int) ≤ i ∧ i < (A.length : Int)) (.ite ((0 : Int) ≤ i ∧ i < (C.length : Int)) (.ite ((qce_c ((nth (row A i) 0).str) ((nth (row A i) 1).int) ((nth (row A i) 2).int) ((nth (row A i) 3).int) ((nth (row A i) 4).bool) ((nth (row A i) 5).bool) ((nth (row A i) 6).list) ((nth (row A i) 7).list) ((nth (row A i) 8).list) ((nth (row A i) 9).list) ((nth (row A i) 10).int) ((nth (row C i) 0).str) ((nth (row C i) 1).int) ((nth (row C i) 2).int) ((nth (row C i) 3).int) ((nth (row C i) 4).bool) ((nth (row C i) 5).bool) ((nth (row C i) 6).list) ((nth (row C i) 7).list) ((nth (row C i) 8).list) ((nth (row C i) 9).list) ((nth (row C i) 10).int)) = true) (.ite ((!(qce_v ((nth (row A i) 0).str) ((nth (row A i) 1).int) ((nth (row A i) 2).int) ((nth (row A i) 3).int) ((nth (row A i) 4).bool) ((nth (row A i) 5).bool) ((nth (row A i) 6).list) ((nth (row A i) 7).list) ((nth (row A i) 8).list) ((nth (row A i) 9).list) ((nth (row A i) 10).int) ((nth (row C i) 0).str) ((nth (row C i) 1).int) ((nth (row C i) 2).int) ((nth (row C i) 3).int) ((nth (row C i) 4).bool) ((nth (row C i) 5).bool) ((nth (row C i) 6).list) ((nth (row C i) 7).list) ((nth (row C i) 8).list) ((nth (row C i) 9).list) ((nth (row C i) 10).int))) = true) (.ok (.inr (.inl ())))
      (.ok (.inl (A, C, (IntKind.wrap .i64 (i + (1 : Int)))))))
     .no)
    .no)
   .no)
  (.ok (.inr (.inr ()))))
noncomputable def qbi_4_st : qbi_4_σ → Tr (qbi_4_σ ⊕ qbi_4_ω) := fun x => (qbi_4_step (x.1) (x.2.1) (x.2.2))
noncomputable def qbi_o4_1 (A C : LL) (i : Int) : Bool := is (A = C ∧ Typed tab (.slice 71) (.l A) ∧ (∀ x : List TC, x ∈ A → (qce_c ((nth x 0).str) ((nth x 1).int) ((nth x 2).int) ((nth x 3).int) ((nth x 4).bool) ((nth x 5).bool) ((nth x 6).list) ((nth x 7).list) ((nth x 8).list) ((nth x 9).list) ((nth x 10).int) ((nth x 0).str) ((nth x 1).int) ((nth x 2).int) ((nth x 3).int) ((nth x 4).bool) ((nth x 5).bool) ((nth x 6).list) ((nth x 7).list) ((nth x 8).list) ((nth x 9).list) ((nth x 10).int)) = true) ∧ i = 0)
noncomputable def qbi_4_fin (A C : LL) (i : Int) : Told qbi_4_ω := (.leaf (qbi_o4_1 A C i) (.inr ()))
def qbi_4_sl (x : qbi_4_σ) : List Slot := [⟨.val false [⟨.slice 71, .sh, TC.l (x.1)⟩], ⟨0, 0⟩⟩, ⟨.val false [⟨.slice 71, .sh, TC.l (x.2.1)⟩], ⟨0, 0⟩⟩, ⟨.val false [⟨.int .i64, .sh, TC.i (x.2.2)⟩], ⟨0, 0⟩⟩]
def qbi_4_out : qbi_4_ω → Ex × List Slot := (Sum.elim (fun x => (.ret, [⟨.val false [⟨.bool, .sh, TC.b false⟩], ⟨0, 0⟩⟩])) (fun x => (.exit 0, [Slot.none])))
noncomputable def qbi_lo4 : List Slot → Option (Told (Ex × List Slot)) := fun s => match s with
  | [⟨.val false [⟨.slice 71, .sh, TC.l A⟩], ⟨0, 0⟩⟩, ⟨.val false [⟨.slice 71, .sh, TC.l C⟩], ⟨0, 0⟩⟩, ⟨.val false [⟨.int .i64, .sh, TC.i i⟩], ⟨0, 0⟩⟩] => some (((qbi_4_fin A C i)).map qbi_4_out)
  | _ => .none
noncomputable def qbi_lo : LoopTeller := fun r s => bif Nat.beq r 4 then qbi_lo4 s else .none
theorem qbi_4_r (A C : LL) (i : Int) (fuel : Nat) : rounds (rnd tab FT D60 live 40 qbi_lo 0 4) leave (fuel + 1) (qbi_4_sl (A, C, i)) = ((qbi_4_step A C i)).run (goOn (fun s => rounds (rnd tab FT D60 live 40 qbi_lo 0 4) leave fuel (qbi_4_sl s)) fun w => some (qbi_4_out w)) := by kernel_rfl
theorem qbi_4_h (A C : LL) (i : Int) (ow : qbi_4_ω) : ((qbi_4_fin A C i)).val = some ow → ∃ fuel, loopN qbi_4_st fuel (A, C, i) = some ow := by
  intro h
  refine auto_leaf (R := Sum.inr ()) (fun ho => ?_) h
  obtain ⟨rfl, ht, hr0, rfl⟩ := is_iff.1 ho
  have hlen : A.length ≤ 140737488351232 := by have := typed_room ht; simp only [show (tab 71).bytes = 152 from rfl] at this; omega
  refine ⟨_, loopN_run (N := A.length) (fun i => (A, A, (i : Int))) (fun i hi => ?_) ?_ A.length 0 (by omega)⟩
  · have c0 : Typed tab (.str) (.s (nth (A.getD i []) 0).str) := typed_s (typed_cell ht (A.getD i []) (mem_getD hi) 0 (by decide))
    have c6 : Typed tab (.slice 9) (.l (nth (A.getD i []) 6).list) := typed_list (typed_cell ht (A.getD i []) (mem_getD hi) 6 (by decide))
    have c7 : Typed tab (.slice 2) (.l (nth (A.getD i []) 7).list) := typed_list (typed_cell ht (A.getD i []) (mem_getD hi) 7 (by decide))
    have c8 : Typed tab (.slice 71) (.l (nth (A.getD i []) 8).list) := typed_list (typed_cell ht (A.getD i []) (mem_getD hi) 8 (by decide))
    have c9 : Typed tab (.slice 32) (.l (nth (A.getD i []) 9).list) := typed_list (typed_cell ht (A.getD i []) (mem_getD hi) 9 (by decide))
    show (qbi_4_step A A (i : Int)).val = _
    unfold qbi_4_step
    refine Tr.t (by simp; omega) ?_
    refine Tr.t (by first | omega | (constructor <;> omega)) ?_
    refine Tr.t (by first | omega | (constructor <;> omega)) ?_
    refine Tr.t (hr0 (A.getD i []) (mem_getD hi)) ?_
    refine Tr.n (by simp [qba_rv, qe_rv, qy_rv, qw_rv, qce_v, qbn_rv, qbc_rv, qq_rv, qg_rv, qf_rv, qbh_rv, qo_rv]) ?_
    rw [Tr.val_ok, wrap64 (i := (i : Int) + 1) (by omega) (by omega)]; rfl
  · show (qbi_4_step A A (A.length : Int)).val = _
    refine Tr.n (by simp) ?_
    rfl
end
end
end
end
end
end
end
end
end
end
end
end Go.Proofs.Ytdcafhfnkblfkaa.V
