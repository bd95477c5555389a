/- What the functions of FnExactZeroElement answer. No condition. -/
import Derived.Test.YtdcafhfnkblfkaaVFnExactZeroElementP3
namespace Go.Proofs.Ytdcafhfnkblfkaa.V
open Go
set_option maxRecDepth 100000
set_option linter.unusedVariables false
set_option linter.unusedSectionVars false
set_option linter.unusedSimpArgs false
set_option maxHeartbeats 2000000
noncomputable section
section
variable [i_laws_szType : qbc_O]
variable [g_laws_szType : qbc_G]
section
variable [i_laws_toType : qp_O]
variable [g_laws_toType : qp_G]
section
variable [i_spec_l02Size : qn_O]
variable [g_spec_l02Size : qn_G]
section
variable [i_spec_l02Depth : qe_O]
variable [g_spec_l02Depth : qe_G]
section
variable [i_spec_l02Ok : qbi_O]
variable [g_spec_l02Ok : qbi_G]
section
variable [i_spec_l03Zero : qg_O]
variable [g_spec_l03Zero : qg_G]
section
variable [i_impl_Type_size : qw_O]
variable [g_impl_Type_size : qw_G]
section
variable [i_impl_SameType : qba_O]
variable [g_impl_SameType : qba_G]
section
variable [i_impl_Type_valid : qv_O]
variable [g_impl_Type_valid : qv_G]
theorem qk_f2_eq (A : LL) (m : Int) (i : Nat) (hi : i < A.length) : qk_f2 A A m (i : Int) = bif dnP A (i : Int) then Sum.inl () else Sum.inr (Sum.inl ()) := by
  unfold qk_f2
  have e2 : qbt_v ((A.take ((i : Int)).toNat).drop ((0 : Int)).toNat) (nth (row A (i : Int)) 0).str = !(noDupN A (i : Int)) := by
    unfold qbt_v noDupN
    rw [qi_vv, slotIdx_in, Int.toNat_natCast, show ((0 : Int)).toNat = 0 from rfl, List.drop_zero, allI_take (by omega)]
    rfl
  rw [e2, qz_vv]
  show _ = bif (nameOk (nth (row A (i : Int)) 0).str && noDupN A (i : Int)) then _ else _
  cases nameOk (nth (row A (i : Int)) 0).str <;> cases noDupN A (i : Int) <;> rfl
theorem qk_R2_eq (A : LL) (m : Int) : qk_R2 A A m 0 = bif allI (fun i : Nat => dnP A (i : Int)) A.length then Sum.inr () else Sum.inl () := by
  unfold qk_R2
  exact (iter_all (P := fun i : Nat => dnP A (i : Int)) (g := fun _ a => a) (w := Sum.inl ()) fun j a hj => qk_f2_eq A m j hj)
theorem qk_2_h (A X : LL) (m i : Int) (ow : qk_2_ω) : ((qk_2_fin A X m i)).val = some ow → ∃ fuel, loopN qk_2_st fuel (A, X, m, i) = some ow := by
  refine auto_const (R := (qk_R2 A X m i)) rfl (iter_onR (f := (fun i a => (qk_f2 A X m (i : Int)))) (fin := (fun a => (qk_e2 A X m))) (Q := endsAs () ()) (fun i a => by unfold qk_f2; exact (onR_bif rfl (onR_bif rfl trivial))) (fun _ => rfl) _ _ _) ?_
  intro ho
  have ho : is (i = 0 ∧ A = X ∧ m = (A.length : Int) ∧ Typed tab (.slice 9) (.l A)) = true := ho.elim id id
  obtain ⟨rfl, rfl, rfl, ht⟩ := is_iff.1 ho
  have hlen : A.length ≤ 140737488351232 := by have := typed_room ht; simp only [show (tab 9).bytes = 16 from rfl] at this; omega
  refine ⟨(A.length) + 1, ?_⟩
  refine iter_loop (step := qk_2_st) (A.length) (fun i a => (qk_f2 A A (A.length : Int) (i : Int))) (fun a => (qk_e2 A A (A.length : Int))) (fun i a => (A, A, (A.length : Int), (i : Int))) (fun _ _ => True) trivial (fun i a hi hI => ⟨?_, fun _ _ => trivial⟩) (fun a hI => ?_)
  · show (qk_2_step A A (A.length : Int) (i : Int)).val = _
    unfold qk_2_step qk_f2
    have c0 : Typed tab (.str) (.s (nth (A.getD i []) 0).str) := typed_s (typed_cell ht (A.getD i []) (mem_getD hi) 0 (by decide))
    refine Tr.t (by simp; omega) ?_
    exact (Tr.t (by first | omega | (constructor <;> omega) | ((show qi_c _ _ = true; exact is_true ⟨is_true ⟨rfl, typed_take ht, rfl⟩, is_true ⟨rfl, typed_take ht, rfl⟩⟩))) (Tr.t (by first | ((show qi_c _ _ = true; exact is_true ⟨is_true ⟨rfl, typed_take ht, rfl⟩, is_true ⟨rfl, typed_take ht, rfl⟩⟩)) | (first | (apply qz_cc <;> assumption) | (first | (apply is_true; and_intros <;> (first | rfl | assumption | (apply qj_cc <;> assumption) | (apply qbh_cc <;> assumption) | (apply qm_cc <;> assumption) | (apply qt_cc <;> assumption) | (apply qx_cc <;> assumption) | (apply qbb_cc <;> assumption) | (apply qs_cc <;> assumption) | (apply qf_cc <;> assumption) | (apply qc_cc <;> assumption) | (apply qbw_cc <;> assumption) | (apply qbv_cc <;> assumption) | (apply qh_cc <;> assumption) | (apply qz_cc <;> assumption) | (first | (apply is_true; and_intros <;> (first | rfl | assumption | (apply qj_cc <;> assumption) | (apply qbh_cc <;> assumption) | (apply qm_cc <;> assumption) | (apply qt_cc <;> assumption) | (apply qx_cc <;> assumption) | (apply qbb_cc <;> assumption) | (apply qs_cc <;> assumption) | (apply qf_cc <;> assumption) | (apply qc_cc <;> assumption) | (apply qbw_cc <;> assumption) | (apply qbv_cc <;> assumption) | (apply qh_cc <;> assumption) | (apply qz_cc <;> assumption))) | (apply qj_cc <;> assumption) | (apply qbh_cc <;> assumption) | (apply qm_cc <;> assumption) | (apply qt_cc <;> assumption) | (apply qx_cc <;> assumption) | (apply qbb_cc <;> assumption) | (apply qs_cc <;> assumption) | (apply qf_cc <;> assumption) | (apply qc_cc <;> assumption) | (apply qbw_cc <;> assumption) | (apply qbv_cc <;> assumption) | (apply qh_cc <;> assumption) | (apply qz_cc <;> assumption)))) | (apply qj_cc <;> assumption) | (apply qbh_cc <;> assumption) | (apply qm_cc <;> assumption) | (apply qt_cc <;> assumption) | (apply qx_cc <;> assumption) | (apply qbb_cc <;> assumption) | (apply qs_cc <;> assumption) | (apply qf_cc <;> assumption) | (apply qc_cc <;> assumption) | (apply qbw_cc <;> assumption) | (apply qbv_cc <;> assumption) | (apply qh_cc <;> assumption) | (apply qz_cc <;> assumption)))) (Tr.bf rfl (Tr.t (by first | omega | (constructor <;> omega) | ((show qi_c _ _ = true; exact is_true ⟨is_true ⟨rfl, typed_take ht, rfl⟩, is_true ⟨rfl, typed_take ht, rfl⟩⟩))) (Tr.t (by first | ((show qi_c _ _ = true; exact is_true ⟨is_true ⟨rfl, typed_take ht, rfl⟩, is_true ⟨rfl, typed_take ht, rfl⟩⟩)) | (first | (apply is_true; and_intros <;> (first | rfl | assumption | (apply qj_cc <;> assumption) | (apply qbh_cc <;> assumption) | (apply qm_cc <;> assumption) | (apply qt_cc <;> assumption) | (apply qx_cc <;> assumption) | (apply qbb_cc <;> assumption) | (apply qs_cc <;> assumption) | (apply qf_cc <;> assumption) | (apply qc_cc <;> assumption) | (apply qbw_cc <;> assumption) | (apply qbv_cc <;> assumption) | (apply qh_cc <;> assumption) | (apply qz_cc <;> assumption) | (first | (apply is_true; and_intros <;> (first | rfl | assumption | (apply qj_cc <;> assumption) | (apply qbh_cc <;> assumption) | (apply qm_cc <;> assumption) | (apply qt_cc <;> assumption) | (apply qx_cc <;> assumption) | (apply qbb_cc <;> assumption) | (apply qs_cc <;> assumption) | (apply qf_cc <;> assumption) | (apply qc_cc <;> assumption) | (apply qbw_cc <;> assumption) | (apply qbv_cc <;> assumption) | (apply qh_cc <;> assumption) | (apply qz_cc <;> assumption) | (first | (apply is_true; and_intros <;> (first | rfl | assumption | (apply qj_cc <;> assumption) | (apply qbh_cc <;> assumption) | (apply qm_cc <;> assumption) | (apply qt_cc <;> assumption) | (apply qx_cc <;> assumption) | (apply qbb_cc <;> assumption) | (apply qs_cc <;> assumption) | (apply qf_cc <;> assumption) | (apply qc_cc <;> assumption) | (apply qbw_cc <;> assumption) | (apply qbv_cc <;> assumption) | (apply qh_cc <;> assumption) | (apply qz_cc <;> assumption))) | (apply qj_cc <;> assumption) | (apply qbh_cc <;> assumption) | (apply qm_cc <;> assumption) | (apply qt_cc <;> assumption) | (apply qx_cc <;> assumption) | (apply qbb_cc <;> assumption) | (apply qs_cc <;> assumption) | (apply qf_cc <;> assumption) | (apply qc_cc <;> assumption) | (apply qbw_cc <;> assumption) | (apply qbv_cc <;> assumption) | (apply qh_cc <;> assumption) | (apply qz_cc <;> assumption)))) | (apply qj_cc <;> assumption) | (apply qbh_cc <;> assumption) | (apply qm_cc <;> assumption) | (apply qt_cc <;> assumption) | (apply qx_cc <;> assumption) | (apply qbb_cc <;> assumption) | (apply qs_cc <;> assumption) | (apply qf_cc <;> assumption) | (apply qc_cc <;> assumption) | (apply qbw_cc <;> assumption) | (apply qbv_cc <;> assumption) | (apply qh_cc <;> assumption) | (apply qz_cc <;> assumption)))) | (apply qj_cc <;> assumption) | (apply qbh_cc <;> assumption) | (apply qm_cc <;> assumption) | (apply qt_cc <;> assumption) | (apply qx_cc <;> assumption) | (apply qbb_cc <;> assumption) | (apply qs_cc <;> assumption) | (apply qf_cc <;> assumption) | (apply qc_cc <;> assumption) | (apply qbw_cc <;> assumption) | (apply qbv_cc <;> assumption) | (apply qh_cc <;> assumption) | (apply qz_cc <;> assumption))) (Tr.bf rfl (by rw [Tr.val_ok, wrap64 (i := (i : Int) + 1) (by omega) (by omega)]; rfl)))))))
  · show (qk_2_step A A (A.length : Int) (A.length : Int)).val = _
    refine Tr.n (by first | (simp; done) | (simp; omega) | omega) ?_
    rfl
theorem qk_is2 : LoopIs tab FT D48 live 137 qk_lo 0 2 := by
  refine loop_told (sl := qk_2_sl) (step := qk_2_st) (out := qk_2_out) (lor := qk_lo2) (fin := fun x => (qk_2_fin (x.1) (x.2.1) (x.2.2.1) (x.2.2.2))) (fun _ => rfl) ?_ (fun x n => qk_2_r x.1 x.2.1 x.2.2.1 x.2.2.2 n) (fun x ow => qk_2_h x.1 x.2.1 x.2.2.1 x.2.2.2 ow)
  intro s t h
  unfold qk_lo2 at h
  split at h
  · cases h; exact ⟨(_, _, _, _), rfl, rfl⟩
  · cases h
def qk_t (A : LL) : Tr (Bool) := (.ite ((qk_k2_1 A A (A.length : Int) (0 : Int)) = true) (.ite ((qk_o2_2 A A (A.length : Int) (0 : Int)) = true) (.ok false)
   .no)
  (.ite ((qk_o2_3 A A (A.length : Int) (0 : Int)) = true) (.ok true)
   .no))
def qk_mk (p : Bool) : Res := [(false, [⟨.bool, .sh, TC.b p⟩])]
def qk_c (A : LL) : Bool := (bif (qk_k2_1 A A (A.length : Int) (0 : Int)) then ((qk_o2_2 A A (A.length : Int) (0 : Int)) && true) else ((qk_o2_3 A A (A.length : Int) (0 : Int)) && true))
def qk_v (A : LL) : Bool := (bif (qk_k2_1 A A (A.length : Int) (0 : Int)) then false else true)
theorem qk_l (A : LL) : (qk_c A) = true → (qk_t A).val = some (qk_v A) := by
  unfold qk_t qk_v qk_c
  exact fun h => (Tr.ss h (fun h => (Tr.gb h fun h => rfl)) (fun h => (Tr.gb h fun h => rfl)))
def qk_S : List Arg → Option (Bool × Res) := fun xs => match xs with
  | [(false, [(.slice 9, TC.l A)])] => some ((qk_c A), qk_mk (qk_v A))
  | _ => .none
theorem qk_e (A : LL) : runF tab FT D48 live 137 qk_lo [(false, [(.slice 9, TC.l A)])] = (qk_t A).run fun p => some (qk_mk p) := by kernel_rfl
theorem qk_s : ∀ xs r, qk_S xs = some (true, r) → runF tab FT D48 live 137 qk_lo xs = some r := by
  intro xs r h
  unfold qk_S at h
  split at h
  · obtain ⟨h1, rfl⟩ := sp h
    exact fun_told (qk_e _) (qk_l _) h1
  · cases h
def D49 : Dt := also D48 137 qk_S
theorem d49 : DOk Go.Proofs.Try.prog tab D49 := d48.also mixed_ok tab_ok names_ok (fnLoops_one (by kernel_rfl) qk_is2) qk_s
theorem qk_cc {A : LL} (ht : Typed tab (.slice 9) (.l A)) : (qk_c A) = true := by
  unfold qk_c
  refine bifT (fun b1 => ?_) (fun b1 => ?_)
  · skip
    refine andT (by exact is_true ⟨rfl, rfl, rfl, ht⟩) ?_
    rfl
  · skip
    refine andT (by exact is_true ⟨rfl, rfl, rfl, ht⟩) ?_
    rfl
theorem qk_vv (A : LL) : qk_v A = allI (fun i : Nat => dnP A (i : Int)) A.length := by
  unfold qk_v qk_k2_1
  rw [qk_R2_eq]
  cases allI (fun i : Nat => dnP A (i : Int)) A.length <;> rfl
def qu_f5 (k s : Int) (sg bg : Bool) (NA NU ME BA : LL) (ct lw hg : Int) (X : LL) (m i : Int) : (Unit) ⊕ ((Int × Int × Bool × Bool × LL × LL × LL × LL × Int) ⊕ (Int × Int × Bool × Bool × LL × LL × LL × LL × Int)) := (bif (!(qce_v ((nth (row X i) 0).int) lw hg)) then (.inr (.inl (k, s, sg, bg, NA, NU, ME, BA, ct))) else (bif (decide (i > (0 : Int))) then (bif (decide ((nth (row X i) 0).int ≤ (nth (row NU (IntKind.wrap .i64 (i - (1 : Int)))) 0).int)) then (.inr (.inl (k, s, sg, bg, NA, NU, ME, BA, ct))) else (.inl ())) else (.inl ())))
def qu_e5 (k s : Int) (sg bg : Bool) (NA NU ME BA : LL) (ct lw hg : Int) (X : LL) (m : Int) : (Int × Int × Bool × Bool × LL × LL × LL × LL × Int) ⊕ (Int × Int × Bool × Bool × LL × LL × LL × LL × Int) := .inr (k, s, sg, bg, NA, NU, ME, BA, ct)
def qu_R5 (k s : Int) (sg bg : Bool) (NA NU ME BA : LL) (ct lw hg : Int) (X : LL) (m i : Int) : (Int × Int × Bool × Bool × LL × LL × LL × LL × Int) ⊕ (Int × Int × Bool × Bool × LL × LL × LL × LL × Int) := iter (fun i a => (qu_f5 k s sg bg NA NU ME BA ct lw hg X m (i : Int))) (fun a => (qu_e5 k s sg bg NA NU ME BA ct lw hg X m)) (NU.length) 0 ()
abbrev qu_5_σ := Int × Int × Bool × Bool × LL × LL × LL × LL × Int × Int × Int × LL × Int × Int
abbrev qu_5_ω := (Int × Int × Bool × Bool × LL × LL × LL × LL × Int) ⊕ (Int × Int × Bool × Bool × LL × LL × LL × LL × Int)
def qu_5_step (k s : Int) (sg bg : Bool) (NA NU ME BA : LL) (ct lw hg : Int) (X : LL) (m i : Int) : Tr (qu_5_σ ⊕ qu_5_ω) := (.ite ((decide (i < m)) = true) (.ite ((0 : Int) ≤ i ∧ i < (X.length : Int)) (.ite ((!(qce_v ((nth (row X i) 0).int) lw hg)) = true) (.ok (.inr (.inl (k, s, sg, bg, NA, NU, ME, BA, ct))))
    (.ite ((decide (i > (0 : Int))) = true) (.ite ((0 : Int) ≤ (IntKind.wrap .i64 (i - (1 : Int))) ∧ (IntKind.wrap .i64 (i - (1 : Int))) < (NU.length : Int)) (.ite ((decide ((nth (row X i) 0).int ≤ (nth (row NU (IntKind.wrap .i64 (i - (1 : Int)))) 0).int)) = true) (.ok (.inr (.inl (k, s, sg, bg, NA, NU, ME, BA, ct))))
       (.ok (.inl (k, s, sg, bg, NA, NU, ME, BA, ct, lw, hg, X, m, (IntKind.wrap .i64 (i + (1 : Int)))))))
      .no)
     (.ok (.inl (k, s, sg, bg, NA, NU, ME, BA, ct, lw, hg, X, m, (IntKind.wrap .i64 (i + (1 : Int))))))))
   .no)
  (.ok (.inr (.inr (k, s, sg, bg, NA, NU, ME, BA, ct)))))
def qu_5_st : qu_5_σ → Tr (qu_5_σ ⊕ qu_5_ω) := fun x => (qu_5_step (x.1) (x.2.1) (x.2.2.1) (x.2.2.2.1) (x.2.2.2.2.1) (x.2.2.2.2.2.1) (x.2.2.2.2.2.2.1) (x.2.2.2.2.2.2.2.1) (x.2.2.2.2.2.2.2.2.1) (x.2.2.2.2.2.2.2.2.2.1) (x.2.2.2.2.2.2.2.2.2.2.1) (x.2.2.2.2.2.2.2.2.2.2.2.1) (x.2.2.2.2.2.2.2.2.2.2.2.2.1) (x.2.2.2.2.2.2.2.2.2.2.2.2.2))
def qu_k5_1 (k s : Int) (sg bg : Bool) (NA NU ME BA : LL) (ct lw hg : Int) (X : LL) (m i : Int) : Bool := sumIs (qu_R5 k s sg bg NA NU ME BA ct lw hg X m i)
def qu_o5_2 (k s : Int) (sg bg : Bool) (NA NU ME BA : LL) (ct lw hg : Int) (X : LL) (m i : Int) : Bool := is (i = 0 ∧ NU = X ∧ m = (NU.length : Int) ∧ NU.length ≤ 140737488351232)
def qu_o5_3 (k s : Int) (sg bg : Bool) (NA NU ME BA : LL) (ct lw hg : Int) (X : LL) (m i : Int) : Bool := is (i = 0 ∧ NU = X ∧ m = (NU.length : Int) ∧ NU.length ≤ 140737488351232)
def qu_5_fin (k s : Int) (sg bg : Bool) (NA NU ME BA : LL) (ct lw hg : Int) (X : LL) (m i : Int) : Told qu_5_ω := (.br (qu_k5_1 k s sg bg NA NU ME BA ct lw hg X m i) (.leaf (qu_o5_2 k s sg bg NA NU ME BA ct lw hg X m i) (.inl (k, s, sg, bg, NA, NU, ME, BA, ct))) (.leaf (qu_o5_3 k s sg bg NA NU ME BA ct lw hg X m i) (.inr (k, s, sg, bg, NA, NU, ME, BA, ct))))
def qu_5_sl (x : qu_5_σ) : List Slot := [⟨.bx 32 [⟨.int .i64, .sh, TC.i (x.1)⟩, ⟨.int .i64, .sh, TC.i (x.2.1)⟩, ⟨.bool, .sh, TC.b (x.2.2.1)⟩, ⟨.bool, .sh, TC.b (x.2.2.2.1)⟩, ⟨.slice 9, .sh, TC.l (x.2.2.2.2.1)⟩, ⟨.slice 2, .sh, TC.l (x.2.2.2.2.2.1)⟩, ⟨.slice 71, .sh, TC.l (x.2.2.2.2.2.2.1)⟩, ⟨.slice 32, .sh, TC.l (x.2.2.2.2.2.2.2.1)⟩, ⟨.int .i64, .sh, TC.i (x.2.2.2.2.2.2.2.2.1)⟩], ⟨0, 0⟩⟩, ⟨.val false [⟨.int .i64, .sh, TC.i (x.2.2.2.2.2.2.2.2.2.1)⟩], ⟨0, 0⟩⟩, ⟨.val false [⟨.int .i64, .sh, TC.i (x.2.2.2.2.2.2.2.2.2.2.1)⟩], ⟨0, 0⟩⟩, ⟨.val false [⟨.slice 2, .sh, TC.l (x.2.2.2.2.2.2.2.2.2.2.2.1)⟩], ⟨0, 0⟩⟩, ⟨.val false [⟨.int .i64, .sh, TC.i (x.2.2.2.2.2.2.2.2.2.2.2.2.1)⟩], ⟨0, 0⟩⟩, ⟨.val false [⟨.int .i64, .sh, TC.i (x.2.2.2.2.2.2.2.2.2.2.2.2.2)⟩], ⟨0, 0⟩⟩]
def qu_5_out : qu_5_ω → Ex × List Slot := (Sum.elim (fun x => (.ret, [⟨.bx 32 [⟨.int .i64, .sh, TC.i (x.1)⟩, ⟨.int .i64, .sh, TC.i (x.2.1)⟩, ⟨.bool, .sh, TC.b (x.2.2.1)⟩, ⟨.bool, .sh, TC.b (x.2.2.2.1)⟩, ⟨.slice 9, .sh, TC.l (x.2.2.2.2.1)⟩, ⟨.slice 2, .sh, TC.l (x.2.2.2.2.2.1)⟩, ⟨.slice 71, .sh, TC.l (x.2.2.2.2.2.2.1)⟩, ⟨.slice 32, .sh, TC.l (x.2.2.2.2.2.2.2.1)⟩, ⟨.int .i64, .sh, TC.i (x.2.2.2.2.2.2.2.2)⟩], ⟨0, 0⟩⟩, ⟨.val false [⟨.bool, .sh, TC.b false⟩], ⟨0, 0⟩⟩])) (fun x => (.exit 0, [⟨.bx 32 [⟨.int .i64, .sh, TC.i (x.1)⟩, ⟨.int .i64, .sh, TC.i (x.2.1)⟩, ⟨.bool, .sh, TC.b (x.2.2.1)⟩, ⟨.bool, .sh, TC.b (x.2.2.2.1)⟩, ⟨.slice 9, .sh, TC.l (x.2.2.2.2.1)⟩, ⟨.slice 2, .sh, TC.l (x.2.2.2.2.2.1)⟩, ⟨.slice 71, .sh, TC.l (x.2.2.2.2.2.2.1)⟩, ⟨.slice 32, .sh, TC.l (x.2.2.2.2.2.2.2.1)⟩, ⟨.int .i64, .sh, TC.i (x.2.2.2.2.2.2.2.2)⟩], ⟨0, 0⟩⟩, Slot.none])))
def qu_lo5 : List Slot → Option (Told (Ex × List Slot)) := fun s => match s with
  | [⟨.bx 32 [⟨.int .i64, .sh, TC.i k⟩, ⟨.int .i64, .sh, TC.i s⟩, ⟨.bool, .sh, TC.b sg⟩, ⟨.bool, .sh, TC.b bg⟩, ⟨.slice 9, .sh, TC.l NA⟩, ⟨.slice 2, .sh, TC.l NU⟩, ⟨.slice 71, .sh, TC.l ME⟩, ⟨.slice 32, .sh, TC.l BA⟩, ⟨.int .i64, .sh, TC.i ct⟩], ⟨0, 0⟩⟩, ⟨.val false [⟨.int .i64, .sh, TC.i lw⟩], ⟨0, 0⟩⟩, ⟨.val false [⟨.int .i64, .sh, TC.i hg⟩], ⟨0, 0⟩⟩, ⟨.val false [⟨.slice 2, .sh, TC.l X⟩], ⟨0, 0⟩⟩, ⟨.val false [⟨.int .i64, .sh, TC.i m⟩], ⟨0, 0⟩⟩, ⟨.val false [⟨.int .i64, .sh, TC.i i⟩], ⟨0, 0⟩⟩] => some (((qu_5_fin k s sg bg NA NU ME BA ct lw hg X m i)).map qu_5_out)
  | _ => .none
def qu_lo : LoopTeller := fun r s => bif Nat.beq r 5 then qu_lo5 s else .none
theorem qu_5_r (k s : Int) (sg bg : Bool) (NA NU ME BA : LL) (ct lw hg : Int) (X : LL) (m i : Int) (fuel : Nat) : rounds (rnd tab FT D49 live 106 qu_lo 0 5) leave (fuel + 1) (qu_5_sl (k, s, sg, bg, NA, NU, ME, BA, ct, lw, hg, X, m, i)) = ((qu_5_step k s sg bg NA NU ME BA ct lw hg X m i)).run (goOn (fun s => rounds (rnd tab FT D49 live 106 qu_lo 0 5) leave fuel (qu_5_sl s)) fun w => some (qu_5_out w)) := by kernel_rfl
theorem qu_f5_eq (k s : Int) (sg bg : Bool) (NA NU ME BA : LL) (ct : Int) (lw hg : Int) (m i : Int) : qu_f5 k s sg bg NA NU ME BA ct lw hg NU m i = bif numP NU lw hg i then Sum.inl () else Sum.inr (Sum.inl (k, s, sg, bg, NA, NU, ME, BA, ct)) := by
  unfold qu_f5 numP ascB intAt
  rw [show qce_v (nth (row NU i) 0).int lw hg = inB (nth (row NU i) 0).int lw hg from rfl, show decide ((nth (row NU (IntKind.wrap .i64 (i - (1 : Int)))) 0).int ≥ (nth (row NU i) 0).int) = decide ((nth (row NU i) 0).int ≤ (nth (row NU (IntKind.wrap .i64 (i - (1 : Int)))) 0).int) from rfl]
  generalize inB (nth (row NU i) 0).int lw hg = p0, decide (i > 0) = p1, decide ((nth (row NU i) 0).int ≤ (nth (row NU (IntKind.wrap .i64 (i - (1 : Int)))) 0).int) = p2
  cases p0 <;> cases p1 <;> cases p2 <;> rfl
theorem qu_R5_eq (k s : Int) (sg bg : Bool) (NA NU ME BA : LL) (ct : Int) (lw hg : Int) (m : Int) : qu_R5 k s sg bg NA NU ME BA ct lw hg NU m 0 = bif allI (fun i : Nat => numP NU lw hg (i : Int)) NU.length then Sum.inr (k, s, sg, bg, NA, NU, ME, BA, ct) else Sum.inl (k, s, sg, bg, NA, NU, ME, BA, ct) := by
  unfold qu_R5
  exact (iter_all (P := fun i : Nat => numP NU lw hg (i : Int)) (g := fun _ a => a) (w := Sum.inl (k, s, sg, bg, NA, NU, ME, BA, ct)) fun j a _ => qu_f5_eq k s sg bg NA NU ME BA ct lw hg m _)
theorem qu_5_h (k s : Int) (sg bg : Bool) (NA NU ME BA : LL) (ct lw hg : Int) (X : LL) (m i : Int) (ow : qu_5_ω) : ((qu_5_fin k s sg bg NA NU ME BA ct lw hg X m i)).val = some ow → ∃ fuel, loopN qu_5_st fuel (k, s, sg, bg, NA, NU, ME, BA, ct, lw, hg, X, m, i) = some ow := by
  refine auto_const (R := (qu_R5 k s sg bg NA NU ME BA ct lw hg X m i)) rfl (iter_onR (f := (fun i a => (qu_f5 k s sg bg NA NU ME BA ct lw hg X m (i : Int)))) (fin := (fun a => (qu_e5 k s sg bg NA NU ME BA ct lw hg X m))) (Q := endsAs (k, s, sg, bg, NA, NU, ME, BA, ct) (k, s, sg, bg, NA, NU, ME, BA, ct)) (fun i a => by unfold qu_f5; exact (onR_bif rfl (onR_bif (onR_bif rfl trivial) trivial))) (fun _ => rfl) _ _ _) ?_
  intro ho
  have ho : is (i = 0 ∧ NU = X ∧ m = (NU.length : Int) ∧ NU.length ≤ 140737488351232) = true := ho.elim id id
  obtain ⟨rfl, rfl, rfl, hl⟩ := is_iff.1 ho
  skip
  refine ⟨(NU.length) + 1, ?_⟩
  refine iter_loop (step := qu_5_st) (NU.length) (fun i a => (qu_f5 k s sg bg NA NU ME BA ct lw hg NU (NU.length : Int) (i : Int))) (fun a => (qu_e5 k s sg bg NA NU ME BA ct lw hg NU (NU.length : Int))) (fun i a => (k, s, sg, bg, NA, NU, ME, BA, ct, lw, hg, NU, (NU.length : Int), (i : Int))) (fun _ _ => True) trivial (fun i a hi hI => ⟨?_, fun _ _ => trivial⟩) (fun a hI => ?_)
  · show (qu_5_step k s sg bg NA NU ME BA ct lw hg NU (NU.length : Int) (i : Int)).val = _
    unfold qu_5_step qu_f5
    skip
    refine Tr.t (by simp; omega) ?_
    exact (Tr.t (by first | omega | (constructor <;> omega) | (simp only [decide_eq_true_eq] at *; rw [wrap64 (by omega) (by omega)]; constructor <;> omega)) (Tr.bh (fun _ => rfl) (fun _ => (Tr.bh (fun _ => (Tr.t (by first | omega | (constructor <;> omega) | (simp only [decide_eq_true_eq] at *; rw [wrap64 (by omega) (by omega)]; constructor <;> omega)) (Tr.bh (fun _ => rfl) (fun _ => (by rw [Tr.val_ok, wrap64 (i := (i : Int) + 1) (by omega) (by omega)]; rfl))))) (fun _ => (by rw [Tr.val_ok, wrap64 (i := (i : Int) + 1) (by omega) (by omega)]; rfl))))))
  · show (qu_5_step k s sg bg NA NU ME BA ct lw hg NU (NU.length : Int) (NU.length : Int)).val = _
    refine Tr.n (by first | (simp; done) | (simp; omega) | omega) ?_
    rfl
theorem qu_is5 : LoopIs tab FT D49 live 106 qu_lo 0 5 := by
  refine loop_told (sl := qu_5_sl) (step := qu_5_st) (out := qu_5_out) (lor := qu_lo5) (fin := fun x => (qu_5_fin (x.1) (x.2.1) (x.2.2.1) (x.2.2.2.1) (x.2.2.2.2.1) (x.2.2.2.2.2.1) (x.2.2.2.2.2.2.1) (x.2.2.2.2.2.2.2.1) (x.2.2.2.2.2.2.2.2.1) (x.2.2.2.2.2.2.2.2.2.1) (x.2.2.2.2.2.2.2.2.2.2.1) (x.2.2.2.2.2.2.2.2.2.2.2.1) (x.2.2.2.2.2.2.2.2.2.2.2.2.1) (x.2.2.2.2.2.2.2.2.2.2.2.2.2))) (fun _ => rfl) ?_ (fun x n => qu_5_r x.1 x.2.1 x.2.2.1 x.2.2.2.1 x.2.2.2.2.1 x.2.2.2.2.2.1 x.2.2.2.2.2.2.1 x.2.2.2.2.2.2.2.1 x.2.2.2.2.2.2.2.2.1 x.2.2.2.2.2.2.2.2.2.1 x.2.2.2.2.2.2.2.2.2.2.1 x.2.2.2.2.2.2.2.2.2.2.2.1 x.2.2.2.2.2.2.2.2.2.2.2.2.1 x.2.2.2.2.2.2.2.2.2.2.2.2.2 n) (fun x ow => qu_5_h x.1 x.2.1 x.2.2.1 x.2.2.2.1 x.2.2.2.2.1 x.2.2.2.2.2.1 x.2.2.2.2.2.2.1 x.2.2.2.2.2.2.2.1 x.2.2.2.2.2.2.2.2.1 x.2.2.2.2.2.2.2.2.2.1 x.2.2.2.2.2.2.2.2.2.2.1 x.2.2.2.2.2.2.2.2.2.2.2.1 x.2.2.2.2.2.2.2.2.2.2.2.2.1 x.2.2.2.2.2.2.2.2.2.2.2.2.2 ow)
  intro s t h
  unfold qu_lo5 at h
  split at h
  · cases h; exact ⟨(_, _, _, _, _, _, _, _, _, _, _, _, _, _), rfl, rfl⟩
  · cases h
def qu_t (k s : Int) (sg bg : Bool) (NA NU ME BA : LL) (ct : Int) : Tr (Bool) := (.ite ((!((BA.length : Int) == (1 : Int))) = true) (.ok false)
  (.ite ((0 : Int) ≤ (0 : Int) ∧ (0 : Int) < (BA.length : Int)) (.ite ((!((nth (row BA (0 : Int)) 0).int == (1 : Int))) = true) (.ok false)
    (.ite ((0 : Int) ≤ (0 : Int) ∧ (0 : Int) < (BA.length : Int)) (.ite ((qv_rc ((nth (row BA (0 : Int)) 0).int) ((nth (row BA (0 : Int)) 1).int) ((nth (row BA (0 : Int)) 2).bool) ((nth (row BA (0 : Int)) 3).bool) ((nth (row BA (0 : Int)) 4).list) ((nth (row BA (0 : Int)) 5).list) ((nth (row BA (0 : Int)) 6).list) ((nth (row BA (0 : Int)) 7).list) ((nth (row BA (0 : Int)) 8).int) (1 : Int)) = true) (.ite ((!(qv_rv ((nth (row BA (0 : Int)) 0).int) ((nth (row BA (0 : Int)) 1).int) ((nth (row BA (0 : Int)) 2).bool) ((nth (row BA (0 : Int)) 3).bool) ((nth (row BA (0 : Int)) 4).list) ((nth (row BA (0 : Int)) 5).list) ((nth (row BA (0 : Int)) 6).list) ((nth (row BA (0 : Int)) 7).list) ((nth (row BA (0 : Int)) 8).int) (1 : Int))) = true) (.ok false)
       (.ite ((0 : Int) ≤ (0 : Int) ∧ (0 : Int) < (BA.length : Int)) (.ite ((qbs_c ((nth (row BA (0 : Int)) 0).int) ((nth (row BA (0 : Int)) 1).int) ((nth (row BA (0 : Int)) 2).bool) ((nth (row BA (0 : Int)) 3).bool) ((nth (row BA (0 : Int)) 4).list) ((nth (row BA (0 : Int)) 5).list) ((nth (row BA (0 : Int)) 6).list) ((nth (row BA (0 : Int)) 7).list) ((nth (row BA (0 : Int)) 8).int)) = true) (.ite ((qu_k5_1 k s sg bg NA NU ME BA ct ((qbs_v ((nth (row BA (0 : Int)) 0).int) ((nth (row BA (0 : Int)) 1).int) ((nth (row BA (0 : Int)) 2).bool) ((nth (row BA (0 : Int)) 3).bool) ((nth (row BA (0 : Int)) 4).list) ((nth (row BA (0 : Int)) 5).list) ((nth (row BA (0 : Int)) 6).list) ((nth (row BA (0 : Int)) 7).list) ((nth (row BA (0 : Int)) 8).int)).1) ((qbs_v ((nth (row BA (0 : Int)) 0).int) ((nth (row BA (0 : Int)) 1).int) ((nth (row BA (0 : Int)) 2).bool) ((nth (row BA (0 : Int)) 3).bool) ((nth (row BA (0 : Int)) 4).list) ((nth (row BA (0 : Int)) 5).list) ((nth (row BA (0 : Int)) 6).list) ((nth (row BA (0 : Int)) 7).list) ((nth (row BA (0 : Int)) 8).int)).2) NU (NU.length : Int) (0 : Int)) = true) (.ite ((qu_o5_2 k s sg bg NA NU ME BA ct ((qbs_v ((nth (row BA (0 : Int)) 0).int) ((nth (row BA (0 : Int)) 1).int) ((nth (row BA (0 : Int)) 2).bool) ((nth (row BA (0 : Int)) 3).bool) ((nth (row BA (0 : Int)) 4).list) ((nth (row BA (0 : Int)) 5).list) ((nth (row BA (0 : Int)) 6).list) ((nth (row BA (0 : Int)) 7).list) ((nth (row BA (0 : Int)) 8).int)).1) ((qbs_v ((nth (row BA (0 : Int)) 0).int) ((nth (row BA (0 : Int)) 1).int) ((nth (row BA (0 : Int)) 2).bool) ((nth (row BA (0 : Int)) 3).bool) ((nth (row BA (0 : Int)) 4).list) ((nth (row BA (0 : Int)) 5).list) ((nth (row BA (0 : Int)) 6).list) ((nth (row BA (0 : Int)) 7).list) ((nth (row BA (0 : Int)) 8).int)).2) NU (NU.length : Int) (0 : Int)) = true) (.ok false)
           .no)
          (.ite ((qu_o5_3 k s sg bg NA NU ME BA ct ((qbs_v ((nth (row BA (0 : Int)) 0).int) ((nth (row BA (0 : Int)) 1).int) ((nth (row BA (0 : Int)) 2).bool) ((nth (row BA (0 : Int)) 3).bool) ((nth (row BA (0 : Int)) 4).list) ((nth (row BA (0 : Int)) 5).list) ((nth (row BA (0 : Int)) 6).list) ((nth (row BA (0 : Int)) 7).list) ((nth (row BA (0 : Int)) 8).int)).1) ((qbs_v ((nth (row BA (0 : Int)) 0).int) ((nth (row BA (0 : Int)) 1).int) ((nth (row BA (0 : Int)) 2).bool) ((nth (row BA (0 : Int)) 3).bool) ((nth (row BA (0 : Int)) 4).list) ((nth (row BA (0 : Int)) 5).list) ((nth (row BA (0 : Int)) 6).list) ((nth (row BA (0 : Int)) 7).list) ((nth (row BA (0 : Int)) 8).int)).2) NU (NU.length : Int) (0 : Int)) = true) (.ite ((qce_v (NU.length : Int) (1 : Int) (6 : Int)) = true) (.ite (((NA.length : Int) == (NU.length : Int)) = true) (.ite ((qk_c NA) = true) (.ok (qk_v NA))
              .no)
             (.ok false))
            (.ok false))
           .no))
         .no)
        .no))
      .no)
     .no))
   .no))
def qu_mk (p : Bool) : Res := [(false, [⟨.bool, .sh, TC.b p⟩])]
def qu_c (k s : Int) (sg bg : Bool) (NA NU ME BA : LL) (ct : Int) : Bool := (bif (!((BA.length : Int) == (1 : Int))) then true else (is ((0 : Int) ≤ (0 : Int) ∧ (0 : Int) < (BA.length : Int)) && (bif (!((nth (row BA (0 : Int)) 0).int == (1 : Int))) then true else (is ((0 : Int) ≤ (0 : Int) ∧ (0 : Int) < (BA.length : Int)) && ((qv_rc ((nth (row BA (0 : Int)) 0).int) ((nth (row BA (0 : Int)) 1).int) ((nth (row BA (0 : Int)) 2).bool) ((nth (row BA (0 : Int)) 3).bool) ((nth (row BA (0 : Int)) 4).list) ((nth (row BA (0 : Int)) 5).list) ((nth (row BA (0 : Int)) 6).list) ((nth (row BA (0 : Int)) 7).list) ((nth (row BA (0 : Int)) 8).int) (1 : Int)) && (bif (!(qv_rv ((nth (row BA (0 : Int)) 0).int) ((nth (row BA (0 : Int)) 1).int) ((nth (row BA (0 : Int)) 2).bool) ((nth (row BA (0 : Int)) 3).bool) ((nth (row BA (0 : Int)) 4).list) ((nth (row BA (0 : Int)) 5).list) ((nth (row BA (0 : Int)) 6).list) ((nth (row BA (0 : Int)) 7).list) ((nth (row BA (0 : Int)) 8).int) (1 : Int))) then true else (is ((0 : Int) ≤ (0 : Int) ∧ (0 : Int) < (BA.length : Int)) && ((qbs_c ((nth (row BA (0 : Int)) 0).int) ((nth (row BA (0 : Int)) 1).int) ((nth (row BA (0 : Int)) 2).bool) ((nth (row BA (0 : Int)) 3).bool) ((nth (row BA (0 : Int)) 4).list) ((nth (row BA (0 : Int)) 5).list) ((nth (row BA (0 : Int)) 6).list) ((nth (row BA (0 : Int)) 7).list) ((nth (row BA (0 : Int)) 8).int)) && (bif (qu_k5_1 k s sg bg NA NU ME BA ct ((qbs_v ((nth (row BA (0 : Int)) 0).int) ((nth (row BA (0 : Int)) 1).int) ((nth (row BA (0 : Int)) 2).bool) ((nth (row BA (0 : Int)) 3).bool) ((nth (row BA (0 : Int)) 4).list) ((nth (row BA (0 : Int)) 5).list) ((nth (row BA (0 : Int)) 6).list) ((nth (row BA (0 : Int)) 7).list) ((nth (row BA (0 : Int)) 8).int)).1) ((qbs_v ((nth (row BA (0 : Int)) 0).int) ((nth (row BA (0 : Int)) 1).int) ((nth (row BA (0 : Int)) 2).bool) ((nth (row BA (0 : Int)) 3).bool) ((nth (row BA (0 : Int)) 4).list) ((nth (row BA (0 : Int)) 5).list) ((nth (row BA (0 : Int)) 6).list) ((nth (row BA (0 : Int)) 7).list) ((nth (row BA (0 : Int)) 8).int)).2) NU (NU.length : Int) (0 : Int)) then ((qu_o5_2 k s sg bg NA NU ME BA ct ((qbs_v ((nth (row BA (0 : Int)) 0).int) ((nth (row BA (0 : Int)) 1).int) ((nth (row BA (0 : Int)) 2).bool) ((nth (row BA (0 : Int)) 3).bool) ((nth (row BA (0 : Int)) 4).list) ((nth (row BA (0 : Int)) 5).list) ((nth (row BA (0 : Int)) 6).list) ((nth (row BA (0 : Int)) 7).list) ((nth (row BA (0 : Int)) 8).int)).1) ((qbs_v ((nth (row BA (0 : Int)) 0).int) ((nth (row BA (0 : Int)) 1).int) ((nth (row BA (0 : Int)) 2).bool) ((nth (row BA (0 : Int)) 3).bool) ((nth (row BA (0 : Int)) 4).list) ((nth (row BA (0 : Int)) 5).list) ((nth (row BA (0 : Int)) 6).list) ((nth (row BA (0 : Int)) 7).list) ((nth (row BA (0 : Int)) 8).int)).2) NU (NU.length : Int) (0 : Int)) && true) else ((qu_o5_3 k s sg bg NA NU ME BA ct ((qbs_v ((nth (row BA (0 : Int)) 0).int) ((nth (row BA (0 : Int)) 1).int) ((nth (row BA (0 : Int)) 2).bool) ((nth (row BA (0 : Int)) 3).bool) ((nth (row BA (0 : Int)) 4).list) ((nth (row BA (0 : Int)) 5).list) ((nth (row BA (0 : Int)) 6).list) ((nth (row BA (0 : Int)) 7).list) ((nth (row BA (0 : Int)) 8).int)).1) ((qbs_v ((nth (row BA (0 : Int)) 0).int) ((nth (row BA (0 : Int)) 1).int) ((nth (row BA (0 : Int)) 2).bool) ((nth (row BA (0 : Int)) 3).bool) ((nth (row BA (0 : Int)) 4).list) ((nth (row BA (0 : Int)) 5).list) ((nth (row BA (0 : Int)) 6).list) ((nth (row BA (0 : Int)) 7).list) ((nth (row BA (0 : Int)) 8).int)).2) NU (NU.length : Int) (0 : Int)) && (bif (qce_v (NU.length : Int) (1 : Int) (6 : Int)) then (bif ((NA.length : Int) == (NU.length : Int)) then ((qk_c NA) && true) else true) else true)))))))))))
def qu_v (k s : Int) (sg bg : Bool) (NA NU ME BA : LL) (ct : Int) : Bool := (bif (!((BA.length : Int) == (1 : Int))) then false else (bif (!((nth (row BA (0 : Int)) 0).int == (1 : Int))) then false else (bif (!(qv_rv ((nth (row BA (0 : Int)) 0).int) ((nth (row BA (0 : Int)) 1).int) ((nth (row BA (0 : Int)) 2).bool) ((nth (row BA (0 : Int)) 3).bool) ((nth (row BA (0 : Int)) 4).list) ((nth (row BA (0 : Int)) 5).list) ((nth (row BA (0 : Int)) 6).list) ((nth (row BA (0 : Int)) 7).list) ((nth (row BA (0 : Int)) 8).int) (1 : Int))) then false else (bif (qu_k5_1 k s sg bg NA NU ME BA ct ((qbs_v ((nth (row BA (0 : Int)) 0).int) ((nth (row BA (0 : Int)) 1).int) ((nth (row BA (0 : Int)) 2).bool) ((nth (row BA (0 : Int)) 3).bool) ((nth (row BA (0 : Int)) 4).list) ((nth (row BA (0 : Int)) 5).list) ((nth (row BA (0 : Int)) 6).list) ((nth (row BA (0 : Int)) 7).list) ((nth (row BA (0 : Int)) 8).int)).1) ((qbs_v ((nth (row BA (0 : Int)) 0).int) ((nth (row BA (0 : Int)) 1).int) ((nth (row BA (0 : Int)) 2).bool) ((nth (row BA (0 : Int)) 3).bool) ((nth (row BA (0 : Int)) 4).list) ((nth (row BA (0 : Int)) 5).list) ((nth (row BA (0 : Int)) 6).list) ((nth (row BA (0 : Int)) 7).list) ((nth (row BA (0 : Int)) 8).int)).2) NU (NU.length : Int) (0 : Int)) then false else (bif (qce_v (NU.length : Int) (1 : Int) (6 : Int)) then (bif ((NA.length : Int) == (NU.length : Int)) then (qk_v NA) else false) else false)))))
theorem qu_l (k s : Int) (sg bg : Bool) (NA NU ME BA : LL) (ct : Int) : (qu_c k s sg bg NA NU ME BA ct) = true → (qu_t k s sg bg NA NU ME BA ct).val = some (qu_v k s sg bg NA NU ME BA ct) := by
  unfold qu_t qu_v qu_c
  intro h
  repeat' first | refine Tr.gb h fun h => ?_ | refine Tr.gs h fun h => ?_ | refine Tr.ss h (fun h => ?_) fun h => ?_ | exact rfl
def qu_S : List Arg → Option (Bool × Res) := fun xs => match xs with
  | [(true, [(.int .i64, TC.i k), (.int .i64, TC.i s), (.bool, TC.b sg), (.bool, TC.b bg), (.slice 9, TC.l NA), (.slice 2, TC.l NU), (.slice 71, TC.l ME), (.slice 32, TC.l BA), (.int .i64, TC.i ct)])] => some ((qu_c k s sg bg NA NU ME BA ct), qu_mk (qu_v k s sg bg NA NU ME BA ct))
  | _ => .none
theorem qu_e (k s : Int) (sg bg : Bool) (NA NU ME BA : LL) (ct : Int) : runF tab FT D49 live 106 qu_lo [(true, [(.int .i64, TC.i k), (.int .i64, TC.i s), (.bool, TC.b sg), (.bool, TC.b bg), (.slice 9, TC.l NA), (.slice 2, TC.l NU), (.slice 71, TC.l ME), (.slice 32, TC.l BA), (.int .i64, TC.i ct)])] = (qu_t k s sg bg NA NU ME BA ct).run fun p => some (qu_mk p) := by kernel_rfl
theorem qu_s : ∀ xs r, qu_S xs = some (true, r) → runF tab FT D49 live 106 qu_lo xs = some r := by
  intro xs r h
  unfold qu_S at h
  split at h
  · obtain ⟨h1, rfl⟩ := sp h
    exact fun_told (qu_e ..) (qu_l _ _ _ _ _ _ _ _ _) h1
  · cases h
def D50 : Dt := also D49 106 qu_S
theorem d50 : DOk Go.Proofs.Try.prog tab D50 := d49.also mixed_ok tab_ok names_ok (fnLoops_one (by kernel_rfl) qu_is5) qu_s
theorem int_of_valid {k s : Int} {sg bg : Bool} {NA NU ME BA : LL} {ct : Int} (hk : k = 1) (h : qv_rv k s sg bg NA NU ME BA ct 1 = true) : intV s sg bg NA NU ME BA ct = true := by
  subst hk
  have h : (okV 1 s sg bg NA NU ME BA ct && decide (depthV 1 ME BA ≤ 1)) = true := h
  rw [okV_1] at h
  simp only [Bool.and_eq_true] at h
  exact h.1.1
theorem qu_cc {k : Int} {s : Int} {sg : Bool} {bg : Bool} {NA : LL} {NU : LL} {ME : LL} {BA : LL} {ct : Int} (hb : 0 < BA.length → qv_rc (nth (row BA (0 : Int)) 0).int (nth (row BA (0 : Int)) 1).int (nth (row BA (0 : Int)) 2).bool (nth (row BA (0 : Int)) 3).bool (nth (row BA (0 : Int)) 4).list (nth (row BA (0 : Int)) 5).list (nth (row BA (0 : Int)) 6).list (nth (row BA (0 : Int)) 7).list (nth (row BA (0 : Int)) 8).int 1 = true) (t4 : Typed tab (.slice 9) (.l NA)) (hl : NU.length ≤ 140737488351232) : (qu_c k s sg bg NA NU ME BA ct) = true := by
  unfold qu_c
  refine bifT (fun b1 => ?_) (fun b1 => ?_)
  · skip
    rfl
  · skip
    refine andT (is_true (by have e1 := bneF b1; omega)) ?_
    refine bifT (fun b2 => ?_) (fun b2 => ?_)
    · skip
      rfl
    · skip
      refine andT (is_true (by have e1 := bneF b1; omega)) ?_
      refine andT (by have e1 := bneF b1; exact hb (by omega)) ?_
      refine bifT (fun b3 => ?_) (fun b3 => ?_)
      · skip
        rfl
      · skip
        refine andT (is_true (by have e1 := bneF b1; omega)) ?_
        refine andT (by have e2 := bneF b2; exact (irange (int_of_valid e2 (by simpa using b3))).1) ?_
        refine bifT (fun b4 => ?_) (fun b4 => ?_)
        · skip
          refine andT (by exact is_true ⟨rfl, rfl, rfl, hl⟩) ?_
          rfl
        · skip
          refine andT (by exact is_true ⟨rfl, rfl, rfl, hl⟩) ?_
          refine bifT (fun b5 => ?_) (fun b5 => ?_)
          · skip
            refine bifT (fun b6 => ?_) (fun b6 => ?_)
            · skip
              refine andT (by exact qk_cc t4) ?_
              rfl
            · skip
              rfl
          · skip
            rfl
theorem qu_vv (k s : Int) (sg bg : Bool) (NA NU ME BA : LL) (ct : Int) : qu_v k s sg bg NA NU ME BA ct = (((BA.length : Int) == 1) && (((nth (row BA (0 : Int)) 0).int == 1) && (validV (nth (row BA (0 : Int)) 0).int (nth (row BA (0 : Int)) 1).int (nth (row BA (0 : Int)) 2).bool (nth (row BA (0 : Int)) 3).bool (nth (row BA (0 : Int)) 4).list (nth (row BA (0 : Int)) 5).list (nth (row BA (0 : Int)) 6).list (nth (row BA (0 : Int)) 7).list (nth (row BA (0 : Int)) 8).int 1 && (allI (fun i : Nat => numP NU (loV (nth (row BA (0 : Int)) 1).int (nth (row BA (0 : Int)) 2).bool) (hiV (nth (row BA (0 : Int)) 1).int (nth (row BA (0 : Int)) 2).bool) (i : Int)) NU.length && (inB (NU.length : Int) 1 6 && (((NA.length : Int) == (NU.length : Int)) && allI (fun i : Nat => dnP NA (i : Int)) NA.length)))))) := by
  unfold qu_v
  rw [show ∀ lw hg m, qu_k5_1 k s sg bg NA NU ME BA ct lw hg NU m 0 = !(allI (fun i : Nat => numP NU lw hg (i : Int)) NU.length) from fun lw hg m => by unfold qu_k5_1; rw [qu_R5_eq]; cases allI (fun i : Nat => numP NU lw hg (i : Int)) NU.length <;> rfl]
  rw [qk_vv, show qce_v (NU.length : Int) 1 6 = inB (NU.length : Int) 1 6 from rfl, show qv_rv (nth (row BA (0 : Int)) 0).int (nth (row BA (0 : Int)) 1).int (nth (row BA (0 : Int)) 2).bool (nth (row BA (0 : Int)) 3).bool (nth (row BA (0 : Int)) 4).list (nth (row BA (0 : Int)) 5).list (nth (row BA (0 : Int)) 6).list (nth (row BA (0 : Int)) 7).list (nth (row BA (0 : Int)) 8).int 1 = validV (nth (row BA (0 : Int)) 0).int (nth (row BA (0 : Int)) 1).int (nth (row BA (0 : Int)) 2).bool (nth (row BA (0 : Int)) 3).bool (nth (row BA (0 : Int)) 4).list (nth (row BA (0 : Int)) 5).list (nth (row BA (0 : Int)) 6).list (nth (row BA (0 : Int)) 7).list (nth (row BA (0 : Int)) 8).int 1 from rfl]
  simp only [bif_nf, bif_tf, bif_ft, Bool.not_not]
  cases h1 : ((nth (row BA (0 : Int)) 0).int == 1) with
  | false => simp only [Bool.false_and, Bool.and_false]
  | true =>
    cases h2 : validV (nth (row BA (0 : Int)) 0).int (nth (row BA (0 : Int)) 1).int (nth (row BA (0 : Int)) 2).bool (nth (row BA (0 : Int)) 3).bool (nth (row BA (0 : Int)) 4).list (nth (row BA (0 : Int)) 5).list (nth (row BA (0 : Int)) 6).list (nth (row BA (0 : Int)) 7).list (nth (row BA (0 : Int)) 8).int 1 with
    | false => simp only [Bool.false_and, Bool.and_false]
    | true =>
      obtain ⟨-, h3, h4⟩ := irange (k := (nth (row BA (0 : Int)) 0).int) (int_of_valid (beq_iff_eq.1 h1) h2)
      rw [h3, h4]
def qd_f6 (d k s : Int) (sg bg : Bool) (NA NU ME BA : LL) (ct : Int) (X : LL) (m i en : Int) (NM : LL) : (Int × LL) ⊕ ((Int × Int × Bool × Bool × LL × LL × LL × LL × Int × Int × LL) ⊕ (Int × Int × Bool × Bool × LL × LL × LL × LL × Int × Int × LL)) := (bif (!(qv_rv ((nth (row X i) 2).int) ((nth (row X i) 3).int) ((nth (row X i) 4).bool) ((nth (row X i) 5).bool) ((nth (row X i) 6).list) ((nth (row X i) 7).list) ((nth (row X i) 8).list) ((nth (row X i) 9).list) ((nth (row X i) 10).int) d)) then (.inr (.inl (k, s, sg, bg, NA, NU, ME, BA, ct, en, NM))) else (bif (decide ((nth (row X i) 1).int < en)) then (.inr (.inl (k, s, sg, bg, NA, NU, ME, BA, ct, en, NM))) else (bif (decide ((nth (row X i) 1).int > (24 : Int))) then (.inr (.inl (k, s, sg, bg, NA, NU, ME, BA, ct, en, NM))) else (.inl ((IntKind.wrap .i64 ((nth (row X i) 1).int + (qw_rv ((nth (row X i) 2).int) ((nth (row X i) 3).int) ((nth (row X i) 4).bool) ((nth (row X i) 5).bool) ((nth (row X i) 6).list) ((nth (row X i) 7).list) ((nth (row X i) 8).list) ((nth (row X i) 9).list) ((nth (row X i) 10).int)))), (NM ++ [[TC.s ((nth (row X i) 0).str)]]))))))
def qd_e6 (d k s : Int) (sg bg : Bool) (NA NU ME BA : LL) (ct : Int) (X : LL) (m en : Int) (NM : LL) : (Int × Int × Bool × Bool × LL × LL × LL × LL × Int × Int × LL) ⊕ (Int × Int × Bool × Bool × LL × LL × LL × LL × Int × Int × LL) := .inr (k, s, sg, bg, NA, NU, ME, BA, ct, en, NM)
def qd_R6 (d k s : Int) (sg bg : Bool) (NA NU ME BA : LL) (ct en : Int) (NM X : LL) (m i : Int) : (Int × Int × Bool × Bool × LL × LL × LL × LL × Int × Int × LL) ⊕ (Int × Int × Bool × Bool × LL × LL × LL × LL × Int × Int × LL) := iter (fun i a => (qd_f6 d k s sg bg NA NU ME BA ct X m (i : Int) (a.1) (a.2))) (fun a => (qd_e6 d k s sg bg NA NU ME BA ct X m (a.1) (a.2))) (ME.length) 0 (en, NM)
abbrev qd_6_σ := Int × Int × Int × Bool × Bool × LL × LL × LL × LL × Int × Int × LL × LL × Int × Int
abbrev qd_6_ω := (Int × Int × Bool × Bool × LL × LL × LL × LL × Int × Int × LL) ⊕ (Int × Int × Bool × Bool × LL × LL × LL × LL × Int × Int × LL)
def qd_6_step (d k s : Int) (sg bg : Bool) (NA NU ME BA : LL) (ct en : Int) (NM X : LL) (m i : Int) : Tr (qd_6_σ ⊕ qd_6_ω) := (.ite ((decide (i < m)) = true) (.ite ((0 : Int) ≤ i ∧ i < (X.length : Int)) (.ite ((qv_rc ((nth (row X i) 2).int) ((nth (row X i) 3).int) ((nth (row X i) 4).bool) ((nth (row X i) 5).bool) ((nth (row X i) 6).list) ((nth (row X i) 7).list) ((nth (row X i) 8).list) ((nth (row X i) 9).list) ((nth (row X i) 10).int) d) = true) (.ite ((!(qv_rv ((nth (row X i) 2).int) ((nth (row X i) 3).int) ((nth (row X i) 4).bool) ((nth (row X i) 5).bool) ((nth (row X i) 6).list) ((nth (row X i) 7).list) ((nth (row X i) 8).list) ((nth (row X i) 9).list) ((nth (row X i) 10).int) d)) = true) (.ok (.inr (.inl (k, s, sg, bg, NA, NU, ME, BA, ct, en, NM))))
     (.ite ((decide ((nth (row X i) 1).int < en)) = true) (.ok (.inr (.inl (k, s, sg, bg, NA, NU, ME, BA, ct, en, NM))))
      (.ite ((decide ((nth (row X i) 1).int > (24 : Int))) = true) (.ok (.inr (.inl (k, s, sg, bg, NA, NU, ME, BA, ct, en, NM))))
       (.ite ((qw_rc ((nth (row X i) 2).int) ((nth (row X i) 3).int) ((nth (row X i) 4).bool) ((nth (row X i) 5).bool) ((nth (row X i) 6).list) ((nth (row X i) 7).list) ((nth (row X i) 8).list) ((nth (row X i) 9).list) ((nth (row X i) 10).int)) = true) (.ite (roomFor (tab 9) (NM ++ [[TC.s ((nth (row X i) 0).str)]]).length) (.ok (.inl (d, k, s, sg, bg, NA, NU, ME, BA, ct, (IntKind.wrap .i64 ((nth (row X i) 1).int + (qw_rv ((nth (row X i) 2).int) ((nth (row X i) 3).int) ((nth (row X i) 4).bool) ((nth (row X i) 5).bool) ((nth (row X i) 6).list) ((nth (row X i) 7).list) ((nth (row X i) 8).list) ((nth (row X i) 9).list) ((nth (row X i) 10).int)))), (NM ++ [[TC.s ((nth (row X i) 0).str)]]), X, m, (IntKind.wrap .i64 (i + (1 : Int))))))
         .no)
        .no))))
    .no)
   .no)
  (.ok (.inr (.inr (k, s, sg, bg, NA, NU, ME, BA, ct, en, NM)))))
def qd_6_st : qd_6_σ → Tr (qd_6_σ ⊕ qd_6_ω) := fun x => (qd_6_step (x.1) (x.2.1) (x.2.2.1) (x.2.2.2.1) (x.2.2.2.2.1) (x.2.2.2.2.2.1) (x.2.2.2.2.2.2.1) (x.2.2.2.2.2.2.2.1) (x.2.2.2.2.2.2.2.2.1) (x.2.2.2.2.2.2.2.2.2.1) (x.2.2.2.2.2.2.2.2.2.2.1) (x.2.2.2.2.2.2.2.2.2.2.2.1) (x.2.2.2.2.2.2.2.2.2.2.2.2.1) (x.2.2.2.2.2.2.2.2.2.2.2.2.2.1) (x.2.2.2.2.2.2.2.2.2.2.2.2.2.2))
def qd_k6_1 (d k s : Int) (sg bg : Bool) (NA NU ME BA : LL) (ct en : Int) (NM X : LL) (m i : Int) : Bool := sumIs (qd_R6 d k s sg bg NA NU ME BA ct en NM X m i)
def qd_o6_2 (d k s : Int) (sg bg : Bool) (NA NU ME BA : LL) (ct en : Int) (NM X : LL) (m i : Int) : Bool := is (i = 0 ∧ ME = X ∧ m = (ME.length : Int) ∧ en = 0 ∧ NM = [] ∧ Typed tab (.slice 71) (.l ME) ∧ (∀ x : List TC, x ∈ ME → qv_rc (nth x 2).int (nth x 3).int (nth x 4).bool (nth x 5).bool (nth x 6).list (nth x 7).list (nth x 8).list (nth x 9).list (nth x 10).int d = true) ∧ (∀ x : List TC, x ∈ ME → (!(qv_rv (nth x 2).int (nth x 3).int (nth x 4).bool (nth x 5).bool (nth x 6).list (nth x 7).list (nth x 8).list (nth x 9).list (nth x 10).int d)) = false → qw_rc (nth x 2).int (nth x 3).int (nth x 4).bool (nth x 5).bool (nth x 6).list (nth x 7).list (nth x 8).list (nth x 9).list (nth x 10).int = true))
def qd_u6_2_0 (d k s : Int) (sg bg : Bool) (NA NU ME BA : LL) (ct en : Int) (NM X : LL) (m i : Int) : Int := (sumL (qd_R6 d k s sg bg NA NU ME BA ct en NM X m i)).1
def qd_u6_2_1 (d k s : Int) (sg bg : Bool) (NA NU ME BA : LL) (ct en : Int) (NM X : LL) (m i : Int) : Int := (sumL (qd_R6 d k s sg bg NA NU ME BA ct en NM X m i)).2.1
def qd_u6_2_2 (d k s : Int) (sg bg : Bool) (NA NU ME BA : LL) (ct en : Int) (NM X : LL) (m i : Int) : Bool := (sumL (qd_R6 d k s sg bg NA NU ME BA ct en NM X m i)).2.2.1
def qd_u6_2_3 (d k s : Int) (sg bg : Bool) (NA NU ME BA : LL) (ct en : Int) (NM X : LL) (m i : Int) : Bool := (sumL (qd_R6 d k s sg bg NA NU ME BA ct en NM X m i)).2.2.2.1
def qd_u6_2_4 (d k s : Int) (sg bg : Bool) (NA NU ME BA : LL) (ct en : Int) (NM X : LL) (m i : Int) : LL := (sumL (qd_R6 d k s sg bg NA NU ME BA ct en NM X m i)).2.2.2.2.1
def qd_u6_2_5 (d k s : Int) (sg bg : Bool) (NA NU ME BA : LL) (ct en : Int) (NM X : LL) (m i : Int) : LL := (sumL (qd_R6 d k s sg bg NA NU ME BA ct en NM X m i)).2.2.2.2.2.1
def qd_u6_2_6 (d k s : Int) (sg bg : Bool) (NA NU ME BA : LL) (ct en : Int) (NM X : LL) (m i : Int) : LL := (sumL (qd_R6 d k s sg bg NA NU ME BA ct en NM X m i)).2.2.2.2.2.2.1
def qd_u6_2_7 (d k s : Int) (sg bg : Bool) (NA NU ME BA : LL) (ct en : Int) (NM X : LL) (m i : Int) : LL := (sumL (qd_R6 d k s sg bg NA NU ME BA ct en NM X m i)).2.2.2.2.2.2.2.1
def qd_u6_2_8 (d k s : Int) (sg bg : Bool) (NA NU ME BA : LL) (ct en : Int) (NM X : LL) (m i : Int) : Int := (sumL (qd_R6 d k s sg bg NA NU ME BA ct en NM X m i)).2.2.2.2.2.2.2.2.1
def qd_u6_2_9 (d k s : Int) (sg bg : Bool) (NA NU ME BA : LL) (ct en : Int) (NM X : LL) (m i : Int) : Int := (sumL (qd_R6 d k s sg bg NA NU ME BA ct en NM X m i)).2.2.2.2.2.2.2.2.2.1
def qd_u6_2_10 (d k s : Int) (sg bg : Bool) (NA NU ME BA : LL) (ct en : Int) (NM X : LL) (m i : Int) : LL := (sumL (qd_R6 d k s sg bg NA NU ME BA ct en NM X m i)).2.2.2.2.2.2.2.2.2.2
def qd_o6_3 (d k s : Int) (sg bg : Bool) (NA NU ME BA : LL) (ct en : Int) (NM X : LL) (m i : Int) : Bool := (qd_o6_2 d k s sg bg NA NU ME BA ct en NM X m i)
def qd_u6_3_0 (d k s : Int) (sg bg : Bool) (NA NU ME BA : LL) (ct en : Int) (NM X : LL) (m i : Int) : Int := (sumR (qd_R6 d k s sg bg NA NU ME BA ct en NM X m i)).1
def qd_u6_3_1 (d k s : Int) (sg bg : Bool) (NA NU ME BA : LL) (ct en : Int) (NM X : LL) (m i : Int) : Int := (sumR (qd_R6 d k s sg bg NA NU ME BA ct en NM X m i)).2.1
def qd_u6_3_2 (d k s : Int) (sg bg : Bool) (NA NU ME BA : LL) (ct en : Int) (NM X : LL) (m i : Int) : Bool := (sumR (qd_R6 d k s sg bg NA NU ME BA ct en NM X m i)).2.2.1
def qd_u6_3_3 (d k s : Int) (sg bg : Bool) (NA NU ME BA : LL) (ct en : Int) (NM X : LL) (m i : Int) : Bool := (sumR (qd_R6 d k s sg bg NA NU ME BA ct en NM X m i)).2.2.2.1
def qd_u6_3_4 (d k s : Int) (sg bg : Bool) (NA NU ME BA : LL) (ct en : Int) (NM X : LL) (m i : Int) : LL := (sumR (qd_R6 d k s sg bg NA NU ME BA ct en NM X m i)).2.2.2.2.1
def qd_u6_3_5 (d k s : Int) (sg bg : Bool) (NA NU ME BA : LL) (ct en : Int) (NM X : LL) (m i : Int) : LL := (sumR (qd_R6 d k s sg bg NA NU ME BA ct en NM X m i)).2.2.2.2.2.1
def qd_u6_3_6 (d k s : Int) (sg bg : Bool) (NA NU ME BA : LL) (ct en : Int) (NM X : LL) (m i : Int) : LL := (sumR (qd_R6 d k s sg bg NA NU ME BA ct en NM X m i)).2.2.2.2.2.2.1
def qd_u6_3_7 (d k s : Int) (sg bg : Bool) (NA NU ME BA : LL) (ct en : Int) (NM X : LL) (m i : Int) : LL := (sumR (qd_R6 d k s sg bg NA NU ME BA ct en NM X m i)).2.2.2.2.2.2.2.1
def qd_u6_3_8 (d k s : Int) (sg bg : Bool) (NA NU ME BA : LL) (ct en : Int) (NM X : LL) (m i : Int) : Int := (sumR (qd_R6 d k s sg bg NA NU ME BA ct en NM X m i)).2.2.2.2.2.2.2.2.1
def qd_u6_3_9 (d k s : Int) (sg bg : Bool) (NA NU ME BA : LL) (ct en : Int) (NM X : LL) (m i : Int) : Int := (sumR (qd_R6 d k s sg bg NA NU ME BA ct en NM X m i)).2.2.2.2.2.2.2.2.2.1
def qd_u6_3_10 (d k s : Int) (sg bg : Bool) (NA NU ME BA : LL) (ct en : Int) (NM X : LL) (m i : Int) : LL := (sumR (qd_R6 d k s sg bg NA NU ME BA ct en NM X m i)).2.2.2.2.2.2.2.2.2.2
def qd_6_fin (d k s : Int) (sg bg : Bool) (NA NU ME BA : LL) (ct en : Int) (NM X : LL) (m i : Int) : Told qd_6_ω := (.br (qd_k6_1 d k s sg bg NA NU ME BA ct en NM X m i) (.leaf (qd_o6_2 d k s sg bg NA NU ME BA ct en NM X m i) (.inl ((qd_u6_2_0 d k s sg bg NA NU ME BA ct en NM X m i), (qd_u6_2_1 d k s sg bg NA NU ME BA ct en NM X m i), (qd_u6_2_2 d k s sg bg NA NU ME BA ct en NM X m i), (qd_u6_2_3 d k s sg bg NA NU ME BA ct en NM X m i), (qd_u6_2_4 d k s sg bg NA NU ME BA ct en NM X m i), (qd_u6_2_5 d k s sg bg NA NU ME BA ct en NM X m i), (qd_u6_2_6 d k s sg bg NA NU ME BA ct en NM X m i), (qd_u6_2_7 d k s sg bg NA NU ME BA ct en NM X m i), (qd_u6_2_8 d k s sg bg NA NU ME BA ct en NM X m i), (qd_u6_2_9 d k s sg bg NA NU ME BA ct en NM X m i), (qd_u6_2_10 d k s sg bg NA NU ME BA ct en NM X m i)))) (.leaf (qd_o6_3 d k s sg bg NA NU ME BA ct en NM X m i) (.inr ((qd_u6_3_0 d k s sg bg NA NU ME BA ct en NM X m i), (qd_u6_3_1 d k s sg bg NA NU ME BA ct en NM X m i), (qd_u6_3_2 d k s sg bg NA NU ME BA ct en NM X m i), (qd_u6_3_3 d k s sg bg NA NU ME BA ct en NM X m i), (qd_u6_3_4 d k s sg bg NA NU ME BA ct en NM X m i), (qd_u6_3_5 d k s sg bg NA NU ME BA ct en NM X m i), (qd_u6_3_6 d k s sg bg NA NU ME BA ct en NM X m i), (qd_u6_3_7 d k s sg bg NA NU ME BA ct en NM X m i), (qd_u6_3_8 d k s sg bg NA NU ME BA ct en NM X m i), (qd_u6_3_9 d k s sg bg NA NU ME BA ct en NM X m i), (qd_u6_3_10 d k s sg bg NA NU ME BA ct en NM X m i)))))
def qd_6_sl (x : qd_6_σ) : List Slot := [⟨.val false [⟨.int .i64, .sh, TC.i (x.1)⟩], ⟨0, 0⟩⟩, ⟨.bx 32 [⟨.int .i64, .sh, TC.i (x.2.1)⟩, ⟨.int .i64, .sh, TC.i (x.2.2.1)⟩, ⟨.bool, .sh, TC.b (x.2.2.2.1)⟩, ⟨.bool, .sh, TC.b (x.2.2.2.2.1)⟩, ⟨.slice 9, .sh, TC.l (x.2.2.2.2.2.1)⟩, ⟨.slice 2, .sh, TC.l (x.2.2.2.2.2.2.1)⟩, ⟨.slice 71, .sh, TC.l (x.2.2.2.2.2.2.2.1)⟩, ⟨.slice 32, .sh, TC.l (x.2.2.2.2.2.2.2.2.1)⟩, ⟨.int .i64, .sh, TC.i (x.2.2.2.2.2.2.2.2.2.1)⟩], ⟨0, 0⟩⟩, ⟨.val false [⟨.int .i64, .sh, TC.i (x.2.2.2.2.2.2.2.2.2.2.1)⟩], ⟨0, 0⟩⟩, ⟨.val false [⟨.slice 9, .own true, TC.l (x.2.2.2.2.2.2.2.2.2.2.2.1)⟩], ⟨0, 0⟩⟩, ⟨.val false [⟨.slice 71, .sh, TC.l (x.2.2.2.2.2.2.2.2.2.2.2.2.1)⟩], ⟨0, 0⟩⟩, ⟨.val false [⟨.int .i64, .sh, TC.i (x.2.2.2.2.2.2.2.2.2.2.2.2.2.1)⟩], ⟨0, 0⟩⟩, ⟨.val false [⟨.int .i64, .sh, TC.i (x.2.2.2.2.2.2.2.2.2.2.2.2.2.2)⟩], ⟨0, 0⟩⟩]
def qd_6_out : qd_6_ω → Ex × List Slot := (Sum.elim (fun x => (.ret, [⟨.bx 32 [⟨.int .i64, .sh, TC.i (x.1)⟩, ⟨.int .i64, .sh, TC.i (x.2.1)⟩, ⟨.bool, .sh, TC.b (x.2.2.1)⟩, ⟨.bool, .sh, TC.b (x.2.2.2.1)⟩, ⟨.slice 9, .sh, TC.l (x.2.2.2.2.1)⟩, ⟨.slice 2, .sh, TC.l (x.2.2.2.2.2.1)⟩, ⟨.slice 71, .sh, TC.l (x.2.2.2.2.2.2.1)⟩, ⟨.slice 32, .sh, TC.l (x.2.2.2.2.2.2.2.1)⟩, ⟨.int .i64, .sh, TC.i (x.2.2.2.2.2.2.2.2.1)⟩], ⟨0, 0⟩⟩, ⟨.val false [⟨.bool, .sh, TC.b false⟩], ⟨0, 0⟩⟩, ⟨.val false [⟨.int .i64, .sh, TC.i (x.2.2.2.2.2.2.2.2.2.1)⟩], ⟨0, 0⟩⟩, ⟨.val false [⟨.slice 9, .own true, TC.l (x.2.2.2.2.2.2.2.2.2.2)⟩], ⟨0, 0⟩⟩])) (fun x => (.exit 0, [⟨.bx 32 [⟨.int .i64, .sh, TC.i (x.1)⟩, ⟨.int .i64, .sh, TC.i (x.2.1)⟩, ⟨.bool, .sh, TC.b (x.2.2.1)⟩, ⟨.bool, .sh, TC.b (x.2.2.2.1)⟩, ⟨.slice 9, .sh, TC.l (x.2.2.2.2.1)⟩, ⟨.slice 2, .sh, TC.l (x.2.2.2.2.2.1)⟩, ⟨.slice 71, .sh, TC.l (x.2.2.2.2.2.2.1)⟩, ⟨.slice 32, .sh, TC.l (x.2.2.2.2.2.2.2.1)⟩, ⟨.int .i64, .sh, TC.i (x.2.2.2.2.2.2.2.2.1)⟩], ⟨0, 0⟩⟩, Slot.none, ⟨.val false [⟨.int .i64, .sh, TC.i (x.2.2.2.2.2.2.2.2.2.1)⟩], ⟨0, 0⟩⟩, ⟨.val false [⟨.slice 9, .own true, TC.l (x.2.2.2.2.2.2.2.2.2.2)⟩], ⟨0, 0⟩⟩])))
def qd_lo6 : List Slot → Option (Told (Ex × List Slot)) := fun s => match s with
  | [⟨.val false [⟨.int .i64, .sh, TC.i d⟩], ⟨0, 0⟩⟩, ⟨.bx 32 [⟨.int .i64, .sh, TC.i k⟩, ⟨.int .i64, .sh, TC.i s⟩, ⟨.bool, .sh, TC.b sg⟩, ⟨.bool, .sh, TC.b bg⟩, ⟨.slice 9, .sh, TC.l NA⟩, ⟨.slice 2, .sh, TC.l NU⟩, ⟨.slice 71, .sh, TC.l ME⟩, ⟨.slice 32, .sh, TC.l BA⟩, ⟨.int .i64, .sh, TC.i ct⟩], ⟨0, 0⟩⟩, ⟨.val false [⟨.int .i64, .sh, TC.i en⟩], ⟨0, 0⟩⟩, ⟨.val false [⟨.slice 9, .own true, TC.l NM⟩], ⟨0, 0⟩⟩, ⟨.val false [⟨.slice 71, .sh, TC.l X⟩], ⟨0, 0⟩⟩, ⟨.val false [⟨.int .i64, .sh, TC.i m⟩], ⟨0, 0⟩⟩, ⟨.val false [⟨.int .i64, .sh, TC.i i⟩], ⟨0, 0⟩⟩] => some (((qd_6_fin d k s sg bg NA NU ME BA ct en NM X m i)).map qd_6_out)
  | _ => .none
def qd_lo : LoopTeller := fun r s => bif Nat.beq r 6 then qd_lo6 s else .none
theorem qd_6_r (d k s : Int) (sg bg : Bool) (NA NU ME BA : LL) (ct en : Int) (NM X : LL) (m i : Int) (fuel : Nat) : rounds (rnd tab FT D50 live 107 qd_lo 0 6) leave (fuel + 1) (qd_6_sl (d, k, s, sg, bg, NA, NU, ME, BA, ct, en, NM, X, m, i)) = ((qd_6_step d k s sg bg NA NU ME BA ct en NM X m i)).run (goOn (fun s => rounds (rnd tab FT D50 live 107 qd_lo 0 6) leave fuel (qd_6_sl s)) fun w => some (qd_6_out w)) := by kernel_rfl
theorem qd_f6_eq (d : Int) (k s : Int) (sg bg : Bool) (NA NU ME BA : LL) (ct : Int) (m i : Int) (e : Int) (NM : LL) : qd_f6 d k s sg bg NA NU ME BA ct ME m i e NM = bif (validV (nth (row ME i) 2).int (nth (row ME i) 3).int (nth (row ME i) 4).bool (nth (row ME i) 5).bool (nth (row ME i) 6).list (nth (row ME i) 7).list (nth (row ME i) 8).list (nth (row ME i) 9).list (nth (row ME i) 10).int d && (!decide ((nth (row ME i) 1).int < e) && !decide ((nth (row ME i) 1).int > 24))) then Sum.inl (IntKind.wrap .i64 ((nth (row ME i) 1).int + isizeV (nth (row ME i) 2).int (nth (row ME i) 3).int (nth (row ME i) 9).list (nth (row ME i) 10).int), NM ++ [[TC.s (nth (row ME i) 0).str]]) else Sum.inr (Sum.inl (k, s, sg, bg, NA, NU, ME, BA, ct, e, NM)) := by
  unfold qd_f6
  rw [show qv_rv (nth (row ME i) 2).int (nth (row ME i) 3).int (nth (row ME i) 4).bool (nth (row ME i) 5).bool (nth (row ME i) 6).list (nth (row ME i) 7).list (nth (row ME i) 8).list (nth (row ME i) 9).list (nth (row ME i) 10).int d = validV (nth (row ME i) 2).int (nth (row ME i) 3).int (nth (row ME i) 4).bool (nth (row ME i) 5).bool (nth (row ME i) 6).list (nth (row ME i) 7).list (nth (row ME i) 8).list (nth (row ME i) 9).list (nth (row ME i) 10).int d from rfl]
  generalize validV (nth (row ME i) 2).int (nth (row ME i) 3).int (nth (row ME i) 4).bool (nth (row ME i) 5).bool (nth (row ME i) 6).list (nth (row ME i) 7).list (nth (row ME i) 8).list (nth (row ME i) 9).list (nth (row ME i) 10).int d = p0, decide ((nth (row ME i) 1).int < e) = p1, decide ((nth (row ME i) 1).int > 24) = p2
  cases p0 <;> cases p1 <;> cases p2 <;> rfl
theorem qd_R6_eq (d : Int) (k s : Int) (sg bg : Bool) (NA NU ME BA : LL) (ct m : Int) : ∃ a : Int × LL, qd_R6 d k s sg bg NA NU ME BA ct 0 [] ME m 0 = bif (allI (memI ME) ME.length && ME.all fun x => validV (nth x 2).int (nth x 3).int (nth x 4).bool (nth x 5).bool (nth x 6).list (nth x 7).list (nth x 8).list (nth x 9).list (nth x 10).int d) then Sum.inr (k, s, sg, bg, NA, NU, ME, BA, ct, endI ME ME.length, nmAt ME ME.length) else Sum.inl (k, s, sg, bg, NA, NU, ME, BA, ct, a.1, a.2) := by
  unfold qd_R6
  obtain ⟨a, ha⟩ := iter_along (f := fun i a => qd_f6 d k s sg bg NA NU ME BA ct ME m (i : Int) a.1 a.2) (fin := fun a => qd_e6 d k s sg bg NA NU ME BA ct ME m a.1 a.2) (P := fun i : Nat => validV (nth (row ME (i : Int)) 2).int (nth (row ME (i : Int)) 3).int (nth (row ME (i : Int)) 4).bool (nth (row ME (i : Int)) 5).bool (nth (row ME (i : Int)) 6).list (nth (row ME (i : Int)) 7).list (nth (row ME (i : Int)) 8).list (nth (row ME (i : Int)) 9).list (nth (row ME (i : Int)) 10).int d && (!decide ((nth (row ME (i : Int)) 1).int < endI ME i) && !decide ((nth (row ME (i : Int)) 1).int > 24))) (A := fun j => (endI ME j, nmAt ME j)) (w := fun a => Sum.inl (k, s, sg, bg, NA, NU, ME, BA, ct, a.1, a.2)) (N := ME.length) (fun j _ => qd_f6_eq d k s sg bg NA NU ME BA ct m (j : Int) (endI ME j) (nmAt ME j))
  refine ⟨a, ha.trans ?_⟩
  rw [show allI (fun i : Nat => validV (nth (row ME (i : Int)) 2).int (nth (row ME (i : Int)) 3).int (nth (row ME (i : Int)) 4).bool (nth (row ME (i : Int)) 5).bool (nth (row ME (i : Int)) 6).list (nth (row ME (i : Int)) 7).list (nth (row ME (i : Int)) 8).list (nth (row ME (i : Int)) 9).list (nth (row ME (i : Int)) 10).int d && (!decide ((nth (row ME (i : Int)) 1).int < endI ME i) && !decide ((nth (row ME (i : Int)) 1).int > 24))) ME.length = (allI (memI ME) ME.length && ME.all fun x => validV (nth x 2).int (nth x 3).int (nth x 4).bool (nth x 5).bool (nth x 6).list (nth x 7).list (nth x 8).list (nth x 9).list (nth x 10).int d) from by
    rw [← allI_rows, Bool.and_comm, ← allI_and]
    rfl]
  rfl
theorem qd_6_h (d k s : Int) (sg bg : Bool) (NA NU ME BA : LL) (ct en : Int) (NM X : LL) (m i : Int) (ow : qd_6_ω) : ((qd_6_fin d k s sg bg NA NU ME BA ct en NM X m i)).val = some ow → ∃ fuel, loopN qd_6_st fuel (d, k, s, sg, bg, NA, NU, ME, BA, ct, en, NM, X, m, i) = some ow := by
  refine auto_sum (R := (qd_R6 d k s sg bg NA NU ME BA ct en NM X m i)) rfl rfl rfl ?_
  intro ho
  have ho : is (i = 0 ∧ ME = X ∧ m = (ME.length : Int) ∧ en = 0 ∧ NM = [] ∧ Typed tab (.slice 71) (.l ME) ∧ (∀ x : List TC, x ∈ ME → qv_rc (nth x 2).int (nth x 3).int (nth x 4).bool (nth x 5).bool (nth x 6).list (nth x 7).list (nth x 8).list (nth x 9).list (nth x 10).int d = true) ∧ (∀ x : List TC, x ∈ ME → (!(qv_rv (nth x 2).int (nth x 3).int (nth x 4).bool (nth x 5).bool (nth x 6).list (nth x 7).list (nth x 8).list (nth x 9).list (nth x 10).int d)) = false → qw_rc (nth x 2).int (nth x 3).int (nth x 4).bool (nth x 5).bool (nth x 6).list (nth x 7).list (nth x 8).list (nth x 9).list (nth x 10).int = true)) = true := ho.elim id id
  obtain ⟨rfl, rfl, rfl, rfl, rfl, ht, hr, hz⟩ := is_iff.1 ho
  have hlen : ME.length ≤ 140737488351232 := by have := typed_room ht; simp only [show (tab 71).bytes = 152 from rfl] at this; omega
  have hroom := typed_room ht
  simp only [show (tab 71).bytes = 152 from rfl] at hroom
  refine ⟨(ME.length) + 1, ?_⟩
  refine iter_loop (step := qd_6_st) (a := ((0 : Int), ([] : LL))) (ME.length) (fun i a => (qd_f6 d k s sg bg NA NU ME BA ct ME (ME.length : Int) (i : Int) (a.1) (a.2))) (fun a => (qd_e6 d k s sg bg NA NU ME BA ct ME (ME.length : Int) (a.1) (a.2))) (fun i a => (d, k, s, sg, bg, NA, NU, ME, BA, ct, a.1, a.2, ME, (ME.length : Int), (i : Int))) (fun i (a : Int × LL) => a.2.length = i) rfl (fun i a hi hI => ⟨?_, fun a' h => by
    unfold qd_f6 at h
    generalize (!(qv_rv (nth (row ME (i : Int)) 2).int (nth (row ME (i : Int)) 3).int (nth (row ME (i : Int)) 4).bool (nth (row ME (i : Int)) 5).bool (nth (row ME (i : Int)) 6).list (nth (row ME (i : Int)) 7).list (nth (row ME (i : Int)) 8).list (nth (row ME (i : Int)) 9).list (nth (row ME (i : Int)) 10).int d)) = q0, decide ((nth (row ME (i : Int)) 1).int < a.1) = q1, decide ((nth (row ME (i : Int)) 1).int > 24) = q2 at h
    cases q0 <;> cases q1 <;> cases q2 <;> first | (cases h; done) | (cases h; show (a.2 ++ _).length = i + 1; rw [List.length_append, hI]; rfl)⟩) (fun a hI => ?_)
  · show (qd_6_step d k s sg bg NA NU ME BA ct (a.1) (a.2) ME (ME.length : Int) (i : Int)).val = _
    unfold qd_6_step qd_f6
    have c0 : Typed tab (.str) (.s (nth (ME.getD i []) 0).str) := typed_s (typed_cell ht (ME.getD i []) (mem_getD hi) 0 (by decide))
    have c6 : Typed tab (.slice 9) (.l (nth (ME.getD i []) 6).list) := typed_list (typed_cell ht (ME.getD i []) (mem_getD hi) 6 (by decide))
    have c7 : Typed tab (.slice 2) (.l (nth (ME.getD i []) 7).list) := typed_list (typed_cell ht (ME.getD i []) (mem_getD hi) 7 (by decide))
    have c8 : Typed tab (.slice 71) (.l (nth (ME.getD i []) 8).list) := typed_list (typed_cell ht (ME.getD i []) (mem_getD hi) 8 (by decide))
    have c9 : Typed tab (.slice 32) (.l (nth (ME.getD i []) 9).list) := typed_list (typed_cell ht (ME.getD i []) (mem_getD hi) 9 (by decide))
    refine Tr.t (by simp; omega) ?_
    exact (Tr.t (by first | omega | (constructor <;> omega) | (exact hr _ (mem_getD (by omega))) | (exact hz _ (mem_getD (by omega)) (by assumption)) | ((unfold roomFor; simp only [show (tab 9).bytes = 16 from rfl, List.length_append, List.length_singleton]; omega))) (Tr.t (by first | omega | (constructor <;> omega) | (exact hr _ (mem_getD (by omega))) | (exact hz _ (mem_getD (by omega)) (by assumption)) | ((unfold roomFor; simp only [show (tab 9).bytes = 16 from rfl, List.length_append, List.length_singleton]; omega))) (Tr.bh (fun _ => rfl) (fun _ => (Tr.bh (fun _ => rfl) (fun _ => (Tr.bh (fun _ => rfl) (fun _ => (Tr.t (by first | omega | (constructor <;> omega) | (exact hr _ (mem_getD (by omega))) | (exact hz _ (mem_getD (by omega)) (by assumption)) | ((unfold roomFor; simp only [show (tab 9).bytes = 16 from rfl, List.length_append, List.length_singleton]; omega))) (Tr.t (by first | omega | (constructor <;> omega) | (exact hr _ (mem_getD (by omega))) | (exact hz _ (mem_getD (by omega)) (by assumption)) | ((unfold roomFor; simp only [show (tab 9).bytes = 16 from rfl, List.length_append, List.length_singleton]; omega))) (by rw [Tr.val_ok, wrap64 (i := (i : Int) + 1) (by omega) (by omega)]; rfl)))))))))))
  · show (qd_6_step d k s sg bg NA NU ME BA ct (a.1) (a.2) ME (ME.length : Int) (ME.length : Int)).val = _
    refine Tr.n (by first | (simp; done) | (simp; omega) | omega) ?_
    rfl
theorem qd_is6 : LoopIs tab FT D50 live 107 qd_lo 0 6 := by
  refine loop_told (sl := qd_6_sl) (step := qd_6_st) (out := qd_6_out) (lor := qd_lo6) (fin := fun x => (qd_6_fin (x.1) (x.2.1) (x.2.2.1) (x.2.2.2.1) (x.2.2.2.2.1) (x.2.2.2.2.2.1) (x.2.2.2.2.2.2.1) (x.2.2.2.2.2.2.2.1) (x.2.2.2.2.2.2.2.2.1) (x.2.2.2.2.2.2.2.2.2.1) (x.2.2.2.2.2.2.2.2.2.2.1) (x.2.2.2.2.2.2.2.2.2.2.2.1) (x.2.2.2.2.2.2.2.2.2.2.2.2.1) (x.2.2.2.2.2.2.2.2.2.2.2.2.2.1) (x.2.2.2.2.2.2.2.2.2.2.2.2.2.2))) (fun _ => rfl) ?_ (fun x n => qd_6_r x.1 x.2.1 x.2.2.1 x.2.2.2.1 x.2.2.2.2.1 x.2.2.2.2.2.1 x.2.2.2.2.2.2.1 x.2.2.2.2.2.2.2.1 x.2.2.2.2.2.2.2.2.1 x.2.2.2.2.2.2.2.2.2.1 x.2.2.2.2.2.2.2.2.2.2.1 x.2.2.2.2.2.2.2.2.2.2.2.1 x.2.2.2.2.2.2.2.2.2.2.2.2.1 x.2.2.2.2.2.2.2.2.2.2.2.2.2.1 x.2.2.2.2.2.2.2.2.2.2.2.2.2.2 n) (fun x ow => qd_6_h x.1 x.2.1 x.2.2.1 x.2.2.2.1 x.2.2.2.2.1 x.2.2.2.2.2.1 x.2.2.2.2.2.2.1 x.2.2.2.2.2.2.2.1 x.2.2.2.2.2.2.2.2.1 x.2.2.2.2.2.2.2.2.2.1 x.2.2.2.2.2.2.2.2.2.2.1 x.2.2.2.2.2.2.2.2.2.2.2.1 x.2.2.2.2.2.2.2.2.2.2.2.2.1 x.2.2.2.2.2.2.2.2.2.2.2.2.2.1 x.2.2.2.2.2.2.2.2.2.2.2.2.2.2 ow)
  intro s t h
  unfold qd_lo6 at h
  split at h
  · cases h; exact ⟨(_, _, _, _, _, _, _, _, _, _, _, _, _, _, _), rfl, rfl⟩
  · cases h
def qd_t (k s : Int) (sg bg : Bool) (NA NU ME BA : LL) (ct d : Int) : Tr (Bool) := (.ite ((!(qce_v s (1 : Int) (24 : Int))) = true) (.ok false)
  (.ite ((!(qce_v (ME.length : Int) (1 : Int) (4 : Int))) = true) (.ok false)
   (.ite ((qd_k6_1 d k s sg bg NA NU ME BA ct (0 : Int) [] ME (ME.length : Int) (0 : Int)) = true) (.ite ((qd_o6_2 d k s sg bg NA NU ME BA ct (0 : Int) [] ME (ME.length : Int) (0 : Int)) = true) (.ok false)
     .no)
    (.ite ((qd_o6_3 d k s sg bg NA NU ME BA ct (0 : Int) [] ME (ME.length : Int) (0 : Int)) = true) (.ite ((decide ((qd_u6_3_9 d k s sg bg NA NU ME BA ct (0 : Int) [] ME (ME.length : Int) (0 : Int)) ≤ (qd_u6_3_1 d k s sg bg NA NU ME BA ct (0 : Int) [] ME (ME.length : Int) (0 : Int)))) = true) (.ite ((qk_c (qd_u6_3_10 d k s sg bg NA NU ME BA ct (0 : Int) [] ME (ME.length : Int) (0 : Int))) = true) (.ok (qk_v (qd_u6_3_10 d k s sg bg NA NU ME BA ct (0 : Int) [] ME (ME.length : Int) (0 : Int))))
       .no)
      (.ok false))
     .no))))
def qd_mk (p : Bool) : Res := [(false, [⟨.bool, .sh, TC.b p⟩])]
def qd_c (k s : Int) (sg bg : Bool) (NA NU ME BA : LL) (ct d : Int) : Bool := (bif (!(qce_v s (1 : Int) (24 : Int))) then true else (bif (!(qce_v (ME.length : Int) (1 : Int) (4 : Int))) then true else (bif (qd_k6_1 d k s sg bg NA NU ME BA ct (0 : Int) [] ME (ME.length : Int) (0 : Int)) then ((qd_o6_2 d k s sg bg NA NU ME BA ct (0 : Int) [] ME (ME.length : Int) (0 : Int)) && true) else ((qd_o6_3 d k s sg bg NA NU ME BA ct (0 : Int) [] ME (ME.length : Int) (0 : Int)) && (bif (decide ((qd_u6_3_9 d k s sg bg NA NU ME BA ct (0 : Int) [] ME (ME.length : Int) (0 : Int)) ≤ (qd_u6_3_1 d k s sg bg NA NU ME BA ct (0 : Int) [] ME (ME.length : Int) (0 : Int)))) then ((qk_c (qd_u6_3_10 d k s sg bg NA NU ME BA ct (0 : Int) [] ME (ME.length : Int) (0 : Int))) && true) else true)))))
def qd_v (k s : Int) (sg bg : Bool) (NA NU ME BA : LL) (ct d : Int) : Bool := (bif (!(qce_v s (1 : Int) (24 : Int))) then false else (bif (!(qce_v (ME.length : Int) (1 : Int) (4 : Int))) then false else (bif (qd_k6_1 d k s sg bg NA NU ME BA ct (0 : Int) [] ME (ME.length : Int) (0 : Int)) then false else (bif (decide ((qd_u6_3_9 d k s sg bg NA NU ME BA ct (0 : Int) [] ME (ME.length : Int) (0 : Int)) ≤ (qd_u6_3_1 d k s sg bg NA NU ME BA ct (0 : Int) [] ME (ME.length : Int) (0 : Int)))) then (qk_v (qd_u6_3_10 d k s sg bg NA NU ME BA ct (0 : Int) [] ME (ME.length : Int) (0 : Int))) else false))))
theorem qd_l (k s : Int) (sg bg : Bool) (NA NU ME BA : LL) (ct d : Int) : (qd_c k s sg bg NA NU ME BA ct d) = true → (qd_t k s sg bg NA NU ME BA ct d).val = some (qd_v k s sg bg NA NU ME BA ct d) := by
  unfold qd_t qd_v qd_c
  exact fun h => (Tr.ss h (fun h => rfl) (fun h => (Tr.ss h (fun h => rfl) (fun h => (Tr.ss h (fun h => (Tr.gb h fun h => rfl)) (fun h => (Tr.gb h fun h => (Tr.ss h (fun h => (Tr.gb h fun h => rfl)) (fun h => rfl)))))))))
def qd_S : List Arg → Option (Bool × Res) := fun xs => match xs with
  | [(true, [(.int .i64, TC.i k), (.int .i64, TC.i s), (.bool, TC.b sg), (.bool, TC.b bg), (.slice 9, TC.l NA), (.slice 2, TC.l NU), (.slice 71, TC.l ME), (.slice 32, TC.l BA), (.int .i64, TC.i ct)]), (false, [(.int .i64, TC.i d)])] => some ((qd_c k s sg bg NA NU ME BA ct d), qd_mk (qd_v k s sg bg NA NU ME BA ct d))
  | _ => .none
theorem qd_e (k s : Int) (sg bg : Bool) (NA NU ME BA : LL) (ct d : Int) : runF tab FT D50 live 107 qd_lo [(true, [(.int .i64, TC.i k), (.int .i64, TC.i s), (.bool, TC.b sg), (.bool, TC.b bg), (.slice 9, TC.l NA), (.slice 2, TC.l NU), (.slice 71, TC.l ME), (.slice 32, TC.l BA), (.int .i64, TC.i ct)]), (false, [(.int .i64, TC.i d)])] = (qd_t k s sg bg NA NU ME BA ct d).run fun p => some (qd_mk p) := by kernel_rfl
theorem qd_s : ∀ xs r, qd_S xs = some (true, r) → runF tab FT D50 live 107 qd_lo xs = some r := by
  intro xs r h
  unfold qd_S at h
  split at h
  · obtain ⟨h1, rfl⟩ := sp h
    exact fun_told (qd_e ..) (qd_l _ _ _ _ _ _ _ _ _ _) h1
  · cases h
def D51 : Dt := also D50 107 qd_S
theorem d51 : DOk Go.Proofs.Try.prog tab D51 := d50.also mixed_ok tab_ok names_ok (fnLoops_one (by kernel_rfl) qd_is6) qd_s
theorem nm_typed {ME : LL} (ht : Typed tab (.slice 71) (.l ME)) : Typed tab (.slice 9) (.l (nmAt ME ME.length)) := by
  have hroom := typed_room ht
  simp only [show (tab 71).bytes = 152 from rfl] at hroom
  have hm : (140737488351232 : Nat) ≤ maxLen := by unfold maxLen; omega
  rw [nmAt_all]
  refine .slice _ _ (by rw [List.length_map, show (tab 9).bytes = 16 from rfl]; show _ ≤ 140737488351232; omega) (by rw [List.length_map]; omega) (fun x hx => ?_) (fun x hx k hk => ?_)
  · obtain ⟨y, _, rfl⟩ := List.mem_map.1 hx; rfl
  · obtain ⟨y, hy, rfl⟩ := List.mem_map.1 hx
    have hk : k = 0 := by have : k < 1 := hk; omega
    subst hk
    exact typed_s ((typed_elem ht hy).2 0 (by decide))
theorem comp_u {d : Int} {k s : Int} {sg bg : Bool} {NA NU ME BA : LL} {ct : Int} {m : Int} (h : qd_k6_1 d k s sg bg NA NU ME BA ct 0 [] ME m 0 = false) : qd_u6_3_10 d k s sg bg NA NU ME BA ct 0 [] ME m 0 = nmAt ME ME.length := by
  unfold qd_u6_3_10
  unfold qd_k6_1 at h
  obtain ⟨a, ha⟩ := qd_R6_eq d k s sg bg NA NU ME BA ct m
  rw [ha] at h ⊢
  generalize (allI (memI ME) ME.length && ME.all fun x => validV (nth x 2).int (nth x 3).int (nth x 4).bool (nth x 5).bool (nth x 6).list (nth x 7).list (nth x 8).list (nth x 9).list (nth x 10).int d) = q at h ⊢
  cases q
  · cases h
  · rfl
theorem qd_cc {k : Int} {s : Int} {sg : Bool} {bg : Bool} {NA : LL} {NU : LL} {ME : LL} {BA : LL} {ct : Int} {d : Int} (ht : Typed tab (.slice 71) (.l ME)) (hr : (∀ x : List TC, x ∈ ME → qv_rc (nth x 2).int (nth x 3).int (nth x 4).bool (nth x 5).bool (nth x 6).list (nth x 7).list (nth x 8).list (nth x 9).list (nth x 10).int d = true)) (hz : (∀ x : List TC, x ∈ ME → (!(qv_rv (nth x 2).int (nth x 3).int (nth x 4).bool (nth x 5).bool (nth x 6).list (nth x 7).list (nth x 8).list (nth x 9).list (nth x 10).int d)) = false → qw_rc (nth x 2).int (nth x 3).int (nth x 4).bool (nth x 5).bool (nth x 6).list (nth x 7).list (nth x 8).list (nth x 9).list (nth x 10).int = true)) : (qd_c k s sg bg NA NU ME BA ct d) = true := by
  unfold qd_c
  refine bifT (fun b1 => ?_) (fun b1 => ?_)
  · skip
    rfl
  · skip
    refine bifT (fun b2 => ?_) (fun b2 => ?_)
    · skip
      rfl
    · skip
      refine bifT (fun b3 => ?_) (fun b3 => ?_)
      · skip
        refine andT (by exact is_true ⟨rfl, rfl, rfl, rfl, rfl, ht, hr, hz⟩) ?_
        rfl
      · skip
        refine andT (by exact is_true ⟨rfl, rfl, rfl, rfl, rfl, ht, hr, hz⟩) ?_
        refine bifT (fun b4 => ?_) (fun b4 => ?_)
        · skip
          refine andT (by rw [comp_u b3]; exact qk_cc (nm_typed ht)) ?_
          rfl
        · skip
          rfl
theorem qd_vv (k s : Int) (sg bg : Bool) (NA NU ME BA : LL) (ct d : Int) : qd_v k s sg bg NA NU ME BA ct d = (inB s 1 24 && (inB (ME.length : Int) 1 4 && ((allI (memI ME) ME.length && ME.all fun x => validV (nth x 2).int (nth x 3).int (nth x 4).bool (nth x 5).bool (nth x 6).list (nth x 7).list (nth x 8).list (nth x 9).list (nth x 10).int d) && (decide (endI ME ME.length ≤ s) && allI (fun i : Nat => dnP ME (i : Int)) ME.length)))) := by
  unfold qd_v
  obtain ⟨a, ha⟩ := qd_R6_eq d k s sg bg NA NU ME BA ct (ME.length : Int)
  unfold qd_k6_1 qd_u6_3_9 qd_u6_3_1 qd_u6_3_10
  rw [ha, show qce_v s 1 24 = inB s 1 24 from rfl, show qce_v (ME.length : Int) 1 4 = inB (ME.length : Int) 1 4 from rfl]
  have hn : allI (fun i : Nat => dnP (nmAt ME ME.length) (i : Int)) (nmAt ME ME.length).length = allI (fun i : Nat => dnP ME (i : Int)) ME.length := by
    rw [nmAt_len]
    exact allI_congr fun i hi => by unfold dnP; rw [nm_str hi, nm_dup hi]
  generalize (allI (memI ME) ME.length && ME.all fun x => validV (nth x 2).int (nth x 3).int (nth x 4).bool (nth x 5).bool (nth x 6).list (nth x 7).list (nth x 8).list (nth x 9).list (nth x 10).int d) = q
  cases q
  · simp only [bif_nf, bif_tf, bif_ft, Bool.not_not, Bool.false_and, Bool.and_false]
    show (inB s 1 24 && (inB (ME.length : Int) 1 4 && false)) = false
    simp only [Bool.and_false]
  · show (bif !(inB s 1 24) then false else bif !(inB (ME.length : Int) 1 4) then false else bif false then false else bif decide (endI ME ME.length ≤ s) then qk_v (nmAt ME ME.length) else false) = _
    rw [qk_vv, hn]
    simp only [bif_nf, bif_tf, bif_ft, Bool.not_not, Bool.true_and, Bool.not_false]
def qv_t (k s : Int) (sg bg : Bool) (NA NU ME BA : LL) (ct d : Int) : Tr (Bool) := (.ite ((decide (d < (1 : Int))) = true) (.ok false)
  (.ite ((qba_rc k s sg bg NA NU ME BA ct ((qbn_v k s sg bg NA NU ME BA ct).1) ((qbn_v k s sg bg NA NU ME BA ct).2.1) ((qbn_v k s sg bg NA NU ME BA ct).2.2.1) ((qbn_v k s sg bg NA NU ME BA ct).2.2.2.1) ((qbn_v k s sg bg NA NU ME BA ct).2.2.2.2.1) ((qbn_v k s sg bg NA NU ME BA ct).2.2.2.2.2.1) ((qbn_v k s sg bg NA NU ME BA ct).2.2.2.2.2.2.1) ((qbn_v k s sg bg NA NU ME BA ct).2.2.2.2.2.2.2.1) ((qbn_v k s sg bg NA NU ME BA ct).2.2.2.2.2.2.2.2)) = true) (.ite ((!(qba_rv k s sg bg NA NU ME BA ct ((qbn_v k s sg bg NA NU ME BA ct).1) ((qbn_v k s sg bg NA NU ME BA ct).2.1) ((qbn_v k s sg bg NA NU ME BA ct).2.2.1) ((qbn_v k s sg bg NA NU ME BA ct).2.2.2.1) ((qbn_v k s sg bg NA NU ME BA ct).2.2.2.2.1) ((qbn_v k s sg bg NA NU ME BA ct).2.2.2.2.2.1) ((qbn_v k s sg bg NA NU ME BA ct).2.2.2.2.2.2.1) ((qbn_v k s sg bg NA NU ME BA ct).2.2.2.2.2.2.2.1) ((qbn_v k s sg bg NA NU ME BA ct).2.2.2.2.2.2.2.2))) = true) (.ok false)
    (.ite ((k == (1 : Int)) = true) (.ite ((qbz_c k s sg bg NA NU ME BA ct) = true) (.ok (qbz_v k s sg bg NA NU ME BA ct))
      .no)
     (.ite ((k == (2 : Int)) = true) (.ok (qce_v s (1 : Int) (16 : Int)))
      (.ite ((k == (3 : Int)) = true) (.ite ((qu_c k s sg bg NA NU ME BA ct) = true) (.ok (qu_v k s sg bg NA NU ME BA ct))
        .no)
       (.ite ((k == (4 : Int)) = true) (.ite ((qd_c k s sg bg NA NU ME BA ct (IntKind.wrap .i64 (d - (1 : Int)))) = true) (.ok (qd_v k s sg bg NA NU ME BA ct (IntKind.wrap .i64 (d - (1 : Int)))))
         .no)
        (.ite ((k == (5 : Int)) = true) (.ite ((qce_v ct (1 : Int) (4 : Int)) = true) (.ite (((BA.length : Int) == (1 : Int)) = true) (.ite ((0 : Int) ≤ (0 : Int) ∧ (0 : Int) < (BA.length : Int)) (.ite ((qv_rc ((nth (row BA (0 : Int)) 0).int) ((nth (row BA (0 : Int)) 1).int) ((nth (row BA (0 : Int)) 2).bool) ((nth (row BA (0 : Int)) 3).bool) ((nth (row BA (0 : Int)) 4).list) ((nth (row BA (0 : Int)) 5).list) ((nth (row BA (0 : Int)) 6).list) ((nth (row BA (0 : Int)) 7).list) ((nth (row BA (0 : Int)) 8).int) (IntKind.wrap .i64 (d - (1 : Int)))) = true) (.ite ((qv_rv ((nth (row BA (0 : Int)) 0).int) ((nth (row BA (0 : Int)) 1).int) ((nth (row BA (0 : Int)) 2).bool) ((nth (row BA (0 : Int)) 3).bool) ((nth (row BA (0 : Int)) 4).list) ((nth (row BA (0 : Int)) 5).list) ((nth (row BA (0 : Int)) 6).list) ((nth (row BA (0 : Int)) 7).list) ((nth (row BA (0 : Int)) 8).int) (IntKind.wrap .i64 (d - (1 : Int)))) = true) (.ite ((qw_rc k s sg bg NA NU ME BA ct) = true) (.ok (decide ((qw_rv k s sg bg NA NU ME BA ct) ≤ (24 : Int))))
               .no)
              (.ok false))
             .no)
            .no)
           (.ok false))
          (.ok false))
         (.ite ((k == (6 : Int)) = true) (.ok (s == (2 : Int)))
          (.ok false))))))))
   .no))
def qv_mk (p : Bool) : Res := [(false, [⟨.bool, .sh, TC.b p⟩])]
def qv_c (k s : Int) (sg bg : Bool) (NA NU ME BA : LL) (ct d : Int) : Bool := (bif (decide (d < (1 : Int))) then true else ((qba_rc k s sg bg NA NU ME BA ct ((qbn_v k s sg bg NA NU ME BA ct).1) ((qbn_v k s sg bg NA NU ME BA ct).2.1) ((qbn_v k s sg bg NA NU ME BA ct).2.2.1) ((qbn_v k s sg bg NA NU ME BA ct).2.2.2.1) ((qbn_v k s sg bg NA NU ME BA ct).2.2.2.2.1) ((qbn_v k s sg bg NA NU ME BA ct).2.2.2.2.2.1) ((qbn_v k s sg bg NA NU ME BA ct).2.2.2.2.2.2.1) ((qbn_v k s sg bg NA NU ME BA ct).2.2.2.2.2.2.2.1) ((qbn_v k s sg bg NA NU ME BA ct).2.2.2.2.2.2.2.2)) && (bif (!(qba_rv k s sg bg NA NU ME BA ct ((qbn_v k s sg bg NA NU ME BA ct).1) ((qbn_v k s sg bg NA NU ME BA ct).2.1) ((qbn_v k s sg bg NA NU ME BA ct).2.2.1) ((qbn_v k s sg bg NA NU ME BA ct).2.2.2.1) ((qbn_v k s sg bg NA NU ME BA ct).2.2.2.2.1) ((qbn_v k s sg bg NA NU ME BA ct).2.2.2.2.2.1) ((qbn_v k s sg bg NA NU ME BA ct).2.2.2.2.2.2.1) ((qbn_v k s sg bg NA NU ME BA ct).2.2.2.2.2.2.2.1) ((qbn_v k s sg bg NA NU ME BA ct).2.2.2.2.2.2.2.2))) then true else (bif (k == (1 : Int)) then ((qbz_c k s sg bg NA NU ME BA ct) && true) else (bif (k == (2 : Int)) then true else (bif (k == (3 : Int)) then ((qu_c k s sg bg NA NU ME BA ct) && true) else (bif (k == (4 : Int)) then ((qd_c k s sg bg NA NU ME BA ct (IntKind.wrap .i64 (d - (1 : Int)))) && true) else (bif (k == (5 : Int)) then (bif (qce_v ct (1 : Int) (4 : Int)) then (bif ((BA.length : Int) == (1 : Int)) then (is ((0 : Int) ≤ (0 : Int) ∧ (0 : Int) < (BA.length : Int)) && ((qv_rc ((nth (row BA (0 : Int)) 0).int) ((nth (row BA (0 : Int)) 1).int) ((nth (row BA (0 : Int)) 2).bool) ((nth (row BA (0 : Int)) 3).bool) ((nth (row BA (0 : Int)) 4).list) ((nth (row BA (0 : Int)) 5).list) ((nth (row BA (0 : Int)) 6).list) ((nth (row BA (0 : Int)) 7).list) ((nth (row BA (0 : Int)) 8).int) (IntKind.wrap .i64 (d - (1 : Int)))) && (bif (qv_rv ((nth (row BA (0 : Int)) 0).int) ((nth (row BA (0 : Int)) 1).int) ((nth (row BA (0 : Int)) 2).bool) ((nth (row BA (0 : Int)) 3).bool) ((nth (row BA (0 : Int)) 4).list) ((nth (row BA (0 : Int)) 5).list) ((nth (row BA (0 : Int)) 6).list) ((nth (row BA (0 : Int)) 7).list) ((nth (row BA (0 : Int)) 8).int) (IntKind.wrap .i64 (d - (1 : Int)))) then ((qw_rc k s sg bg NA NU ME BA ct) && true) else true))) else true) else true) else (bif (k == (6 : Int)) then true else true)))))))))
def qv_v (k s : Int) (sg bg : Bool) (NA NU ME BA : LL) (ct d : Int) : Bool := (bif (decide (d < (1 : Int))) then false else (bif (!(qba_rv k s sg bg NA NU ME BA ct ((qbn_v k s sg bg NA NU ME BA ct).1) ((qbn_v k s sg bg NA NU ME BA ct).2.1) ((qbn_v k s sg bg NA NU ME BA ct).2.2.1) ((qbn_v k s sg bg NA NU ME BA ct).2.2.2.1) ((qbn_v k s sg bg NA NU ME BA ct).2.2.2.2.1) ((qbn_v k s sg bg NA NU ME BA ct).2.2.2.2.2.1) ((qbn_v k s sg bg NA NU ME BA ct).2.2.2.2.2.2.1) ((qbn_v k s sg bg NA NU ME BA ct).2.2.2.2.2.2.2.1) ((qbn_v k s sg bg NA NU ME BA ct).2.2.2.2.2.2.2.2))) then false else (bif (k == (1 : Int)) then (qbz_v k s sg bg NA NU ME BA ct) else (bif (k == (2 : Int)) then (qce_v s (1 : Int) (16 : Int)) else (bif (k == (3 : Int)) then (qu_v k s sg bg NA NU ME BA ct) else (bif (k == (4 : Int)) then (qd_v k s sg bg NA NU ME BA ct (IntKind.wrap .i64 (d - (1 : Int)))) else (bif (k == (5 : Int)) then (bif (qce_v ct (1 : Int) (4 : Int)) then (bif ((BA.length : Int) == (1 : Int)) then (bif (qv_rv ((nth (row BA (0 : Int)) 0).int) ((nth (row BA (0 : Int)) 1).int) ((nth (row BA (0 : Int)) 2).bool) ((nth (row BA (0 : Int)) 3).bool) ((nth (row BA (0 : Int)) 4).list) ((nth (row BA (0 : Int)) 5).list) ((nth (row BA (0 : Int)) 6).list) ((nth (row BA (0 : Int)) 7).list) ((nth (row BA (0 : Int)) 8).int) (IntKind.wrap .i64 (d - (1 : Int)))) then (decide ((qw_rv k s sg bg NA NU ME BA ct) ≤ (24 : Int))) else false) else false) else false) else (bif (k == (6 : Int)) then (s == (2 : Int)) else false))))))))
theorem qv_l (k s : Int) (sg bg : Bool) (NA NU ME BA : LL) (ct d : Int) : (qv_c k s sg bg NA NU ME BA ct d) = true → (qv_t k s sg bg NA NU ME BA ct d).val = some (qv_v k s sg bg NA NU ME BA ct d) := by
  unfold qv_t qv_v qv_c
  intro h
  repeat' first | refine Tr.gb h fun h => ?_ | refine Tr.gs h fun h => ?_ | refine Tr.ss h (fun h => ?_) fun h => ?_ | exact rfl
theorem qv_e (k s : Int) (sg bg : Bool) (NA NU ME BA : LL) (ct d : Int) : runF tab FT D51 live 73 noLoops [(true, [(.int .i64, TC.i k), (.int .i64, TC.i s), (.bool, TC.b sg), (.bool, TC.b bg), (.slice 9, TC.l NA), (.slice 2, TC.l NU), (.slice 71, TC.l ME), (.slice 32, TC.l BA), (.int .i64, TC.i ct)]), (false, [(.int .i64, TC.i d)])] = (qv_t k s sg bg NA NU ME BA ct d).run fun p => some (qv_mk p) := by kernel_rfl
theorem qv_nx (k s : Int) (sg bg : Bool) (NA NU ME BA : LL) (ct d : Int) : is (max (rowsDep ME) (rowsDep BA) < qv_O.n + 1 ∧ d ≤ 3 ∧ max (rowsDep ME) (rowsDep BA) < qba_O.n ∧ max (rowsDep ME) (rowsDep BA) < qw_O.n ∧ Typed tab (.slice 9) (.l NA) ∧ Typed tab (.slice 2) (.l NU) ∧ Typed tab (.slice 71) (.l ME) ∧ Typed tab (.slice 32) (.l BA)) = true → (qv_c k s sg bg NA NU ME BA ct d) = true ∧ (qv_v k s sg bg NA NU ME BA ct d) = validV k s sg bg NA NU ME BA ct d := by
  intro h
  obtain ⟨hM, hd, hS, hZ, t4, t5, t6, t7⟩ := is_iff.1 h
  by_cases hd1 : d < 1
  · refine ⟨by unfold qv_c; rw [decide_eq_true hd1]; rfl, ?_⟩
    unfold qv_v validV
    rw [decide_eq_true hd1]
    show false = _
    cases hk : okV k s sg bg NA NU ME BA ct with
    | false => rfl
    | true => have := okV_pos hk; rw [decide_eq_false (by omega)]; rfl
  have hsame : ∀ (k' s' : Int) (sg' bg' : Bool) (A B C D : LL) (ct' : Int), Typed tab (.slice 9) (.l A) → Typed tab (.slice 2) (.l B) → Typed tab (.slice 71) (.l C) → Typed tab (.slice 32) (.l D) → qba_rc k s sg bg NA NU ME BA ct k' s' sg' bg' A B C D ct' = true :=
    fun _ _ _ _ _ _ _ _ _ a b c e => is_true ⟨by omega, t4, t5, t6, t7, a, b, c, e⟩
  have hv : ∀ (k' s' : Int) (sg' bg' : Bool) (A B C D : LL) (ct' : Int), qba_rv k s sg bg NA NU ME BA ct k' s' sg' bg' A B C D ct' = sameV k s sg bg NA NU ME BA ct k' s' sg' bg' A B C D ct' := fun _ _ _ _ _ _ _ _ _ => rfl
  have z4 : Typed tab (.slice 9) (.l []) := typed_none
  have z5 : Typed tab (.slice 2) (.l []) := typed_none
  have z6 : Typed tab (.slice 71) (.l []) := typed_none
  have z7 : Typed tab (.slice 32) (.l []) := typed_none
  have w1 : IntKind.wrap .i64 (d - 1) = d - 1 := wrap64 (by omega) (by omega)
  have e0 : decide (d < 1) = false := decide_eq_false hd1
  have hbase : ∀ d', d' ≤ 3 → 0 < BA.length → qv_rc (nth (row BA (0 : Int)) 0).int (nth (row BA (0 : Int)) 1).int (nth (row BA (0 : Int)) 2).bool (nth (row BA (0 : Int)) 3).bool (nth (row BA (0 : Int)) 4).list (nth (row BA (0 : Int)) 5).list (nth (row BA (0 : Int)) 6).list (nth (row BA (0 : Int)) 7).list (nth (row BA (0 : Int)) 8).int d' = true := fun d' hd' hb => by
    have := dep_base (ME := ME) hb 6 7
    exact is_true ⟨by omega, hd', by omega, by omega, typed_list ((typed_elem t7 (mem_getD (i := 0) hb)).2 4 (by decide)), typed_list ((typed_elem t7 (mem_getD (i := 0) hb)).2 5 (by decide)), typed_list ((typed_elem t7 (mem_getD (i := 0) hb)).2 6 (by decide)), typed_list ((typed_elem t7 (mem_getD (i := 0) hb)).2 7 (by decide))⟩
  unfold qv_c qv_v
  rw [e0, w1]
  by_cases k1 : k = 1
  · subst k1
    rw [show qbn_v 1 s sg bg NA NU ME BA ct = (1, s, sg, bg, [], [], [], [], 0) from rfl]
    refine ⟨?_, ?_⟩
    · simp only [hsame _ _ _ _ _ _ _ _ _ z4 z5 z6 z7, qbz_cc1, Int.reduceBEq, cond_true, cond_false, Bool.true_and, Bool.and_true, bif_same]
    · rw [← pure1 (by omega)]
      simp only [hv, qbz_vv, Int.reduceBEq, cond_true, cond_false]
  by_cases k2 : k = 2
  · subst k2
    rw [show qbn_v 2 s sg bg NA NU ME BA ct = (2, s, false, false, [], [], [], [], 0) from rfl]
    refine ⟨?_, ?_⟩
    · simp only [hsame _ _ _ _ _ _ _ _ _ z4 z5 z6 z7, Int.reduceBEq, cond_true, cond_false, Bool.true_and, Bool.and_true, bif_same]
    · rw [valid_2 (by omega), ← pureB (k := 2) (s := s)]
      simp only [hv, Int.reduceBEq, cond_true, cond_false]
      rfl
  by_cases k6 : k = 6
  · subst k6
    rw [show qbn_v 6 s sg bg NA NU ME BA ct = (6, s, false, false, [], [], [], [], 0) from rfl]
    refine ⟨?_, ?_⟩
    · simp only [hsame _ _ _ _ _ _ _ _ _ z4 z5 z6 z7, Int.reduceBEq, cond_true, cond_false, Bool.true_and, Bool.and_true, bif_same]
    · rw [valid_6 (by omega), ← pureB (k := 6) (s := s)]
      simp only [hv, Int.reduceBEq, cond_true, cond_false]
  by_cases k3 : k = 3
  · subst k3
    rw [show qbn_v 3 s sg bg NA NU ME BA ct = (3, 0, false, false, NA, NU, [], BA, 0) from rfl]
    refine ⟨?_, ?_⟩
    · have hl : NU.length ≤ 140737488351232 := by have := typed_room t5; simp only [show (tab 2).bytes = 8 from rfl] at this; omega
      simp only [hsame _ _ _ _ _ _ _ _ _ t4 t5 z6 t7, qu_cc (hbase 1 (by omega)) t4 hl, Int.reduceBEq, cond_true, cond_false, Bool.true_and, Bool.and_true, bif_same]
    · rw [← pure3 (by omega)]
      simp only [hv, qu_vv, Int.reduceBEq, cond_true, cond_false]
  by_cases k4 : k = 4
  · subst k4
    rw [show qbn_v 4 s sg bg NA NU ME BA ct = (4, s, false, false, [], [], ME, [], 0) from rfl]
    refine ⟨?_, ?_⟩
    · have hr : ∀ x, x ∈ ME → qv_rc (nth x 2).int (nth x 3).int (nth x 4).bool (nth x 5).bool (nth x 6).list (nth x 7).list (nth x 8).list (nth x 9).list (nth x 10).int (d - 1) = true := fun x hx => by
        have := dep_max (BA := BA) hx 8 9
        exact is_true ⟨by omega, by omega, by omega, by omega, typed_list ((typed_elem t6 hx).2 6 (by decide)), typed_list ((typed_elem t6 hx).2 7 (by decide)), typed_list ((typed_elem t6 hx).2 8 (by decide)), typed_list ((typed_elem t6 hx).2 9 (by decide))⟩
      have hz : ∀ x, x ∈ ME → (!(qv_rv (nth x 2).int (nth x 3).int (nth x 4).bool (nth x 5).bool (nth x 6).list (nth x 7).list (nth x 8).list (nth x 9).list (nth x 10).int (d - 1))) = false → qw_rc (nth x 2).int (nth x 3).int (nth x 4).bool (nth x 5).bool (nth x 6).list (nth x 7).list (nth x 8).list (nth x 9).list (nth x 10).int = true := fun x hx hk => by
        have := dep_max (BA := BA) hx 8 9
        have hk : qv_rv (nth x 2).int (nth x 3).int (nth x 4).bool (nth x 5).bool (nth x 6).list (nth x 7).list (nth x 8).list (nth x 9).list (nth x 10).int (d - 1) = true := by simpa using hk
        have hk : (okV (nth x 2).int (nth x 3).int (nth x 4).bool (nth x 5).bool (nth x 6).list (nth x 7).list (nth x 8).list (nth x 9).list (nth x 10).int && decide (depthV (nth x 2).int (nth x 8).list (nth x 9).list ≤ d - 1)) = true := hk
        rw [Bool.and_eq_true] at hk
        exact is_true ⟨by omega, (okV_isize hk.1).2⟩
      simp only [hsame _ _ _ _ _ _ _ _ _ z4 z5 t6 z7, qd_cc t6 hr hz, Int.reduceBEq, cond_true, cond_false, Bool.true_and, Bool.and_true, bif_same]
    · rw [← pure4 (by omega) hd]
      simp only [hv, qd_vv, Int.reduceBEq, cond_true, cond_false]
  by_cases k5 : k = 5
  · subst k5
    rw [show qbn_v 5 s sg bg NA NU ME BA ct = (5, 0, false, false, [], [], [], BA, ct) from rfl]
    refine ⟨?_, ?_⟩
    · simp only [hsame _ _ _ _ _ _ _ _ _ z4 z5 z6 t7, Int.reduceBEq, cond_true, cond_false, Bool.true_and, Bool.and_true]
      cases hb : ((BA.length : Int) == 1) with
      | false => simp only [cond_false, bif_same]
      | true =>
        have hb0 : 0 < BA.length := by have := beq_iff_eq.1 hb; omega
        rw [hbase (d - 1) (by omega) hb0, show is ((0 : Int) ≤ (0 : Int) ∧ (0 : Int) < (BA.length : Int)) = true from is_true (by constructor <;> omega)]
        cases hk : qv_rv (nth (row BA (0 : Int)) 0).int (nth (row BA (0 : Int)) 1).int (nth (row BA (0 : Int)) 2).bool (nth (row BA (0 : Int)) 3).bool (nth (row BA (0 : Int)) 4).list (nth (row BA (0 : Int)) 5).list (nth (row BA (0 : Int)) 6).list (nth (row BA (0 : Int)) 7).list (nth (row BA (0 : Int)) 8).int (d - 1) with
        | false => simp only [cond_true, cond_false, Bool.true_and, bif_same]
        | true =>
          have hk' : (okV (nth (row BA (0 : Int)) 0).int (nth (row BA (0 : Int)) 1).int (nth (row BA (0 : Int)) 2).bool (nth (row BA (0 : Int)) 3).bool (nth (row BA (0 : Int)) 4).list (nth (row BA (0 : Int)) 5).list (nth (row BA (0 : Int)) 6).list (nth (row BA (0 : Int)) 7).list (nth (row BA (0 : Int)) 8).int && decide (depthV (nth (row BA (0 : Int)) 0).int (nth (row BA (0 : Int)) 6).list (nth (row BA (0 : Int)) 7).list ≤ d - 1)) = true := hk
          rw [Bool.and_eq_true] at hk'
          have hsz : qw_rc 5 s sg bg NA NU ME BA ct = true := is_true ⟨by omega, by
            rw [isizeC]
            show (if h : 0 < BA.length then isizeC (nth (row BA (0 : Int)) 0).int (nth (row BA (0 : Int)) 7).list else false) = true
            rw [dif_pos hb0]; exact (okV_isize hk'.1).2⟩
          simp only [hsz, cond_true, Bool.true_and, bif_same]
    · rw [← pure5 (by omega) hd]
      simp only [hv, Int.reduceBEq, cond_true, cond_false, show qce_v ct 1 4 = inB ct 1 4 from rfl, show qv_rv (nth (row BA (0 : Int)) 0).int (nth (row BA (0 : Int)) 1).int (nth (row BA (0 : Int)) 2).bool (nth (row BA (0 : Int)) 3).bool (nth (row BA (0 : Int)) 4).list (nth (row BA (0 : Int)) 5).list (nth (row BA (0 : Int)) 6).list (nth (row BA (0 : Int)) 7).list (nth (row BA (0 : Int)) 8).int (d - 1) = validV (nth (row BA (0 : Int)) 0).int (nth (row BA (0 : Int)) 1).int (nth (row BA (0 : Int)) 2).bool (nth (row BA (0 : Int)) 3).bool (nth (row BA (0 : Int)) 4).list (nth (row BA (0 : Int)) 5).list (nth (row BA (0 : Int)) 6).list (nth (row BA (0 : Int)) 7).list (nth (row BA (0 : Int)) 8).int (d - 1) from rfl, show qw_rv 5 s sg bg NA NU ME BA ct = isizeV 5 s BA ct from rfl, bif_ft]
  have e1 : (k == 1) = false := by simpa using k1
  have e2 : (k == 2) = false := by simpa using k2
  have e3 : (k == 3) = false := by simpa using k3
  have e4 : (k == 4) = false := by simpa using k4
  have e5 : (k == 5) = false := by simpa using k5
  have e6 : (k == 6) = false := by simpa using k6
  have ho : qbn_v k s sg bg NA NU ME BA ct = (k, 0, false, false, [], [], [], [], 0) := by
    unfold qbn_v
    simp only [e1, e2, e3, e4, e5, e6, cond_false]
  have hn : validV k s sg bg NA NU ME BA ct d = false := by
    unfold validV
    cases hk : okV k s sg bg NA NU ME BA ct with
    | false => rfl
    | true => have := okV_kind hk; omega
  rw [ho, hn]
  simp only [e1, e2, e3, e4, e5, e6, hsame _ _ _ _ _ _ _ _ _ z4 z5 z6 z7, cond_false, Bool.true_and, bif_same, and_self]
theorem qv_nxr (k s : Int) (sg bg : Bool) (NA NU ME BA : LL) (ct d : Int) : qv_rc (i_impl_Type_valid := ⟨qv_O.n + 1⟩) k s sg bg NA NU ME BA ct d = true → (qv_c k s sg bg NA NU ME BA ct d) = true ∧ (qv_v k s sg bg NA NU ME BA ct d) = (qv_rv k s sg bg NA NU ME BA ct d) := fun h => qv_nx k s sg bg NA NU ME BA ct d h
theorem qv_rs : ∀ xs r, qv_rS (i_impl_Type_valid := ⟨qv_O.n + 1⟩) xs = some (true, r) → runF tab FT D51 live 73 noLoops xs = some r := by
  intro xs r h
  unfold qv_rS at h
  split at h
  · obtain ⟨h1, rfl⟩ := sp h
    have hx := qv_nxr _ _ _ _ _ _ _ _ _ _ h1
    have ht := fun_told (qv_e ..) (qv_l _ _ _ _ _ _ _ _ _ _) hx.1
    rw [hx.2] at ht
    exact ht
  · cases h
theorem qv_step : qv_G (i_impl_Type_valid := ⟨qv_O.n + 1⟩) := by
  have h := DOk.also2 (S := qv_rS (i_impl_Type_valid := ⟨qv_O.n + 1⟩)) mixed_ok tab_ok names_ok d43 d51 noLoops_ok qv_rs
  refine qv_G.mk (i_impl_Type_valid := ⟨qv_O.n + 1⟩) ?_
  exact h
def qca_t (k s : Int) (sg bg : Bool) (NA NU ME BA : LL) (ct : Int) : Tr (Bool) := (.ite ((qv_rc k s sg bg NA NU ME BA ct (3 : Int)) = true) (.ok (qv_rv k s sg bg NA NU ME BA ct (3 : Int)))
  .no)
def qca_mk (p : Bool) : Res := [(false, [⟨.bool, .sh, TC.b p⟩])]
def qca_c (k s : Int) (sg bg : Bool) (NA NU ME BA : LL) (ct : Int) : Bool := ((qv_rc k s sg bg NA NU ME BA ct (3 : Int)) && true)
def qca_v (k s : Int) (sg bg : Bool) (NA NU ME BA : LL) (ct : Int) : Bool := (qv_rv k s sg bg NA NU ME BA ct (3 : Int))
theorem qca_l (k s : Int) (sg bg : Bool) (NA NU ME BA : LL) (ct : Int) : (qca_c k s sg bg NA NU ME BA ct) = true → (qca_t k s sg bg NA NU ME BA ct).val = some (qca_v k s sg bg NA NU ME BA ct) := by
  unfold qca_t qca_v qca_c
  exact fun h => (Tr.gb h fun h => rfl)
def qca_S : List Arg → Option (Bool × Res) := fun xs => match xs with
  | [(true, [(.int .i64, TC.i k), (.int .i64, TC.i s), (.bool, TC.b sg), (.bool, TC.b bg), (.slice 9, TC.l NA), (.slice 2, TC.l NU), (.slice 71, TC.l ME), (.slice 32, TC.l BA), (.int .i64, TC.i ct)])] => some ((qca_c k s sg bg NA NU ME BA ct), qca_mk (qca_v k s sg bg NA NU ME BA ct))
  | _ => .none
theorem qca_e (k s : Int) (sg bg : Bool) (NA NU ME BA : LL) (ct : Int) : runF tab FT D51 live 36 noLoops [(true, [(.int .i64, TC.i k), (.int .i64, TC.i s), (.bool, TC.b sg), (.bool, TC.b bg), (.slice 9, TC.l NA), (.slice 2, TC.l NU), (.slice 71, TC.l ME), (.slice 32, TC.l BA), (.int .i64, TC.i ct)])] = (qca_t k s sg bg NA NU ME BA ct).run fun p => some (qca_mk p) := by kernel_rfl
theorem qca_s : ∀ xs r, qca_S xs = some (true, r) → runF tab FT D51 live 36 noLoops xs = some r := by
  intro xs r h
  unfold qca_S at h
  split at h
  · obtain ⟨h1, rfl⟩ := sp h
    exact fun_told (qca_e ..) (qca_l _ _ _ _ _ _ _ _ _) h1
  · cases h
def D52 : Dt := also D51 36 qca_S
theorem d52 : DOk Go.Proofs.Try.prog tab D52 := d51.also mixed_ok tab_ok names_ok noLoops_ok qca_s
theorem qca_cc {k : Int} {s : Int} {sg : Bool} {bg : Bool} {NA : LL} {NU : LL} {ME : LL} {BA : LL} {ct : Int} (h : qv_rc k s sg bg NA NU ME BA ct 3 = true) : (qca_c k s sg bg NA NU ME BA ct) = true := by
  unfold qca_c
  refine andT (by exact h) ?_
  rfl
theorem qca_vv (k s : Int) (sg bg : Bool) (NA NU ME BA : LL) (ct : Int) : qca_v k s sg bg NA NU ME BA ct = okV k s sg bg NA NU ME BA ct := by
  show (okV k s sg bg NA NU ME BA ct && decide (depthV k ME BA ≤ 3)) = _
  cases h : okV k s sg bg NA NU ME BA ct with
  | false => rfl
  | true => rw [decide_eq_true (okV_top h).2]; rfl
section
class qy_O where n : Nat
variable [i_impl_Type_bytes : qy_O]
def qy_rc (k s : Int) (sg bg : Bool) (NA NU ME BA : LL) (ct n : Int) : Bool := is (rowsDep BA < qy_O.n ∧ numC k s BA = true)
def qy_rv (k s : Int) (sg bg : Bool) (NA NU ME BA : LL) (ct n : Int) : BS := hid (numB k s bg BA n)
def qy_rmk (p : BS) : Res := [(false, [⟨.str, .sh, TC.s p⟩])]
def qy_rS : List Arg → Option (Bool × Res) := fun xs => match xs with
  | [(true, [(.int .i64, TC.i k), (.int .i64, TC.i s), (.bool, TC.b sg), (.bool, TC.b bg), (.slice 9, TC.l NA), (.slice 2, TC.l NU), (.slice 71, TC.l ME), (.slice 32, TC.l BA), (.int .i64, TC.i ct)]), (false, [(.int .i64, TC.i n)])] => some ((qy_rc k s sg bg NA NU ME BA ct n), qy_rmk (qy_rv k s sg bg NA NU ME BA ct n))
  | _ => .none
def D53 : Dt := also D52 95 qy_rS
class qy_G : Prop where ok : DOk Go.Proofs.Try.prog tab D53
variable [g_impl_Type_bytes : qy_G]
theorem d53 : DOk Go.Proofs.Try.prog tab D53 := qy_G.ok
abbrev qbf_3_σ := Int × LL × Int × Int
abbrev qbf_3_ω := (LL)
def qbf_3_step (n : Int) (X : LL) (m k : Int) : Tr (qbf_3_σ ⊕ qbf_3_ω) := (.ite ((decide (k < m)) = true) (.ite (0 ≤ (IntKind.wrap .i64 ((8 : Int) * k))) (.ite ((0 : Int) ≤ k ∧ k < (X.length : Int)) (.ok (.inl (n, (X.set (k).toNat (splice (row X k) 0 [TC.i (IntKind.wrap .u8 (Int.fdiv n (2 ^ (min ((IntKind.wrap .i64 ((8 : Int) * k))).toNat 64))))])), m, (IntKind.wrap .i64 (k + (1 : Int))))))
    .no)
   .no)
  (.ok (.inr X)))
def qbf_3_st : qbf_3_σ → Tr (qbf_3_σ ⊕ qbf_3_ω) := fun x => (qbf_3_step (x.1) (x.2.1) (x.2.2.1) (x.2.2.2))
def qbf_o3_1 (n : Int) (X : LL) (m k : Int) : Bool := is (∃ sz : Nat, m = (sz : Int) ∧ sz ≤ 8 ∧ X = List.replicate sz [TC.i 0] ∧ k = 0)
def qbf_u3_1 (n : Int) (X : LL) (m k : Int) : LL := bRows n m.toNat
def qbf_3_fin (n : Int) (X : LL) (m k : Int) : Told qbf_3_ω := (.leaf (qbf_o3_1 n X m k) (qbf_u3_1 n X m k))
def qbf_3_sl (x : qbf_3_σ) : List Slot := [⟨.val false [⟨.int .i64, .sh, TC.i (x.1)⟩], ⟨0, 0⟩⟩, ⟨.val false [⟨.slice 5, .own true, TC.l (x.2.1)⟩], ⟨0, 0⟩⟩, ⟨.val false [⟨.int .i64, .sh, TC.i (x.2.2.1)⟩], ⟨0, 0⟩⟩, ⟨.val false [⟨.int .i64, .sh, TC.i (x.2.2.2)⟩], ⟨0, 0⟩⟩]
def qbf_3_out : qbf_3_ω → Ex × List Slot := (fun x => (.exit 0, [Slot.none, ⟨.val false [⟨.slice 5, .own true, TC.l x⟩], ⟨0, 0⟩⟩]))
def qbf_lo3 : List Slot → Option (Told (Ex × List Slot)) := fun s => match s with
  | [⟨.val false [⟨.int .i64, .sh, TC.i n⟩], ⟨0, 0⟩⟩, ⟨.val false [⟨.slice 5, .own true, TC.l X⟩], ⟨0, 0⟩⟩, ⟨.val false [⟨.int .i64, .sh, TC.i m⟩], ⟨0, 0⟩⟩, ⟨.val false [⟨.int .i64, .sh, TC.i k⟩], ⟨0, 0⟩⟩] => some (((qbf_3_fin n X m k)).map qbf_3_out)
  | _ => .none
def qbf_lo : LoopTeller := fun r s => bif Nat.beq r 3 then qbf_lo3 s else .none
theorem qbf_3_r (n : Int) (X : LL) (m k : Int) (fuel : Nat) : rounds (rnd tab FT D53 live 83 qbf_lo 0 3) leave (fuel + 1) (qbf_3_sl (n, X, m, k)) = ((qbf_3_step n X m k)).run (goOn (fun s => rounds (rnd tab FT D53 live 83 qbf_lo 0 3) leave fuel (qbf_3_sl s)) fun w => some (qbf_3_out w)) := by kernel_rfl
theorem qbf_3_h (n : Int) (X : LL) (m k : Int) (ow : qbf_3_ω) : ((qbf_3_fin n X m k)).val = some ow → ∃ fuel, loopN qbf_3_st fuel (n, X, m, k) = some ow := by
  intro h
  refine auto_leaf (R := bRows n m.toNat) (fun ho => ?_) h
  obtain ⟨sz, rfl, h8, rfl, rfl⟩ := is_iff.1 ho
  rw [wr_zero (n := n)]
  refine ⟨sz + 1, loopN_run (step := qbf_3_st) (N := sz) (fun j => (n, (wr sz (bAt n) (fun _ => [TC.i 0]) (fun p => decide (p < j))), (sz : Int), (j : Int))) (fun j hj => ?_) ?_ sz 0 (by omega)⟩
  · have e := wr_step (L := sz) (p0 := j) (F := bAt n) (O := fun _ => [TC.i 0]) (vis := fun p => decide (p < j)) (vis' := fun p => decide (p < j + 1)) hj (fun _ => rfl) (fun _ => rfl) (fun p _ => by
      rw [Bool.eq_iff_iff]; simp only [Bool.or_eq_true, decide_eq_true_eq, beq_iff_eq]; omega)
    show (qbf_3_step n (wr sz (bAt n) (fun _ => [TC.i 0]) (fun p => decide (p < j))) (sz : Int) (j : Int)).val = _
    unfold qbf_3_step
    rw [bAt_i64 (by omega)]
    refine Tr.t (by simp; omega) ?_
    refine Tr.t (by rw [wrap64 (by omega) (by omega)]; omega) ?_
    refine Tr.t ⟨by omega, by rw [wr_len]; omega⟩ ?_
    rw [Tr.val_ok, wrap64 (i := (j : Int) + 1) (by omega) (by omega)]
    show some (Sum.inl (n, (wr sz (bAt n) (fun _ => [TC.i 0]) (fun p => decide (p < j))).set j (splice ((wr sz (bAt n) (fun _ => [TC.i 0]) (fun p => decide (p < j))).getD j []) 0 (bAt n j)), (sz : Int), ((j + 1 : Nat) : Int))) = _
    rw [e]
  · show (qbf_3_step n (wr sz (bAt n) (fun _ => [TC.i 0]) (fun p => decide (p < sz))) (sz : Int) (sz : Int)).val = _
    refine Tr.n (by simp) ?_
    rw [wr_bRows]
    rfl
theorem qbf_is3 : LoopIs tab FT D53 live 83 qbf_lo 0 3 := by
  refine loop_told (sl := qbf_3_sl) (step := qbf_3_st) (out := qbf_3_out) (lor := qbf_lo3) (fin := fun x => (qbf_3_fin (x.1) (x.2.1) (x.2.2.1) (x.2.2.2))) (fun _ => rfl) ?_ (fun x n => qbf_3_r x.1 x.2.1 x.2.2.1 x.2.2.2 n) (fun x ow => qbf_3_h x.1 x.2.1 x.2.2.1 x.2.2.2 ow)
  intro s t h
  unfold qbf_lo3 at h
  split at h
  · cases h; exact ⟨(_, _, _, _), rfl, rfl⟩
  · cases h
def qbf_t (n size : Int) : Tr (BS) := (.ite (0 ≤ size ∧ size ≤ size ∧ size * 1 ≤ 140737488355328 ∧ size ≤ 140737488355328) (.ite ((qbf_o3_1 n (List.replicate (size).toNat [TC.i (0 : Int)]) ((List.replicate (size).toNat [TC.i (0 : Int)]).length : Int) (0 : Int)) = true) (.ok ((qbf_u3_1 n (List.replicate (size).toNat [TC.i (0 : Int)]) ((List.replicate (size).toNat [TC.i (0 : Int)]).length : Int) (0 : Int)).map byteOf))
   .no)
  .no)
def qbf_mk (p : BS) : Res := [(false, [⟨.str, .sh, TC.s p⟩])]
def qbf_c (n size : Int) : Bool := is (∃ sz : Nat, size = (sz : Int) ∧ sz ≤ 8)
def qbf_v (n size : Int) : BS := hid (bytesL n size.toNat)
theorem qbf_l (n size : Int) : (qbf_c n size) = true → (qbf_t n size).val = some (qbf_v n size) := by
  intro h
  obtain ⟨sz, rfl, h8⟩ := is_iff.1 h
  unfold qbf_t
  refine Tr.t (by omega) ?_
  refine Tr.t (is_true ⟨sz, by simp, h8, rfl, rfl⟩) ?_
  unfold qbf_v
  rw [hid_eq]; simp; rfl
def qbf_S : List Arg → Option (Bool × Res) := fun xs => match xs with
  | [(false, [(.int .i64, TC.i n)]), (false, [(.int .i64, TC.i size)])] => some ((qbf_c n size), qbf_mk (qbf_v n size))
  | _ => .none
theorem qbf_e (n size : Int) : runF tab FT D53 live 83 qbf_lo [(false, [(.int .i64, TC.i n)]), (false, [(.int .i64, TC.i size)])] = (qbf_t n size).run fun p => some (qbf_mk p) := by kernel_rfl
theorem qbf_s : ∀ xs r, qbf_S xs = some (true, r) → runF tab FT D53 live 83 qbf_lo xs = some r := by
  intro xs r h
  unfold qbf_S at h
  split at h
  · obtain ⟨h1, rfl⟩ := sp h
    exact fun_told (qbf_e ..) (qbf_l _ _) h1
  · cases h
def D54 : Dt := also D53 83 qbf_S
theorem d54 : DOk Go.Proofs.Try.prog tab D54 := d53.also mixed_ok tab_ok names_ok (fnLoops_one (by kernel_rfl) qbf_is3) qbf_s
theorem qbf_h {n size : Int} : qbf_v n size = bytesL n size.toNat := hid_eq _
abbrev qr_1_σ := Int × Int × LL
abbrev qr_1_ω := (LL)
def qr_1_step (i j : Int) (A : LL) : Tr (qr_1_σ ⊕ qr_1_ω) := (.ite ((decide (i < j)) = true) (.ite ((0 : Int) ≤ j ∧ j < (A.length : Int)) (.ite ((0 : Int) ≤ i ∧ i < (A.length : Int)) (.ite ((0 : Int) ≤ i ∧ i < (A.length : Int)) (.ite ((0 : Int) ≤ j ∧ j < ((A.set (i).toNat (splice (row A i) 0 [TC.i ((nth (row A j) 0).int)])).length : Int)) (.ok (.inl ((IntKind.wrap .i64 (i + (1 : Int))), (IntKind.wrap .i64 (j - (1 : Int))), ((A.set (i).toNat (splice (row A i) 0 [TC.i ((nth (row A j) 0).int)])).set (j).toNat (splice (row (A.set (i).toNat (splice (row A i) 0 [TC.i ((nth (row A j) 0).int)])) j) 0 [TC.i ((nth (row A i) 0).int)])))))
      .no)
     .no)
    .no)
   .no)
  (.ok (.inr A)))
def qr_1_st : qr_1_σ → Tr (qr_1_σ ⊕ qr_1_ω) := fun x => (qr_1_step (x.1) (x.2.1) (x.2.2))
def qr_o1_1 (i j : Int) (A : LL) : Bool := is ((∀ x, x ∈ A → ∃ n, x = [TC.i n]) ∧ A.length ≤ 1000 ∧ i = 0 ∧ j = (A.length : Int) - 1)
def qr_u1_1 (i j : Int) (A : LL) : LL := A.reverse
def qr_1_fin (i j : Int) (A : LL) : Told qr_1_ω := (.leaf (qr_o1_1 i j A) (qr_u1_1 i j A))
def qr_1_sl (x : qr_1_σ) : List Slot := [⟨.gal false 0 1, ⟨0, 0⟩⟩, ⟨.val false [⟨.int .i64, .sh, TC.i (x.1)⟩], ⟨0, 0⟩⟩, ⟨.val false [⟨.int .i64, .sh, TC.i (x.2.1)⟩], ⟨0, 0⟩⟩, ⟨.gv [⟨.slice 5, .own true, TC.l (x.2.2)⟩], ⟨0, 0⟩⟩]
def qr_1_out : qr_1_ω → Ex × List Slot := (fun x => (.exit 0, [⟨.gv [⟨.slice 5, .own true, TC.l x⟩], ⟨0, 0⟩⟩]))
def qr_lo1 : List Slot → Option (Told (Ex × List Slot)) := fun s => match s with
  | [⟨.gal false 0 1, ⟨0, 0⟩⟩, ⟨.val false [⟨.int .i64, .sh, TC.i i⟩], ⟨0, 0⟩⟩, ⟨.val false [⟨.int .i64, .sh, TC.i j⟩], ⟨0, 0⟩⟩, ⟨.gv [⟨.slice 5, .own true, TC.l A⟩], ⟨0, 0⟩⟩] => some (((qr_1_fin i j A)).map qr_1_out)
  | _ => .none
def qr_lo : LoopTeller := fun r s => bif Nat.beq r 1 then qr_lo1 s else .none
theorem qr_1_r (i j : Int) (A : LL) (fuel : Nat) : rounds (rnd tab FT D54 live 144 qr_lo 0 1) leave (fuel + 1) (qr_1_sl (i, j, A)) = ((qr_1_step i j A)).run (goOn (fun s => rounds (rnd tab FT D54 live 144 qr_lo 0 1) leave fuel (qr_1_sl s)) fun w => some (qr_1_out w)) := by kernel_rfl
theorem qr_1_h (i j : Int) (A : LL) (ow : qr_1_ω) : ((qr_1_fin i j A)).val = some ow → ∃ fuel, loopN qr_1_st fuel (i, j, A) = some ow := by
  intro h
  refine auto_leaf (R := A.reverse) (fun ho => ?_) h
  obtain ⟨ht, hl, rfl, rfl⟩ := is_iff.1 ho
  have key := loopN_run (step := qr_1_st) (N := A.length / 2) (fun m => ((m : Int), (A.length : Int) - 1 - (m : Int), revS A m)) (w := A.reverse) (fun m hm => ?_) ?_ (A.length / 2) 0 (by omega)
  · refine ⟨_, Eq.trans (congrArg (loopN qr_1_st _) ?_) key⟩
    show (_, _, _) = (_, _, revS A 0)
    rw [revS_zero]
    simp
  · have h1 : A.length - 1 - m < A.length := by omega
    have hi : (A.length : Int) - 1 - (m : Int) = ((A.length - 1 - m : Nat) : Int) := by omega
    have hs := revS_len (A := A) (m := m)
    have q1 : revI A.length m m = m := by
      unfold revI
      rw [decide_eq_false (by omega), decide_eq_false (by omega)]; rfl
    have q2 : revI A.length m (A.length - 1 - m) = A.length - 1 - m := by
      unfold revI
      rw [decide_eq_false (by omega), decide_eq_false (by omega)]; rfl
    show (qr_1_step (m : Int) ((A.length : Int) - 1 - (m : Int)) (revS A m)).val = _
    rw [hi]
    unfold qr_1_step
    have hrow : row ((revS A m).set m (row A ((A.length - 1 - m : Nat) : Int))) ((A.length - 1 - m : Nat) : Int) = row A ((A.length - 1 - m : Nat) : Int) := by
      show ((revS A m).set m _).getD (((A.length - 1 - m : Nat) : Int)).toNat [] = _
      rw [Int.toNat_natCast, getD_at (by rw [List.length_set, hs]; exact h1), List.getElem_set, if_neg (by omega)]
      have := revS_row (A := A) (m := m) h1
      rw [q2] at this
      unfold row at this
      rw [Int.toNat_natCast, getD_at (by rw [hs]; exact h1)] at this
      rw [this]
      unfold row
      rw [Int.toNat_natCast]
    rw [Int.toNat_natCast, Int.toNat_natCast, revS_row (A := A) (m := m) (p := m) (by omega), revS_row (A := A) (m := m) h1, q1, q2, one_row ht h1 (row_one ht (by omega)), hrow, one_row ht (show m < A.length by omega) (row_one ht h1), revS_set hm, List.length_set, hs]
    refine Tr.t (by simp; omega) (Tr.t ⟨by omega, by omega⟩ (Tr.t ⟨by omega, by omega⟩ (Tr.t ⟨by omega, by omega⟩ (Tr.t ⟨by omega, by omega⟩ ?_))))
    rw [Tr.val_ok, wrap64 (i := (m : Int) + 1) (by omega) (by omega), wrap64 (i := ((A.length - 1 - m : Nat) : Int) - 1) (by omega) (by omega)]
    show some (Sum.inl (_, _, _)) = some (Sum.inl (_, _, _))
    rw [show ((A.length - 1 - m : Nat) : Int) - 1 = (A.length : Int) - 1 - ((m + 1 : Nat) : Int) from by omega]; rfl
  · show (qr_1_step ((A.length / 2 : Nat) : Int) ((A.length : Int) - 1 - ((A.length / 2 : Nat) : Int)) (revS A (A.length / 2))).val = _
    unfold qr_1_step
    refine Tr.n (by first | (simp; done) | (simp; omega)) ?_
    rw [Tr.val_ok, revS_end]; first | done | rfl
theorem qr_is1 : LoopIs tab FT D54 live 144 qr_lo 0 1 := by
  refine loop_told (sl := qr_1_sl) (step := qr_1_st) (out := qr_1_out) (lor := qr_lo1) (fin := fun x => (qr_1_fin (x.1) (x.2.1) (x.2.2))) (fun _ => rfl) ?_ (fun x n => qr_1_r x.1 x.2.1 x.2.2 n) (fun x ow => qr_1_h x.1 x.2.1 x.2.2 ow)
  intro s t h
  unfold qr_lo1 at h
  split at h
  · cases h; exact ⟨(_, _, _), rfl, rfl⟩
  · cases h
def qr_t (A : LL) : Tr (LL) := (.ite ((qr_o1_1 (0 : Int) (IntKind.wrap .i64 ((A.length : Int) - (1 : Int))) A) = true) (.ok (qr_u1_1 (0 : Int) (IntKind.wrap .i64 ((A.length : Int) - (1 : Int))) A))
  .no)
def qr_mk (p : LL) : Res := [(true, [⟨.slice 5, .own true, TC.l p⟩])]
def qr_c (A : LL) : Bool := is ((∀ x, x ∈ A → ∃ n, x = [TC.i n]) ∧ A.length ≤ 1000)
def qr_v (A : LL) : LL := A.reverse
theorem qr_l (A : LL) : (qr_c A) = true → (qr_t A).val = some (qr_v A) := by
  intro h
  obtain ⟨h1, hl⟩ := is_iff.1 h
  unfold qr_t qr_v
  refine Tr.t (is_true ⟨h1, hl, rfl, wrap64 (by omega) (by omega)⟩) ?_
  rfl
def qr_S : List Arg → Option (Bool × Res) := fun xs => match xs with
  | [(false, [(.slice 5, TC.l A)])] => some ((qr_c A), qr_mk (qr_v A))
  | _ => .none
theorem qr_e (A : LL) : runFW false tab FT D54 live 144 qr_lo (false, [(.slice 5, TC.l A)]) [] = (qr_t A).run fun p => some (qr_mk p) := by kernel_rfl
theorem qr_s0 : ∀ ys r, qr_S ys = some (true, r) → ∀ a0 xs, ys = a0 :: xs → runFW false tab FT D54 live 144 qr_lo a0 xs = some r := by
  intro ys r h
  unfold qr_S at h
  split at h
  · obtain ⟨h1, rfl⟩ := sp h
    intro a0 xs e
    cases e
    exact fun_toldW (qr_e _) (qr_l _) h1
  · cases h
theorem qr_s : ∀ a0 xs r, qr_S (a0 :: xs) = some (true, r) → runFW false tab FT D54 live 144 qr_lo a0 xs = some r := fun a0 xs r h => qr_s0 _ r h a0 xs rfl
def D55 : Dt := alsoW D54 144 qr_S
theorem d55 : DOk Go.Proofs.Try.prog tab D55 := d54.alsoW mixed_ok tab_ok names_ok (fnLoops_one (by kernel_rfl) qr_is1) qr_s
def qcc_t (s : BS) : Tr (BS) := (.ite (s.length ≤ 140737488355328) (.ite ((qr_c (bytesRow s)) = true) (.ok ((qr_v (bytesRow s)).map byteOf))
   .no)
  .no)
def qcc_mk (p : BS) : Res := [(false, [⟨.str, .sh, TC.s p⟩])]
def qcc_c (s : BS) : Bool := is (s.length ≤ 100)
def qcc_v (s : BS) : BS := hid s.reverse
theorem qcc_l (s : BS) : (qcc_c s) = true → (qcc_t s).val = some (qcc_v s) := by
  intro h
  have hl := is_iff.1 h
  unfold qcc_t qcc_v
  rw [hid_eq]
  refine Tr.t (by omega) (Tr.t (is_true ⟨bytesRow_one, by rw [bytesRow_len]; omega⟩) ?_)
  rw [Tr.val_ok]
  show some ((bytesRow s).reverse.map byteOf) = _
  rw [List.map_reverse, bytesRow_of]
def qcc_S : List Arg → Option (Bool × Res) := fun xs => match xs with
  | [(false, [(.str, TC.s s)])] => some ((qcc_c s), qcc_mk (qcc_v s))
  | _ => .none
theorem qcc_e (s : BS) : runF tab FT D55 live 123 noLoops [(false, [(.str, TC.s s)])] = (qcc_t s).run fun p => some (qcc_mk p) := by kernel_rfl
theorem qcc_s : ∀ xs r, qcc_S xs = some (true, r) → runF tab FT D55 live 123 noLoops xs = some r := by
  intro xs r h
  unfold qcc_S at h
  split at h
  · obtain ⟨h1, rfl⟩ := sp h
    exact fun_told (qcc_e _) (qcc_l _) h1
  · cases h
def D56 : Dt := also D55 123 qcc_S
theorem d56 : DOk Go.Proofs.Try.prog tab D56 := d55.also mixed_ok tab_ok names_ok noLoops_ok qcc_s
theorem qcc_h {s : BS} : qcc_v s = s.reverse := hid_eq _
def qy_t (k s : Int) (sg bg : Bool) (NA NU ME BA : LL) (ct n : Int) : Tr (BS) := (.ite ((k == (3 : Int)) = true) (.ite ((0 : Int) ≤ (0 : Int) ∧ (0 : Int) < (BA.length : Int)) (.ite ((qy_rc ((nth (row BA (0 : Int)) 0).int) ((nth (row BA (0 : Int)) 1).int) ((nth (row BA (0 : Int)) 2).bool) ((nth (row BA (0 : Int)) 3).bool) ((nth (row BA (0 : Int)) 4).list) ((nth (row BA (0 : Int)) 5).list) ((nth (row BA (0 : Int)) 6).list) ((nth (row BA (0 : Int)) 7).list) ((nth (row BA (0 : Int)) 8).int) n) = true) (.ok (qy_rv ((nth (row BA (0 : Int)) 0).int) ((nth (row BA (0 : Int)) 1).int) ((nth (row BA (0 : Int)) 2).bool) ((nth (row BA (0 : Int)) 3).bool) ((nth (row BA (0 : Int)) 4).list) ((nth (row BA (0 : Int)) 5).list) ((nth (row BA (0 : Int)) 6).list) ((nth (row BA (0 : Int)) 7).list) ((nth (row BA (0 : Int)) 8).int) n))
    .no)
   .no)
  (.ite (bg = true) (.ite ((qbf_c n s) = true) (.ite ((qcc_c (qbf_v n s)) = true) (.ok (qcc_v (qbf_v n s)))
     .no)
    .no)
   (.ite ((qbf_c n s) = true) (.ok (qbf_v n s))
    .no)))
def qy_mk (p : BS) : Res := [(false, [⟨.str, .sh, TC.s p⟩])]
def qy_c (k s : Int) (sg bg : Bool) (NA NU ME BA : LL) (ct n : Int) : Bool := (bif (k == (3 : Int)) then (is ((0 : Int) ≤ (0 : Int) ∧ (0 : Int) < (BA.length : Int)) && ((qy_rc ((nth (row BA (0 : Int)) 0).int) ((nth (row BA (0 : Int)) 1).int) ((nth (row BA (0 : Int)) 2).bool) ((nth (row BA (0 : Int)) 3).bool) ((nth (row BA (0 : Int)) 4).list) ((nth (row BA (0 : Int)) 5).list) ((nth (row BA (0 : Int)) 6).list) ((nth (row BA (0 : Int)) 7).list) ((nth (row BA (0 : Int)) 8).int) n) && true)) else (bif bg then ((qbf_c n s) && ((qcc_c (qbf_v n s)) && true)) else ((qbf_c n s) && true)))
def qy_v (k s : Int) (sg bg : Bool) (NA NU ME BA : LL) (ct n : Int) : BS := (bif (k == (3 : Int)) then (qy_rv ((nth (row BA (0 : Int)) 0).int) ((nth (row BA (0 : Int)) 1).int) ((nth (row BA (0 : Int)) 2).bool) ((nth (row BA (0 : Int)) 3).bool) ((nth (row BA (0 : Int)) 4).list) ((nth (row BA (0 : Int)) 5).list) ((nth (row BA (0 : Int)) 6).list) ((nth (row BA (0 : Int)) 7).list) ((nth (row BA (0 : Int)) 8).int) n) else (bif bg then (qcc_v (qbf_v n s)) else (qbf_v n s)))
theorem qy_l (k s : Int) (sg bg : Bool) (NA NU ME BA : LL) (ct n : Int) : (qy_c k s sg bg NA NU ME BA ct n) = true → (qy_t k s sg bg NA NU ME BA ct n).val = some (qy_v k s sg bg NA NU ME BA ct n) := by
  unfold qy_t qy_v qy_c
  exact fun h => (Tr.ss h (fun h => (Tr.gs h fun h => (Tr.gb h fun h => rfl))) (fun h => (Tr.ss h (fun h => (Tr.gb h fun h => (Tr.gb h fun h => rfl))) (fun h => (Tr.gb h fun h => rfl)))))
theorem qy_e (k s : Int) (sg bg : Bool) (NA NU ME BA : LL) (ct n : Int) : runF tab FT D56 live 95 noLoops [(true, [(.int .i64, TC.i k), (.int .i64, TC.i s), (.bool, TC.b sg), (.bool, TC.b bg), (.slice 9, TC.l NA), (.slice 2, TC.l NU), (.slice 71, TC.l ME), (.slice 32, TC.l BA), (.int .i64, TC.i ct)]), (false, [(.int .i64, TC.i n)])] = (qy_t k s sg bg NA NU ME BA ct n).run fun p => some (qy_mk p) := by kernel_rfl
theorem qy_nx (k s : Int) (sg bg : Bool) (NA NU ME BA : LL) (ct n : Int) : is (rowsDep BA < qy_O.n + 1 ∧ numC k s BA = true) = true → (qy_c k s sg bg NA NU ME BA ct n) = true ∧ (qy_v k s sg bg NA NU ME BA ct n) = hid (numB k s bg BA n) := by
  intro h
  obtain ⟨hM, hC⟩ := is_iff.1 h
  unfold qy_c qy_v
  rw [hid_eq]
  unfold numC at hC
  unfold numB
  cases h3 : (k == 3) with
  | true =>
    rw [h3] at hC
    have hC : (decide (0 < BA.length) && ((nth (row BA (0 : Int)) 0).int == 1) && szOk (nth (row BA (0 : Int)) 1).int) = true := hC
    rw [Bool.and_eq_true, Bool.and_eq_true] at hC
    obtain ⟨⟨a, b⟩, c⟩ := hC
    have hb : 0 < BA.length := of_decide_eq_true a
    have := pos_row hb 7
    have hk : ((nth (row BA (0 : Int)) 0).int == 3) = false := by rw [eq_of_beq b]; rfl
    refine ⟨andT (is_true (by constructor <;> omega)) (andT (is_true ⟨by omega, ?_⟩) rfl), ?_⟩
    · unfold numC
      rw [hk]
      exact c
    · show hid (numB _ _ _ _ _) = _
      rw [hid_eq]
      unfold numB
      rw [hk]
      rfl
  | false =>
    rw [h3] at hC
    have hC : (decide (0 ≤ s) && decide (s ≤ 8)) = true := hC
    rw [Bool.and_eq_true] at hC
    have s0 := of_decide_eq_true hC.1
    have s8 := of_decide_eq_true hC.2
    obtain ⟨m, rfl⟩ : ∃ m : Nat, s = (m : Int) := ⟨s.toNat, by omega⟩
    have hp : qbf_c n (m : Int) = true := is_true ⟨m, rfl, by omega⟩
    have hl : (bytesL n ((m : Int)).toNat).length = m := by rw [bytesL_len]; omega
    rw [hp, qbf_h]
    cases bg with
    | true =>
      have hr : qcc_c (bytesL n ((m : Int)).toNat) = true := is_true (by omega)
      rw [hr, qcc_h]
      exact ⟨rfl, rfl⟩
    | false => exact ⟨rfl, rfl⟩
theorem qy_nxr (k s : Int) (sg bg : Bool) (NA NU ME BA : LL) (ct n : Int) : qy_rc (i_impl_Type_bytes := ⟨qy_O.n + 1⟩) k s sg bg NA NU ME BA ct n = true → (qy_c k s sg bg NA NU ME BA ct n) = true ∧ (qy_v k s sg bg NA NU ME BA ct n) = (qy_rv k s sg bg NA NU ME BA ct n) := fun h => qy_nx k s sg bg NA NU ME BA ct n h
theorem qy_rs : ∀ xs r, qy_rS (i_impl_Type_bytes := ⟨qy_O.n + 1⟩) xs = some (true, r) → runF tab FT D56 live 95 noLoops xs = some r := by
  intro xs r h
  unfold qy_rS at h
  split at h
  · obtain ⟨h1, rfl⟩ := sp h
    have hx := qy_nxr _ _ _ _ _ _ _ _ _ _ h1
    have ht := fun_told (qy_e ..) (qy_l _ _ _ _ _ _ _ _ _ _) hx.1
    rw [hx.2] at ht
    exact ht
  · cases h
theorem qy_step : qy_G (i_impl_Type_bytes := ⟨qy_O.n + 1⟩) := by
  have h := DOk.also2 (S := qy_rS (i_impl_Type_bytes := ⟨qy_O.n + 1⟩)) mixed_ok tab_ok names_ok d52 d56 noLoops_ok qy_rs
  refine qy_G.mk (i_impl_Type_bytes := ⟨qy_O.n + 1⟩) ?_
  exact h
section
class qo_O where n : Nat
variable [i_impl_Type_zero : qo_O]
def qo_rc (k s : Int) (sg bg : Bool) (NA NU ME BA : LL) (ct : Int) : Bool := is (max (rowsDep ME) (rowsDep BA) < qo_O.n ∧ max (rowsDep ME) (rowsDep BA) < qw_O.n ∧ max (rowsDep ME) (rowsDep BA) < qy_O.n ∧ okV k s sg bg NA NU ME BA ct = true)
def qo_rv (k s : Int) (sg bg : Bool) (NA NU ME BA : LL) (ct : Int) : BS := zelV k s sg bg NA NU ME BA ct
def qo_rmk (p : BS) : Res := [(false, [⟨.str, .sh, TC.s p⟩])]
def qo_rS : List Arg → Option (Bool × Res) := fun xs => match xs with
  | [(true, [(.int .i64, TC.i k), (.int .i64, TC.i s), (.bool, TC.b sg), (.bool, TC.b bg), (.slice 9, TC.l NA), (.slice 2, TC.l NU), (.slice 71, TC.l ME), (.slice 32, TC.l BA), (.int .i64, TC.i ct)])] => some ((qo_rc k s sg bg NA NU ME BA ct), qo_rmk (qo_rv k s sg bg NA NU ME BA ct))
  | _ => .none
def D57 : Dt := also D56 61 qo_rS
class qo_G : Prop where ok : DOk Go.Proofs.Try.prog tab D57
variable [g_impl_Type_zero : qo_G]
theorem d57 : DOk Go.Proofs.Try.prog tab D57 := qo_G.ok
def qcn_c (s : BS) (n : Int) : Bool := is (0 ≤ n ∧ n ≤ 9223372036854775807 ∧ s.length * n.toNat ≤ 140737488355328)
def qcn_v (s : BS) (n : Int) : BS := hid (Lib.repeatL s n.toNat)
def qcn_mk (p : BS) : Res := [(false, [⟨.str, .sh, TC.s p⟩])]
def qcn_S : List Arg → Option (Bool × Res) := fun xs => match xs with
  | [(false, [(.str, TC.s s)]), (false, [(.int .i64, TC.i n)])] => some ((qcn_c s n), qcn_mk (qcn_v s n))
  | _ => .none
def D58 : Dt := also D57 96 qcn_S
theorem d58 : DOk Go.Proofs.Try.prog tab D58 := d57.alsoC names_ok (c := _) Go.Proofs.Try.func96 rfl (by
  intro xs r h w S hargs0 hS hG hargs
  unfold qcn_S at h
  split at h
  · rename_i s n
    obtain ⟨h1, rfl⟩ := sp h
    obtain ⟨h2, h3, h4⟩ := is_iff.1 h1
    obtain ⟨u, us, rfl, ha, hr⟩ := args_cons hargs
    obtain ⟨u2, us2, rfl, hb, hr⟩ := args_cons hr
    cases args_nil hr
    rw [rep_str' (arg_rep ha), rep_int' (arg_rep hb)]
    obtain ⟨m, rfl⟩ : ∃ m : Nat, n = (m : Int) := ⟨n.toNat, by omega⟩
    rw [Int.toNat_natCast] at h4
    refine Calls.mono (Any.strings_Repeat lays105 extra ⟨s.toArray⟩ m w (by omega) (by rw [bytes_size]; exact h4)) ?_
    rintro e w' ⟨rfl, hb⟩
    refine ⟨_, rfl, ?_⟩
    show PlainRes tab w S [(false, [⟨.str, .sh, .s (hid (Lib.repeatL s ((m : Int)).toNat))⟩])] _ w'
    rw [hid_eq, Int.toNat_natCast]
    exact plain_flat rfl (.str _) hb
  · cases h)
theorem qcn_h {s : BS} {n : Int} : qcn_v s n = Lib.repeatL s n.toNat := hid_eq _
def qcl_t (n : Int) : Tr (BS) := (.ite ((qcn_c [0] n) = true) (.ok (qcn_v [0] n))
  .no)
def qcl_mk (p : BS) : Res := [(false, [⟨.str, .sh, TC.s p⟩])]
def qcl_c (n : Int) : Bool := is (0 ≤ n ∧ n ≤ 65536)
def qcl_v (n : Int) : BS := hid (List.replicate n.toNat 0)
theorem qcl_l (n : Int) : (qcl_c n) = true → (qcl_t n).val = some (qcl_v n) := by
  intro h
  obtain ⟨h0, h1⟩ := is_iff.1 h
  unfold qcl_t qcl_v
  rw [hid_eq]
  refine Tr.t (is_true ⟨h0, by omega, by rw [List.length_singleton]; omega⟩) ?_
  rw [Tr.val_ok, qcn_h, repL_one]
def qcl_S : List Arg → Option (Bool × Res) := fun xs => match xs with
  | [(false, [(.int .i64, TC.i n)])] => some ((qcl_c n), qcl_mk (qcl_v n))
  | _ => .none
theorem qcl_e (n : Int) : runF tab FT D58 live 97 noLoops [(false, [(.int .i64, TC.i n)])] = (qcl_t n).run fun p => some (qcl_mk p) := by kernel_rfl
theorem qcl_s : ∀ xs r, qcl_S xs = some (true, r) → runF tab FT D58 live 97 noLoops xs = some r := by
  intro xs r h
  unfold qcl_S at h
  split at h
  · obtain ⟨h1, rfl⟩ := sp h
    exact fun_told (qcl_e _) (qcl_l _) h1
  · cases h
def D59 : Dt := also D58 97 qcl_S
theorem d59 : DOk Go.Proofs.Try.prog tab D59 := d58.also mixed_ok tab_ok names_ok noLoops_ok qcl_s
theorem qcl_h {n : Int} : qcl_v n = List.replicate n.toNat 0 := hid_eq _
abbrev qo_9_σ := Int × Int × Bool × Bool × LL × LL × LL × LL × Int × LL × LL × Int × Int
abbrev qo_9_ω := (Int × Int × Bool × Bool × LL × LL × LL × LL × Int × LL)
def qo_9_step (k s : Int) (sg bg : Bool) (NA NU ME BA : LL) (ct : Int) (X Y : LL) (m i : Int) : Tr (qo_9_σ ⊕ qo_9_ω) := (.ite ((decide (i < m)) = true) (.ite ((0 : Int) ≤ i ∧ i < (Y.length : Int)) (.ite ((0 : Int) ≤ (nth (row Y i) 1).int ∧ (nth (row Y i) 1).int ≤ (X.length : Int) ∧ (X.length : Int) ≤ (X.length : Int)) (.ite ((qo_rc ((nth (row Y i) 2).int) ((nth (row Y i) 3).int) ((nth (row Y i) 4).bool) ((nth (row Y i) 5).bool) ((nth (row Y i) 6).list) ((nth (row Y i) 7).list) ((nth (row Y i) 8).list) ((nth (row Y i) 9).list) ((nth (row Y i) 10).int)) = true) (.ok (.inl (k, s, sg, bg, NA, NU, ME, BA, ct, (splice X ((nth (row Y i) 1).int).toNat ((bytesRow (qo_rv ((nth (row Y i) 2).int) ((nth (row Y i) 3).int) ((nth (row Y i) 4).bool) ((nth (row Y i) 5).bool) ((nth (row Y i) 6).list) ((nth (row Y i) 7).list) ((nth (row Y i) 8).list) ((nth (row Y i) 9).list) ((nth (row Y i) 10).int))).take ((((X.length : Int)).toNat - ((nth (row Y i) 1).int).toNat)))), Y, m, (IntKind.wrap .i64 (i + (1 : Int))))))
     .no)
    .no)
   .no)
  (.ok (.inr (k, s, sg, bg, NA, NU, ME, BA, ct, X))))
def qo_9_st : qo_9_σ → Tr (qo_9_σ ⊕ qo_9_ω) := fun x => (qo_9_step (x.1) (x.2.1) (x.2.2.1) (x.2.2.2.1) (x.2.2.2.2.1) (x.2.2.2.2.2.1) (x.2.2.2.2.2.2.1) (x.2.2.2.2.2.2.2.1) (x.2.2.2.2.2.2.2.2.1) (x.2.2.2.2.2.2.2.2.2.1) (x.2.2.2.2.2.2.2.2.2.2.1) (x.2.2.2.2.2.2.2.2.2.2.2.1) (x.2.2.2.2.2.2.2.2.2.2.2.2))
def qo_o9_1 (k s : Int) (sg bg : Bool) (NA NU ME BA : LL) (ct : Int) (X Y : LL) (m i : Int) : Bool := is (ME = Y ∧ m = (ME.length : Int) ∧ X = bytesRow (zl s) ∧ i = 0 ∧ okV 4 s sg bg NA NU ME BA ct = true ∧ (∀ x : List TC, x ∈ ME → qo_rc (nth x 2).int (nth x 3).int (nth x 4).bool (nth x 5).bool (nth x 6).list (nth x 7).list (nth x 8).list (nth x 9).list (nth x 10).int = true))
def qo_u9_1_9 (k s : Int) (sg bg : Bool) (NA NU ME BA : LL) (ct : Int) (X Y : LL) (m i : Int) : LL := bytesRow (ME.foldl zF [] ++ List.replicate (s.toNat - (ME.foldl zF []).length) 0)
def qo_9_fin (k s : Int) (sg bg : Bool) (NA NU ME BA : LL) (ct : Int) (X Y : LL) (m i : Int) : Told qo_9_ω := (.leaf (qo_o9_1 k s sg bg NA NU ME BA ct X Y m i) (k, s, sg, bg, NA, NU, ME, BA, ct, (qo_u9_1_9 k s sg bg NA NU ME BA ct X Y m i)))
def qo_9_sl (x : qo_9_σ) : List Slot := [⟨.bx 32 [⟨.int .i64, .sh, TC.i (x.1)⟩, ⟨.int .i64, .sh, TC.i (x.2.1)⟩, ⟨.bool, .sh, TC.b (x.2.2.1)⟩, ⟨.bool, .sh, TC.b (x.2.2.2.1)⟩, ⟨.slice 9, .sh, TC.l (x.2.2.2.2.1)⟩, ⟨.slice 2, .sh, TC.l (x.2.2.2.2.2.1)⟩, ⟨.slice 71, .sh, TC.l (x.2.2.2.2.2.2.1)⟩, ⟨.slice 32, .sh, TC.l (x.2.2.2.2.2.2.2.1)⟩, ⟨.int .i64, .sh, TC.i (x.2.2.2.2.2.2.2.2.1)⟩], ⟨0, 0⟩⟩, ⟨.val false [⟨.slice 5, .own true, TC.l (x.2.2.2.2.2.2.2.2.2.1)⟩], ⟨0, 0⟩⟩, ⟨.val false [⟨.slice 71, .sh, TC.l (x.2.2.2.2.2.2.2.2.2.2.1)⟩], ⟨0, 0⟩⟩, ⟨.val false [⟨.int .i64, .sh, TC.i (x.2.2.2.2.2.2.2.2.2.2.2.1)⟩], ⟨0, 0⟩⟩, ⟨.val false [⟨.int .i64, .sh, TC.i (x.2.2.2.2.2.2.2.2.2.2.2.2)⟩], ⟨0, 0⟩⟩]
def qo_9_out : qo_9_ω → Ex × List Slot := (fun x => (.exit 1, [⟨.bx 32 [⟨.int .i64, .sh, TC.i (x.1)⟩, ⟨.int .i64, .sh, TC.i (x.2.1)⟩, ⟨.bool, .sh, TC.b (x.2.2.1)⟩, ⟨.bool, .sh, TC.b (x.2.2.2.1)⟩, ⟨.slice 9, .sh, TC.l (x.2.2.2.2.1)⟩, ⟨.slice 2, .sh, TC.l (x.2.2.2.2.2.1)⟩, ⟨.slice 71, .sh, TC.l (x.2.2.2.2.2.2.1)⟩, ⟨.slice 32, .sh, TC.l (x.2.2.2.2.2.2.2.1)⟩, ⟨.int .i64, .sh, TC.i (x.2.2.2.2.2.2.2.2.1)⟩], ⟨0, 0⟩⟩, Slot.none, ⟨.val false [⟨.slice 5, .own true, TC.l (x.2.2.2.2.2.2.2.2.2)⟩], ⟨0, 0⟩⟩]))
def qo_lo9 : List Slot → Option (Told (Ex × List Slot)) := fun s => match s with
  | [⟨.bx 32 [⟨.int .i64, .sh, TC.i k⟩, ⟨.int .i64, .sh, TC.i s⟩, ⟨.bool, .sh, TC.b sg⟩, ⟨.bool, .sh, TC.b bg⟩, ⟨.slice 9, .sh, TC.l NA⟩, ⟨.slice 2, .sh, TC.l NU⟩, ⟨.slice 71, .sh, TC.l ME⟩, ⟨.slice 32, .sh, TC.l BA⟩, ⟨.int .i64, .sh, TC.i ct⟩], ⟨0, 0⟩⟩, ⟨.val false [⟨.slice 5, .own true, TC.l X⟩], ⟨0, 0⟩⟩, ⟨.val false [⟨.slice 71, .sh, TC.l Y⟩], ⟨0, 0⟩⟩, ⟨.val false [⟨.int .i64, .sh, TC.i m⟩], ⟨0, 0⟩⟩, ⟨.val false [⟨.int .i64, .sh, TC.i i⟩], ⟨0, 0⟩⟩] => some (((qo_9_fin k s sg bg NA NU ME BA ct X Y m i)).map qo_9_out)
  | _ => .none
def qo_lo : LoopTeller := fun r s => bif Nat.beq r 9 then qo_lo9 s else .none
theorem qo_9_r (k s : Int) (sg bg : Bool) (NA NU ME BA : LL) (ct : Int) (X Y : LL) (m i : Int) (fuel : Nat) : rounds (rnd tab FT D59 live 61 qo_lo 0 9) leave (fuel + 1) (qo_9_sl (k, s, sg, bg, NA, NU, ME, BA, ct, X, Y, m, i)) = ((qo_9_step k s sg bg NA NU ME BA ct X Y m i)).run (goOn (fun s => rounds (rnd tab FT D59 live 61 qo_lo 0 9) leave fuel (qo_9_sl s)) fun w => some (qo_9_out w)) := by kernel_rfl
theorem qo_9_h (k s : Int) (sg bg : Bool) (NA NU ME BA : LL) (ct : Int) (X Y : LL) (m i : Int) (ow : qo_9_ω) : ((qo_9_fin k s sg bg NA NU ME BA ct X Y m i)).val = some ow → ∃ fuel, loopN qo_9_st fuel (k, s, sg, bg, NA, NU, ME, BA, ct, X, Y, m, i) = some ow := by
  intro h
  refine auto_leaf (R := (k, s, sg, bg, NA, NU, ME, BA, ct, bytesRow (ME.foldl zF [] ++ List.replicate (s.toNat - (ME.foldl zF []).length) 0))) (fun ho => ?_) h
  obtain ⟨rfl, rfl, rfl, rfl, hk, hr⟩ := is_iff.1 ho
  have key := loopN_run (step := qo_9_st) (N := ME.length) (fun j => (k, s, sg, bg, NA, NU, ME, BA, ct, bytesRow ((ME.take j).foldl zF [] ++ List.replicate (s.toNat - ((ME.take j).foldl zF []).length) 0), ME, (ME.length : Int), (j : Int))) (w := (k, s, sg, bg, NA, NU, ME, BA, ct, bytesRow (ME.foldl zF [] ++ List.replicate (s.toNat - (ME.foldl zF []).length) 0))) (fun j hj => ?_) ?_ ME.length 0 (by omega)
  · exact ⟨_, Eq.trans (congrArg (loopN qo_9_st _) (by simp [zl])) key⟩
  · have hx : row ME (j : Int) ∈ ME := by rw [row_nat]; exact mem_getD hj
    obtain ⟨z1, z2⟩ := zero_len (okV_mem hk _ hx)
    have hl := zfold_len hk (fun x hx => zero_len (okV_mem hk x hx)) j (by omega)
    obtain ⟨c1, c2, c3, c4, c5⟩ := okV_cmp hk
    obtain ⟨m1, m2⟩ := c5 j hj
    have hs1 := zfold_len hk (fun x hx => zero_len (okV_mem hk x hx)) (j + 1) (by omega)
    have hle := endAt_le hk (fun x hx => zero_len (okV_mem hk x hx)) (j + 1) (by omega)
    have htk : ME.take (j + 1) = ME.take j ++ [row ME (j : Int)] := by rw [List.take_succ_eq_append_getElem hj, row_nat, getD_at hj]
    have hst : (ME.take (j + 1)).foldl zF [] = zF ((ME.take j).foldl zF []) (row ME (j : Int)) := by rw [htk, List.foldl_append]; rfl
    rw [hst] at hs1 ⊢
    generalize (ME.take j).foldl zF [] = O at hl hs1 ⊢
    unfold zF at hs1 ⊢
    show (qo_9_step k s sg bg NA NU ME BA ct (bytesRow (O ++ List.replicate (s.toNat - O.length) 0)) ME (ME.length : Int) (j : Int)).val = _
    unfold qo_9_step
    rw [show qo_rv (nth (row ME (j : Int)) 2).int (nth (row ME (j : Int)) 3).int (nth (row ME (j : Int)) 4).bool (nth (row ME (j : Int)) 5).bool (nth (row ME (j : Int)) 6).list (nth (row ME (j : Int)) 7).list (nth (row ME (j : Int)) 8).list (nth (row ME (j : Int)) 9).list (nth (row ME (j : Int)) 10).int = zelV (nth (row ME (j : Int)) 2).int (nth (row ME (j : Int)) 3).int (nth (row ME (j : Int)) 4).bool (nth (row ME (j : Int)) 5).bool (nth (row ME (j : Int)) 6).list (nth (row ME (j : Int)) 7).list (nth (row ME (j : Int)) 8).list (nth (row ME (j : Int)) 9).list (nth (row ME (j : Int)) 10).int from rfl]
    generalize zelV (nth (row ME (j : Int)) 2).int (nth (row ME (j : Int)) 3).int (nth (row ME (j : Int)) 4).bool (nth (row ME (j : Int)) 5).bool (nth (row ME (j : Int)) 6).list (nth (row ME (j : Int)) 7).list (nth (row ME (j : Int)) 8).list (nth (row ME (j : Int)) 9).list (nth (row ME (j : Int)) 10).int = Z at z1 hs1 ⊢
    simp only [List.length_append, zl_len] at hs1
    have hlen : (bytesRow (O ++ List.replicate (s.toNat - O.length) 0)).length = s.toNat := by
      unfold bytesRow
      simp only [List.length_map, List.length_append, List.length_replicate]
      omega
    have hsp := splice_zero (o := O) (z := Z) (S := s.toNat) (off := (nth (row ME (j : Int)) 1).int.toNat) (by omega) (by omega)
    have htz : (bytesRow Z).take (s.toNat - (nth (row ME (j : Int)) 1).int.toNat) = bytesRow Z := List.take_of_length_le (by unfold bytesRow; rw [List.length_map]; omega)
    rw [hlen, Int.toNat_natCast, htz, hsp]
    refine Tr.t (by simp; omega) (Tr.t (by constructor <;> omega) (Tr.t ⟨by omega, by omega, by omega⟩ (Tr.t (hr _ hx) ?_)))
    rw [Tr.val_ok, wrap64 (i := (j : Int) + 1) (by omega) (by omega)]
    unfold zl
    rw [show ((nth (row ME (j : Int)) 1).int - (O.length : Int)).toNat = (nth (row ME (j : Int)) 1).int.toNat - O.length by omega]
    have el : (O ++ (List.replicate ((nth (row ME (j : Int)) 1).int.toNat - O.length) (0 : UInt8) ++ Z)).length = (nth (row ME (j : Int)) 1).int.toNat + Z.length := by
      simp only [List.length_append, List.length_replicate]
      omega
    rw [el]
    rfl
  · show (qo_9_step k s sg bg NA NU ME BA ct (bytesRow ((ME.take ME.length).foldl zF [] ++ List.replicate (s.toNat - ((ME.take ME.length).foldl zF []).length) 0)) ME (ME.length : Int) (ME.length : Int)).val = _
    rw [List.take_length]
    unfold qo_9_step
    refine Tr.n (by simp) ?_
    rfl
theorem qo_is9 : LoopIs tab FT D59 live 61 qo_lo 0 9 := by
  refine loop_told (sl := qo_9_sl) (step := qo_9_st) (out := qo_9_out) (lor := qo_lo9) (fin := fun x => (qo_9_fin (x.1) (x.2.1) (x.2.2.1) (x.2.2.2.1) (x.2.2.2.2.1) (x.2.2.2.2.2.1) (x.2.2.2.2.2.2.1) (x.2.2.2.2.2.2.2.1) (x.2.2.2.2.2.2.2.2.1) (x.2.2.2.2.2.2.2.2.2.1) (x.2.2.2.2.2.2.2.2.2.2.1) (x.2.2.2.2.2.2.2.2.2.2.2.1) (x.2.2.2.2.2.2.2.2.2.2.2.2))) (fun _ => rfl) ?_ (fun x n => qo_9_r x.1 x.2.1 x.2.2.1 x.2.2.2.1 x.2.2.2.2.1 x.2.2.2.2.2.1 x.2.2.2.2.2.2.1 x.2.2.2.2.2.2.2.1 x.2.2.2.2.2.2.2.2.1 x.2.2.2.2.2.2.2.2.2.1 x.2.2.2.2.2.2.2.2.2.2.1 x.2.2.2.2.2.2.2.2.2.2.2.1 x.2.2.2.2.2.2.2.2.2.2.2.2 n) (fun x ow => qo_9_h x.1 x.2.1 x.2.2.1 x.2.2.2.1 x.2.2.2.2.1 x.2.2.2.2.2.1 x.2.2.2.2.2.2.1 x.2.2.2.2.2.2.2.1 x.2.2.2.2.2.2.2.2.1 x.2.2.2.2.2.2.2.2.2.1 x.2.2.2.2.2.2.2.2.2.2.1 x.2.2.2.2.2.2.2.2.2.2.2.1 x.2.2.2.2.2.2.2.2.2.2.2.2 ow)
  intro s t h
  unfold qo_lo9 at h
  split at h
  · cases h; exact ⟨(_, _, _, _, _, _, _, _, _, _, _, _, _), rfl, rfl⟩
  · cases h
def qo_t (k s : Int) (sg bg : Bool) (NA NU ME BA : LL) (ct : Int) : Tr (BS) := (.ite ((k == (3 : Int)) = true) (.ite ((0 : Int) ≤ (0 : Int) ∧ (0 : Int) < (NU.length : Int)) (.ite ((qy_rc k s sg bg NA NU ME BA ct ((nth (row NU (0 : Int)) 0).int)) = true) (.ok (qy_rv k s sg bg NA NU ME BA ct ((nth (row NU (0 : Int)) 0).int)))
    .no)
   .no)
  (.ite ((k == (5 : Int)) = true) (.ite ((0 : Int) ≤ (0 : Int) ∧ (0 : Int) < (BA.length : Int)) (.ite ((qo_rc ((nth (row BA (0 : Int)) 0).int) ((nth (row BA (0 : Int)) 1).int) ((nth (row BA (0 : Int)) 2).bool) ((nth (row BA (0 : Int)) 3).bool) ((nth (row BA (0 : Int)) 4).list) ((nth (row BA (0 : Int)) 5).list) ((nth (row BA (0 : Int)) 6).list) ((nth (row BA (0 : Int)) 7).list) ((nth (row BA (0 : Int)) 8).int)) = true) (.ite ((qcn_c (qo_rv ((nth (row BA (0 : Int)) 0).int) ((nth (row BA (0 : Int)) 1).int) ((nth (row BA (0 : Int)) 2).bool) ((nth (row BA (0 : Int)) 3).bool) ((nth (row BA (0 : Int)) 4).list) ((nth (row BA (0 : Int)) 5).list) ((nth (row BA (0 : Int)) 6).list) ((nth (row BA (0 : Int)) 7).list) ((nth (row BA (0 : Int)) 8).int)) ct) = true) (.ok (qcn_v (qo_rv ((nth (row BA (0 : Int)) 0).int) ((nth (row BA (0 : Int)) 1).int) ((nth (row BA (0 : Int)) 2).bool) ((nth (row BA (0 : Int)) 3).bool) ((nth (row BA (0 : Int)) 4).list) ((nth (row BA (0 : Int)) 5).list) ((nth (row BA (0 : Int)) 6).list) ((nth (row BA (0 : Int)) 7).list) ((nth (row BA (0 : Int)) 8).int)) ct))
      .no)
     .no)
    .no)
   (.ite ((k == (4 : Int)) = true) (.ite ((qcl_c s) = true) (.ite ((qcl_v s).length ≤ 140737488355328) (.ite ((qo_o9_1 k s sg bg NA NU ME BA ct (bytesRow (qcl_v s)) ME (ME.length : Int) (0 : Int)) = true) (.ok ((qo_u9_1_9 k s sg bg NA NU ME BA ct (bytesRow (qcl_v s)) ME (ME.length : Int) (0 : Int)).map byteOf))
       .no)
      .no)
     .no)
    (.ite ((qw_rc k s sg bg NA NU ME BA ct) = true) (.ite ((qcl_c (qw_rv k s sg bg NA NU ME BA ct)) = true) (.ok (qcl_v (qw_rv k s sg bg NA NU ME BA ct)))
      .no)
     .no))))
def qo_mk (p : BS) : Res := [(false, [⟨.str, .sh, TC.s p⟩])]
def qo_c (k s : Int) (sg bg : Bool) (NA NU ME BA : LL) (ct : Int) : Bool := (bif (k == (3 : Int)) then (is ((0 : Int) ≤ (0 : Int) ∧ (0 : Int) < (NU.length : Int)) && ((qy_rc k s sg bg NA NU ME BA ct ((nth (row NU (0 : Int)) 0).int)) && true)) else (bif (k == (5 : Int)) then (is ((0 : Int) ≤ (0 : Int) ∧ (0 : Int) < (BA.length : Int)) && ((qo_rc ((nth (row BA (0 : Int)) 0).int) ((nth (row BA (0 : Int)) 1).int) ((nth (row BA (0 : Int)) 2).bool) ((nth (row BA (0 : Int)) 3).bool) ((nth (row BA (0 : Int)) 4).list) ((nth (row BA (0 : Int)) 5).list) ((nth (row BA (0 : Int)) 6).list) ((nth (row BA (0 : Int)) 7).list) ((nth (row BA (0 : Int)) 8).int)) && ((qcn_c (qo_rv ((nth (row BA (0 : Int)) 0).int) ((nth (row BA (0 : Int)) 1).int) ((nth (row BA (0 : Int)) 2).bool) ((nth (row BA (0 : Int)) 3).bool) ((nth (row BA (0 : Int)) 4).list) ((nth (row BA (0 : Int)) 5).list) ((nth (row BA (0 : Int)) 6).list) ((nth (row BA (0 : Int)) 7).list) ((nth (row BA (0 : Int)) 8).int)) ct) && true))) else (bif (k == (4 : Int)) then ((qcl_c s) && (is ((qcl_v s).length ≤ 140737488355328) && ((qo_o9_1 k s sg bg NA NU ME BA ct (bytesRow (qcl_v s)) ME (ME.length : Int) (0 : Int)) && true))) else ((qw_rc k s sg bg NA NU ME BA ct) && ((qcl_c (qw_rv k s sg bg NA NU ME BA ct)) && true)))))
def qo_v (k s : Int) (sg bg : Bool) (NA NU ME BA : LL) (ct : Int) : BS := (bif (k == (3 : Int)) then (qy_rv k s sg bg NA NU ME BA ct ((nth (row NU (0 : Int)) 0).int)) else (bif (k == (5 : Int)) then (qcn_v (qo_rv ((nth (row BA (0 : Int)) 0).int) ((nth (row BA (0 : Int)) 1).int) ((nth (row BA (0 : Int)) 2).bool) ((nth (row BA (0 : Int)) 3).bool) ((nth (row BA (0 : Int)) 4).list) ((nth (row BA (0 : Int)) 5).list) ((nth (row BA (0 : Int)) 6).list) ((nth (row BA (0 : Int)) 7).list) ((nth (row BA (0 : Int)) 8).int)) ct) else (bif (k == (4 : Int)) then ((qo_u9_1_9 k s sg bg NA NU ME BA ct (bytesRow (qcl_v s)) ME (ME.length : Int) (0 : Int)).map byteOf) else (qcl_v (qw_rv k s sg bg NA NU ME BA ct)))))
theorem qo_l (k s : Int) (sg bg : Bool) (NA NU ME BA : LL) (ct : Int) : (qo_c k s sg bg NA NU ME BA ct) = true → (qo_t k s sg bg NA NU ME BA ct).val = some (qo_v k s sg bg NA NU ME BA ct) := by
  unfold qo_t qo_v qo_c
  intro h
  repeat' first | refine Tr.gb h fun h => ?_ | refine Tr.gs h fun h => ?_ | refine Tr.ss h (fun h => ?_) fun h => ?_ | exact rfl
theorem qo_e (k s : Int) (sg bg : Bool) (NA NU ME BA : LL) (ct : Int) : runF tab FT D59 live 61 qo_lo [(true, [(.int .i64, TC.i k), (.int .i64, TC.i s), (.bool, TC.b sg), (.bool, TC.b bg), (.slice 9, TC.l NA), (.slice 2, TC.l NU), (.slice 71, TC.l ME), (.slice 32, TC.l BA), (.int .i64, TC.i ct)])] = (qo_t k s sg bg NA NU ME BA ct).run fun p => some (qo_mk p) := by kernel_rfl
theorem qo_nx (k s : Int) (sg bg : Bool) (NA NU ME BA : LL) (ct : Int) : is (max (rowsDep ME) (rowsDep BA) < qo_O.n + 1 ∧ max (rowsDep ME) (rowsDep BA) < qw_O.n ∧ max (rowsDep ME) (rowsDep BA) < qy_O.n ∧ okV k s sg bg NA NU ME BA ct = true) = true → (qo_c k s sg bg NA NU ME BA ct) = true ∧ (qo_v k s sg bg NA NU ME BA ct) = zelV k s sg bg NA NU ME BA ct := by
  intro h
  obtain ⟨hM, hS, hB, hk⟩ := is_iff.1 h
  unfold qo_c qo_v
  simp only [qcl_h]
  have hrb : 0 < BA.length → okV (nth (row BA (0 : Int)) 0).int (nth (row BA (0 : Int)) 1).int (nth (row BA (0 : Int)) 2).bool (nth (row BA (0 : Int)) 3).bool (nth (row BA (0 : Int)) 4).list (nth (row BA (0 : Int)) 5).list (nth (row BA (0 : Int)) 6).list (nth (row BA (0 : Int)) 7).list (nth (row BA (0 : Int)) 8).int = true → qo_rc (nth (row BA (0 : Int)) 0).int (nth (row BA (0 : Int)) 1).int (nth (row BA (0 : Int)) 2).bool (nth (row BA (0 : Int)) 3).bool (nth (row BA (0 : Int)) 4).list (nth (row BA (0 : Int)) 5).list (nth (row BA (0 : Int)) 6).list (nth (row BA (0 : Int)) 7).list (nth (row BA (0 : Int)) 8).int = true := fun hb ho => is_true ⟨by have := dep_base (ME := ME) hb 6 7; omega, by have := dep_base (ME := ME) hb 6 7; omega, by have := dep_base (ME := ME) hb 6 7; omega, ho⟩
  have hrm : (∀ x : List TC, x ∈ ME → okV (nth x 2).int (nth x 3).int (nth x 4).bool (nth x 5).bool (nth x 6).list (nth x 7).list (nth x 8).list (nth x 9).list (nth x 10).int = true) → ∀ x : List TC, x ∈ ME → qo_rc (nth x 2).int (nth x 3).int (nth x 4).bool (nth x 5).bool (nth x 6).list (nth x 7).list (nth x 8).list (nth x 9).list (nth x 10).int = true := fun ho x hx => is_true ⟨by have := dep_max (BA := BA) hx 8 9; omega, by have := dep_max (BA := BA) hx 8 9; omega, by have := dep_max (BA := BA) hx 8 9; omega, ho x hx⟩
  have hle : ∀ n : Int, zl n = List.replicate n.toNat 0 := fun _ => rfl
  have ht := (okV_top hk).1
  have hzz := (zero_len hk).1
  rcases okV_kind hk with rfl | rfl | rfl | rfl | rfl | rfl
  · rw [size_else (by decide) (by decide)] at ht hzz
    rw [zelV_else rfl rfl rfl]
    simp only [Int.reduceBEq, cond_true, cond_false]
    have hz := okV_isize hk
    rw [show qw_rc 1 s sg bg NA NU ME BA ct = true from is_true ⟨by omega, hz.2⟩, show qw_rv 1 s sg bg NA NU ME BA ct = s from hz.1.trans (size_else (by decide) (by decide))]
    exact ⟨andT rfl (andT (is_true ⟨by omega, by omega⟩) rfl), by first | rfl | trivial⟩
  · rw [size_else (by decide) (by decide)] at ht hzz
    rw [zelV_else rfl rfl rfl]
    simp only [Int.reduceBEq, cond_true, cond_false]
    have hz := okV_isize hk
    rw [show qw_rc 2 s sg bg NA NU ME BA ct = true from is_true ⟨by omega, hz.2⟩, show qw_rv 2 s sg bg NA NU ME BA ct = s from hz.1.trans (size_else (by decide) (by decide))]
    exact ⟨andT rfl (andT (is_true ⟨by omega, by omega⟩) rfl), by first | rfl | trivial⟩
  · obtain ⟨n1, n2, n3, n4, n5, e6, -⟩ := okV_enum hk
    rw [zelV_3]
    simp only [Int.reduceBEq, cond_true, cond_false]
    have hn := okV_numC hk rfl
    have e1 : (nth (row NU (0 : Int)) 0).int = intAt NU 0 := rfl
    rw [e1, show qy_rc 3 s sg bg NA NU ME BA ct (intAt NU 0) = true from is_true ⟨by omega, hn⟩, show qy_rv 3 s sg bg NA NU ME BA ct (intAt NU 0) = numB 3 s bg BA (intAt NU 0) from hid_eq _]
    exact ⟨andT (is_true (by constructor <;> omega)) rfl, by first | rfl | trivial⟩
  · obtain ⟨c1, c2, c3, c4, c5⟩ := okV_cmp hk
    have hr := hrm (okV_mem hk)
    have hl := zfold_len hk (fun x hx => zero_len (okV_mem hk x hx)) ME.length (Nat.le_refl _)
    rw [List.take_length] at hl
    rw [zelV_4]
    simp only [Int.reduceBEq, cond_true, cond_false]
    have hzl : qcl_c s = true := is_true ⟨by omega, by omega⟩
    rw [hzl, show List.replicate s.toNat (0 : UInt8) = zl s from rfl, show qo_u9_1_9 4 s sg bg NA NU ME BA ct (bytesRow (zl s)) ME (ME.length : Int) (0 : Int) = bytesRow (ME.foldl zF [] ++ List.replicate (s.toNat - (ME.foldl zF []).length) 0) from rfl, show qo_o9_1 4 s sg bg NA NU ME BA ct (bytesRow (zl s)) ME (ME.length : Int) (0 : Int) = true from is_true ⟨rfl, rfl, rfl, rfl, hk, hr⟩, bytesRow_of]
    generalize ME.foldl zF [] = O at hl ⊢
    refine ⟨andT rfl (andT (is_true (by rw [zl_len]; omega)) rfl), ?_⟩
    unfold zl
    rw [show (s - (O.length : Int)).toNat = s.toNat - O.length by omega]
  · obtain ⟨hb, ho⟩ := okV_base hk
    have hr := hrb hb ho
    obtain ⟨z1, z2⟩ := zero_len ho
    rw [zelV_5 hb]
    simp only [Int.reduceBEq, cond_true, cond_false]
    obtain ⟨a1, a2⟩ := okV_arr hk
    rw [show qo_rv (nth (row BA (0 : Int)) 0).int (nth (row BA (0 : Int)) 1).int (nth (row BA (0 : Int)) 2).bool (nth (row BA (0 : Int)) 3).bool (nth (row BA (0 : Int)) 4).list (nth (row BA (0 : Int)) 5).list (nth (row BA (0 : Int)) 6).list (nth (row BA (0 : Int)) 7).list (nth (row BA (0 : Int)) 8).int = zelV (nth (row BA (0 : Int)) 0).int (nth (row BA (0 : Int)) 1).int (nth (row BA (0 : Int)) 2).bool (nth (row BA (0 : Int)) 3).bool (nth (row BA (0 : Int)) 4).list (nth (row BA (0 : Int)) 5).list (nth (row BA (0 : Int)) 6).list (nth (row BA (0 : Int)) 7).list (nth (row BA (0 : Int)) 8).int from rfl, qcn_h]
    have hlen : (zelV (nth (row BA (0 : Int)) 0).int (nth (row BA (0 : Int)) 1).int (nth (row BA (0 : Int)) 2).bool (nth (row BA (0 : Int)) 3).bool (nth (row BA (0 : Int)) 4).list (nth (row BA (0 : Int)) 5).list (nth (row BA (0 : Int)) 6).list (nth (row BA (0 : Int)) 7).list (nth (row BA (0 : Int)) 8).int).length * ct.toNat ≤ 24 * 4 := Nat.mul_le_mul (by omega) (by omega)
    exact ⟨andT (is_true (by constructor <;> omega)) (andT hr (andT (is_true ⟨by omega, by omega, by omega⟩) rfl)), by first | rfl | trivial⟩
  · rw [size_else (by decide) (by decide)] at ht hzz
    rw [zelV_else rfl rfl rfl]
    simp only [Int.reduceBEq, cond_true, cond_false]
    have hz := okV_isize hk
    rw [show qw_rc 6 s sg bg NA NU ME BA ct = true from is_true ⟨by omega, hz.2⟩, show qw_rv 6 s sg bg NA NU ME BA ct = s from hz.1.trans (size_else (by decide) (by decide))]
    exact ⟨andT rfl (andT (is_true ⟨by omega, by omega⟩) rfl), by first | rfl | trivial⟩
theorem qo_nxr (k s : Int) (sg bg : Bool) (NA NU ME BA : LL) (ct : Int) : qo_rc (i_impl_Type_zero := ⟨qo_O.n + 1⟩) k s sg bg NA NU ME BA ct = true → (qo_c k s sg bg NA NU ME BA ct) = true ∧ (qo_v k s sg bg NA NU ME BA ct) = (qo_rv k s sg bg NA NU ME BA ct) := fun h => qo_nx k s sg bg NA NU ME BA ct h
theorem qo_rs : ∀ xs r, qo_rS (i_impl_Type_zero := ⟨qo_O.n + 1⟩) xs = some (true, r) → runF tab FT D59 live 61 qo_lo xs = some r := by
  intro xs r h
  unfold qo_rS at h
  split at h
  · obtain ⟨h1, rfl⟩ := sp h
    have hx := qo_nxr _ _ _ _ _ _ _ _ _ h1
    have ht := fun_told (qo_e ..) (qo_l _ _ _ _ _ _ _ _ _) hx.1
    rw [hx.2] at ht
    exact ht
  · cases h
theorem qo_step : qo_G (i_impl_Type_zero := ⟨qo_O.n + 1⟩) := by
  have h := DOk.also2 (S := qo_rS (i_impl_Type_zero := ⟨qo_O.n + 1⟩)) mixed_ok tab_ok names_ok d56 d59 (fnLoops_one (by kernel_rfl) qo_is9) qo_rs
  refine qo_G.mk (i_impl_Type_zero := ⟨qo_O.n + 1⟩) ?_
  exact h
def qby_t (k s : Int) (sg bg : Bool) (NA NU ME BA : LL) (ct : Int) : Tr (BS) := (.ite ((qca_c k s sg bg NA NU ME BA ct) = true) (.ite ((!(qca_v k s sg bg NA NU ME BA ct)) = true) (.ok ([]))
   (.ite ((qo_rc k s sg bg NA NU ME BA ct) = true) (.ok (qo_rv k s sg bg NA NU ME BA ct))
    .no))
  .no)
def qby_mk (p : BS) : Res := [(false, [⟨.str, .sh, TC.s p⟩])]
def qby_c (k s : Int) (sg bg : Bool) (NA NU ME BA : LL) (ct : Int) : Bool := ((qca_c k s sg bg NA NU ME BA ct) && (bif (!(qca_v k s sg bg NA NU ME BA ct)) then true else ((qo_rc k s sg bg NA NU ME BA ct) && true)))
def qby_v (k s : Int) (sg bg : Bool) (NA NU ME BA : LL) (ct : Int) : BS := (bif (!(qca_v k s sg bg NA NU ME BA ct)) then [] else (qo_rv k s sg bg NA NU ME BA ct))
theorem qby_l (k s : Int) (sg bg : Bool) (NA NU ME BA : LL) (ct : Int) : (qby_c k s sg bg NA NU ME BA ct) = true → (qby_t k s sg bg NA NU ME BA ct).val = some (qby_v k s sg bg NA NU ME BA ct) := by
  unfold qby_t qby_v qby_c
  exact fun h => (Tr.gb h fun h => (Tr.ss h (fun h => rfl) (fun h => (Tr.gb h fun h => rfl))))
def qby_S : List Arg → Option (Bool × Res) := fun xs => match xs with
  | [(true, [(.int .i64, TC.i k), (.int .i64, TC.i s), (.bool, TC.b sg), (.bool, TC.b bg), (.slice 9, TC.l NA), (.slice 2, TC.l NU), (.slice 71, TC.l ME), (.slice 32, TC.l BA), (.int .i64, TC.i ct)])] => some ((qby_c k s sg bg NA NU ME BA ct), qby_mk (qby_v k s sg bg NA NU ME BA ct))
  | _ => .none
theorem qby_e (k s : Int) (sg bg : Bool) (NA NU ME BA : LL) (ct : Int) : runF tab FT D59 live 25 noLoops [(true, [(.int .i64, TC.i k), (.int .i64, TC.i s), (.bool, TC.b sg), (.bool, TC.b bg), (.slice 9, TC.l NA), (.slice 2, TC.l NU), (.slice 71, TC.l ME), (.slice 32, TC.l BA), (.int .i64, TC.i ct)])] = (qby_t k s sg bg NA NU ME BA ct).run fun p => some (qby_mk p) := by kernel_rfl
theorem qby_s : ∀ xs r, qby_S xs = some (true, r) → runF tab FT D59 live 25 noLoops xs = some r := by
  intro xs r h
  unfold qby_S at h
  split at h
  · obtain ⟨h1, rfl⟩ := sp h
    exact fun_told (qby_e ..) (qby_l _ _ _ _ _ _ _ _ _) h1
  · cases h
def D60 : Dt := also D59 25 qby_S
theorem d60 : DOk Go.Proofs.Try.prog tab D60 := d59.also mixed_ok tab_ok names_ok noLoops_ok qby_s
theorem qby_cc {k : Int} {s : Int} {sg : Bool} {bg : Bool} {NA : LL} {NU : LL} {ME : LL} {BA : LL} {ct : Int} (vac : qv_rc k s sg bg NA NU ME BA ct 3 = true)(izc : okV k s sg bg NA NU ME BA ct = true → qo_rc k s sg bg NA NU ME BA ct = true) : (qby_c k s sg bg NA NU ME BA ct) = true := by
  unfold qby_c
  refine andT (by exact qca_cc vac) ?_
  refine bifT (fun b1 => ?_) (fun b1 => ?_)
  · skip
    rfl
  · skip
    refine andT (by exact izc (by (rw [← qca_vv]; simpa using b1))) ?_
    rfl
theorem qby_vv (k s : Int) (sg bg : Bool) (NA NU ME BA : LL) (ct : Int) : qby_v k s sg bg NA NU ME BA ct = bif okV k s sg bg NA NU ME BA ct then zelV k s sg bg NA NU ME BA ct else [] := by
  show (bif !(qca_v k s sg bg NA NU ME BA ct) then [] else zelV k s sg bg NA NU ME BA ct) = _
  rw [qca_vv]
  cases h : okV k s sg bg NA NU ME BA ct <;> rfl
abbrev qbk_4_σ := LL × LL × Int
abbrev qbk_4_ω := (Unit) ⊕ (Unit)
def qbk_4_step (A C : LL) (i : Int) : Tr (qbk_4_σ ⊕ qbk_4_ω) := (.ite ((decide (i < (A.length : Int))) = true) (.ite ((0 : Int) ≤ i ∧ i < (A.length : Int)) (.ite ((0 : Int) ≤ i ∧ i < (C.length : Int)) (.ite ((!((nth (row A i) 0).str == (nth (row C i) 0).str)) = true) (.ok (.inr (.inl ())))
     (.ok (.inl (A, C, (IntKind.wrap .i64 (i + (1 : Int)))))))
    .no)
   .no)
  (.ok (.inr (.inr ()))))
def qbk_4_st : qbk_4_σ → Tr (qbk_4_σ ⊕ qbk_4_ω) := fun x => (qbk_4_step (x.1) (x.2.1) (x.2.2))
def qbk_o4_1 (A C : LL) (i : Int) : Bool := is (A = C ∧ Typed tab (.slice 9) (.l A) ∧ i = 0)
def qbk_4_fin (A C : LL) (i : Int) : Told qbk_4_ω := (.leaf (qbk_o4_1 A C i) (.inr ()))
def qbk_4_sl (x : qbk_4_σ) : List Slot := [⟨.val false [⟨.slice 9, .sh, TC.l (x.1)⟩], ⟨0, 0⟩⟩, ⟨.val false [⟨.slice 9, .sh, TC.l (x.2.1)⟩], ⟨0, 0⟩⟩, ⟨.val false [⟨.int .i64, .sh, TC.i (x.2.2)⟩], ⟨0, 0⟩⟩]
def qbk_4_out : qbk_4_ω → Ex × List Slot := (Sum.elim (fun x => (.ret, [⟨.val false [⟨.bool, .sh, TC.b false⟩], ⟨0, 0⟩⟩])) (fun x => (.exit 0, [Slot.none])))
def qbk_lo4 : List Slot → Option (Told (Ex × List Slot)) := fun s => match s with
  | [⟨.val false [⟨.slice 9, .sh, TC.l A⟩], ⟨0, 0⟩⟩, ⟨.val false [⟨.slice 9, .sh, TC.l C⟩], ⟨0, 0⟩⟩, ⟨.val false [⟨.int .i64, .sh, TC.i i⟩], ⟨0, 0⟩⟩] => some (((qbk_4_fin A C i)).map qbk_4_out)
  | _ => .none
def qbk_lo : LoopTeller := fun r s => bif Nat.beq r 4 then qbk_lo4 s else .none
theorem qbk_4_r (A C : LL) (i : Int) (fuel : Nat) : rounds (rnd tab FT D60 live 38 qbk_lo 0 4) leave (fuel + 1) (qbk_4_sl (A, C, i)) = ((qbk_4_step A C i)).run (goOn (fun s => rounds (rnd tab FT D60 live 38 qbk_lo 0 4) leave fuel (qbk_4_sl s)) fun w => some (qbk_4_out w)) := by kernel_rfl
theorem qbk_4_h (A C : LL) (i : Int) (ow : qbk_4_ω) : ((qbk_4_fin A C i)).val = some ow → ∃ fuel, loopN qbk_4_st fuel (A, C, i) = some ow := by
  intro h
  refine auto_leaf (R := Sum.inr ()) (fun ho => ?_) h
  obtain ⟨rfl, ht, rfl⟩ := is_iff.1 ho
  have hlen : A.length ≤ 140737488351232 := by have := typed_room ht; simp only [show (tab 9).bytes = 16 from rfl] at this; omega
  refine ⟨_, loopN_run (N := A.length) (fun i => (A, A, (i : Int))) (fun i hi => ?_) ?_ A.length 0 (by omega)⟩
  · have c0 : Typed tab (.str) (.s (nth (A.getD i []) 0).str) := typed_s (typed_cell ht (A.getD i []) (mem_getD hi) 0 (by decide))
    show (qbk_4_step A A (i : Int)).val = _
    unfold qbk_4_step
    refine Tr.t (by simp; omega) ?_
    refine Tr.t (by first | omega | (constructor <;> omega)) ?_
    refine Tr.t (by first | omega | (constructor <;> omega)) ?_
    refine Tr.n (by simp [qba_rv, qy_rv, qw_rv, qv_rv, qo_rv, qbc_rv, qp_rv, qe_rv, qbi_rv, qn_rv, qg_rv]) ?_
    rw [Tr.val_ok, wrap64 (i := (i : Int) + 1) (by omega) (by omega)]; rfl
  · show (qbk_4_step A A (A.length : Int)).val = _
    refine Tr.n (by simp) ?_
    rfl
theorem qbk_is4 : LoopIs tab FT D60 live 38 qbk_lo 0 4 := by
  refine loop_told (sl := qbk_4_sl) (step := qbk_4_st) (out := qbk_4_out) (lor := qbk_lo4) (fin := fun x => (qbk_4_fin (x.1) (x.2.1) (x.2.2))) (fun _ => rfl) ?_ (fun x n => qbk_4_r x.1 x.2.1 x.2.2 n) (fun x ow => qbk_4_h x.1 x.2.1 x.2.2 ow)
  intro s t h
  unfold qbk_lo4 at h
  split at h
  · cases h; exact ⟨(_, _, _), rfl, rfl⟩
  · cases h
def qbk_t (A C : LL) : Tr (Bool) := (.ite ((!((A.length : Int) == (C.length : Int))) = true) (.ok false)
  (.ite ((qbk_o4_1 A C (0 : Int)) = true) (.ok true)
   .no))
def qbk_mk (p : Bool) : Res := [(false, [⟨.bool, .sh, TC.b p⟩])]
def qbk_c (A C : LL) : Bool := is (A = C ∧ Typed tab (.slice 9) (.l A))
def qbk_v (A C : LL) : Bool := true
theorem qbk_l (A C : LL) : (qbk_c A C) = true → (qbk_t A C).val = some (qbk_v A C) := by
  intro h
  obtain ⟨rfl, ht⟩ := is_iff.1 h
  unfold qbk_t
  refine Tr.n (by simp) ?_
  refine Tr.t (is_true ⟨rfl, ht, rfl⟩) ?_
  rfl
def qbk_S : List Arg → Option (Bool × Res) := fun xs => match xs with
  | [(false, [(.slice 9, TC.l A)]), (false, [(.slice 9, TC.l C)])] => some ((qbk_c A C), qbk_mk (qbk_v A C))
  | _ => .none
theorem qbk_e (A C : LL) : runF tab FT D60 live 38 qbk_lo [(false, [(.slice 9, TC.l A)]), (false, [(.slice 9, TC.l C)])] = (qbk_t A C).run fun p => some (qbk_mk p) := by kernel_rfl
theorem qbk_s : ∀ xs r, qbk_S xs = some (true, r) → runF tab FT D60 live 38 qbk_lo xs = some r := by
  intro xs r h
  unfold qbk_S at h
  split at h
  · obtain ⟨h1, rfl⟩ := sp h
    exact fun_told (qbk_e ..) (qbk_l _ _) h1
  · cases h
def D61 : Dt := also D60 38 qbk_S
theorem d61 : DOk Go.Proofs.Try.prog tab D61 := d60.also mixed_ok tab_ok names_ok (fnLoops_one (by kernel_rfl) qbk_is4) qbk_s
abbrev qbm_4_σ := LL × LL × Int
abbrev qbm_4_ω := (Unit) ⊕ (Unit)
def qbm_4_step (A C : LL) (i : Int) : Tr (qbm_4_σ ⊕ qbm_4_ω) := (.ite ((decide (i < (A.length : Int))) = true) (.ite ((0 : Int) ≤ i ∧ i < (A.length : Int)) (.ite ((0 : Int) ≤ i ∧ i < (C.length : Int)) (.ite ((!((nth (row A i) 0).int == (nth (row C i) 0).int)) = true) (.ok (.inr (.inl ())))
     (.ok (.inl (A, C, (IntKind.wrap .i64 (i + (1 : Int)))))))
    .no)
   .no)
  (.ok (.inr (.inr ()))))
def qbm_4_st : qbm_4_σ → Tr (qbm_4_σ ⊕ qbm_4_ω) := fun x => (qbm_4_step (x.1) (x.2.1) (x.2.2))
def qbm_o4_1 (A C : LL) (i : Int) : Bool := is (A = C ∧ Typed tab (.slice 2) (.l A) ∧ i = 0)
def qbm_4_fin (A C : LL) (i : Int) : Told qbm_4_ω := (.leaf (qbm_o4_1 A C i) (.inr ()))
def qbm_4_sl (x : qbm_4_σ) : List Slot := [⟨.val false [⟨.slice 2, .sh, TC.l (x.1)⟩], ⟨0, 0⟩⟩, ⟨.val false [⟨.slice 2, .sh, TC.l (x.2.1)⟩], ⟨0, 0⟩⟩, ⟨.val false [⟨.int .i64, .sh, TC.i (x.2.2)⟩], ⟨0, 0⟩⟩]
def qbm_4_out : qbm_4_ω → Ex × List Slot := (Sum.elim (fun x => (.ret, [⟨.val false [⟨.bool, .sh, TC.b false⟩], ⟨0, 0⟩⟩])) (fun x => (.exit 0, [Slot.none])))
def qbm_lo4 : List Slot → Option (Told (Ex × List Slot)) := fun s => match s with
  | [⟨.val false [⟨.slice 2, .sh, TC.l A⟩], ⟨0, 0⟩⟩, ⟨.val false [⟨.slice 2, .sh, TC.l C⟩], ⟨0, 0⟩⟩, ⟨.val false [⟨.int .i64, .sh, TC.i i⟩], ⟨0, 0⟩⟩] => some (((qbm_4_fin A C i)).map qbm_4_out)
  | _ => .none
def qbm_lo : LoopTeller := fun r s => bif Nat.beq r 4 then qbm_lo4 s else .none
theorem qbm_4_r (A C : LL) (i : Int) (fuel : Nat) : rounds (rnd tab FT D61 live 39 qbm_lo 0 4) leave (fuel + 1) (qbm_4_sl (A, C, i)) = ((qbm_4_step A C i)).run (goOn (fun s => rounds (rnd tab FT D61 live 39 qbm_lo 0 4) leave fuel (qbm_4_sl s)) fun w => some (qbm_4_out w)) := by kernel_rfl
theorem qbm_4_h (A C : LL) (i : Int) (ow : qbm_4_ω) : ((qbm_4_fin A C i)).val = some ow → ∃ fuel, loopN qbm_4_st fuel (A, C, i) = some ow := by
  intro h
  refine auto_leaf (R := Sum.inr ()) (fun ho => ?_) h
  obtain ⟨rfl, ht, rfl⟩ := is_iff.1 ho
  have hlen : A.length ≤ 140737488351232 := by have := typed_room ht; simp only [show (tab 2).bytes = 8 from rfl] at this; omega
  refine ⟨_, loopN_run (N := A.length) (fun i => (A, A, (i : Int))) (fun i hi => ?_) ?_ A.length 0 (by omega)⟩
  · skip
    show (qbm_4_step A A (i : Int)).val = _
    unfold qbm_4_step
    refine Tr.t (by simp; omega) ?_
    refine Tr.t (by first | omega | (constructor <;> omega)) ?_
    refine Tr.t (by first | omega | (constructor <;> omega)) ?_
    refine Tr.n (by simp [qba_rv, qy_rv, qw_rv, qv_rv, qo_rv, qbc_rv, qp_rv, qe_rv, qbi_rv, qn_rv, qg_rv]) ?_
    rw [Tr.val_ok, wrap64 (i := (i : Int) + 1) (by omega) (by omega)]; rfl
  · show (qbm_4_step A A (A.length : Int)).val = _
    refine Tr.n (by simp) ?_
    rfl
theorem qbm_is4 : LoopIs tab FT D61 live 39 qbm_lo 0 4 := by
  refine loop_told (sl := qbm_4_sl) (step := qbm_4_st) (out := qbm_4_out) (lor := qbm_lo4) (fin := fun x => (qbm_4_fin (x.1) (x.2.1) (x.2.2))) (fun _ => rfl) ?_ (fun x n => qbm_4_r x.1 x.2.1 x.2.2 n) (fun x ow => qbm_4_h x.1 x.2.1 x.2.2 ow)
  intro s t h
  unfold qbm_lo4 at h
  split at h
  · cases h; exact ⟨(_, _, _), rfl, rfl⟩
  · cases h
def qbm_t (A C : LL) : Tr (Bool) := (.ite ((!((A.length : Int) == (C.length : Int))) = true) (.ok false)
  (.ite ((qbm_o4_1 A C (0 : Int)) = true) (.ok true)
   .no))
def qbm_mk (p : Bool) : Res := [(false, [⟨.bool, .sh, TC.b p⟩])]
def qbm_c (A C : LL) : Bool := is (A = C ∧ Typed tab (.slice 2) (.l A))
def qbm_v (A C : LL) : Bool := true
theorem qbm_l (A C : LL) : (qbm_c A C) = true → (qbm_t A C).val = some (qbm_v A C) := by
  intro h
  obtain ⟨rfl, ht⟩ := is_iff.1 h
  unfold qbm_t
  refine Tr.n (by simp) ?_
  refine Tr.t (is_true ⟨rfl, ht, rfl⟩) ?_
  rfl
def qbm_S : List Arg → Option (Bool × Res) := fun xs => match xs with
  | [(false, [(.slice 2, TC.l A)]), (false, [(.slice 2, TC.l C)])] => some ((qbm_c A C), qbm_mk (qbm_v A C))
  | _ => .none
theorem qbm_e (A C : LL) : runF tab FT D61 live 39 qbm_lo [(false, [(.slice 2, TC.l A)]), (false, [(.slice 2, TC.l C)])] = (qbm_t A C).run fun p => some (qbm_mk p) := by kernel_rfl
theorem qbm_s : ∀ xs r, qbm_S xs = some (true, r) → runF tab FT D61 live 39 qbm_lo xs = some r := by
  intro xs r h
  unfold qbm_S at h
  split at h
  · obtain ⟨h1, rfl⟩ := sp h
    exact fun_told (qbm_e ..) (qbm_l _ _) h1
  · cases h
def D62 : Dt := also D61 39 qbm_S
theorem d62 : DOk Go.Proofs.Try.prog tab D62 := d61.also mixed_ok tab_ok names_ok (fnLoops_one (by kernel_rfl) qbm_is4) qbm_s
section
class qbo_O where n : Nat
variable [i_laws_eqType : qbo_O]
def qbo_rc (x0 x1 : Int) (x2 x3 : Bool) (x4 x5 x6 x7 : LL) (x8 y0 y1 : Int) (y2 y3 : Bool) (y4 y5 y6 y7 : LL) (y8 : Int) : Bool := is (max (rowsDep x6) (rowsDep x7) < qbo_O.n ∧ x0 = y0 ∧ x1 = y1 ∧ x2 = y2 ∧ x3 = y3 ∧ x4 = y4 ∧ x5 = y5 ∧ x6 = y6 ∧ x7 = y7 ∧ x8 = y8 ∧ Typed tab (.slice 9) (.l x4) ∧ Typed tab (.slice 2) (.l x5) ∧ Typed tab (.slice 71) (.l x6) ∧ Typed tab (.slice 32) (.l x7))
def qbo_rv (x0 x1 : Int) (x2 x3 : Bool) (x4 x5 x6 x7 : LL) (x8 y0 y1 : Int) (y2 y3 : Bool) (y4 y5 y6 y7 : LL) (y8 : Int) : Bool := true
def qbo_rmk (p : Bool) : Res := [(false, [⟨.bool, .sh, TC.b p⟩])]
def qbo_rS : List Arg → Option (Bool × Res) := fun xs => match xs with
  | [(true, [(.int .i64, TC.i x0), (.int .i64, TC.i x1), (.bool, TC.b x2), (.bool, TC.b x3), (.slice 9, TC.l x4), (.slice 2, TC.l x5), (.slice 71, TC.l x6), (.slice 32, TC.l x7), (.int .i64, TC.i x8)]), (true, [(.int .i64, TC.i y0), (.int .i64, TC.i y1), (.bool, TC.b y2), (.bool, TC.b y3), (.slice 9, TC.l y4), (.slice 2, TC.l y5), (.slice 71, TC.l y6), (.slice 32, TC.l y7), (.int .i64, TC.i y8)])] => some ((qbo_rc x0 x1 x2 x3 x4 x5 x6 x7 x8 y0 y1 y2 y3 y4 y5 y6 y7 y8), qbo_rmk (qbo_rv x0 x1 x2 x3 x4 x5 x6 x7 x8 y0 y1 y2 y3 y4 y5 y6 y7 y8))
  | _ => .none
def D63 : Dt := also D62 13 qbo_rS
class qbo_G : Prop where ok : DOk Go.Proofs.Try.prog tab D63
variable [g_laws_eqType : qbo_G]
theorem d63 : DOk Go.Proofs.Try.prog tab D63 := qbo_G.ok
def qcg_t (x0 : BS) (x1 x2 x3 : Int) (x4 x5 : Bool) (x6 x7 x8 x9 : LL) (x10 : Int) (y0 : BS) (y1 y2 y3 : Int) (y4 y5 : Bool) (y6 y7 y8 y9 : LL) (y10 : Int) : Tr (Bool) := (.ite ((!(x0 == y0)) = true) (.ok false)
  (.ite ((!(x1 == y1)) = true) (.ok false)
   (.ite ((qbo_rc x2 x3 x4 x5 x6 x7 x8 x9 x10 y2 y3 y4 y5 y6 y7 y8 y9 y10) = true) (.ite ((!(qbo_rv x2 x3 x4 x5 x6 x7 x8 x9 x10 y2 y3 y4 y5 y6 y7 y8 y9 y10)) = true) (.ok false)
     (.ok true))
    .no)))
def qcg_mk (p : Bool) : Res := [(false, [⟨.bool, .sh, TC.b p⟩])]
def qcg_c (x0 : BS) (x1 x2 x3 : Int) (x4 x5 : Bool) (x6 x7 x8 x9 : LL) (x10 : Int) (y0 : BS) (y1 y2 y3 : Int) (y4 y5 : Bool) (y6 y7 y8 y9 : LL) (y10 : Int) : Bool := (bif (!(x0 == y0)) then true else (bif (!(x1 == y1)) then true else ((qbo_rc x2 x3 x4 x5 x6 x7 x8 x9 x10 y2 y3 y4 y5 y6 y7 y8 y9 y10) && (bif (!(qbo_rv x2 x3 x4 x5 x6 x7 x8 x9 x10 y2 y3 y4 y5 y6 y7 y8 y9 y10)) then true else true))))
def qcg_v (x0 : BS) (x1 x2 x3 : Int) (x4 x5 : Bool) (x6 x7 x8 x9 : LL) (x10 : Int) (y0 : BS) (y1 y2 y3 : Int) (y4 y5 : Bool) (y6 y7 y8 y9 : LL) (y10 : Int) : Bool := (bif (!(x0 == y0)) then false else (bif (!(x1 == y1)) then false else (bif (!(qbo_rv x2 x3 x4 x5 x6 x7 x8 x9 x10 y2 y3 y4 y5 y6 y7 y8 y9 y10)) then false else true)))
theorem qcg_l (x0 : BS) (x1 x2 x3 : Int) (x4 x5 : Bool) (x6 x7 x8 x9 : LL) (x10 : Int) (y0 : BS) (y1 y2 y3 : Int) (y4 y5 : Bool) (y6 y7 y8 y9 : LL) (y10 : Int) : (qcg_c x0 x1 x2 x3 x4 x5 x6 x7 x8 x9 x10 y0 y1 y2 y3 y4 y5 y6 y7 y8 y9 y10) = true → (qcg_t x0 x1 x2 x3 x4 x5 x6 x7 x8 x9 x10 y0 y1 y2 y3 y4 y5 y6 y7 y8 y9 y10).val = some (qcg_v x0 x1 x2 x3 x4 x5 x6 x7 x8 x9 x10 y0 y1 y2 y3 y4 y5 y6 y7 y8 y9 y10) := by
  unfold qcg_t qcg_v qcg_c
  exact fun h => (Tr.ss h (fun h => rfl) (fun h => (Tr.ss h (fun h => rfl) (fun h => (Tr.gb h fun h => (Tr.ss h (fun h => rfl) (fun h => rfl)))))))
def qcg_S : List Arg → Option (Bool × Res) := fun xs => match xs with
  | [(true, [(.str, TC.s x0), (.int .i64, TC.i x1), (.int .i64, TC.i x2), (.int .i64, TC.i x3), (.bool, TC.b x4), (.bool, TC.b x5), (.slice 9, TC.l x6), (.slice 2, TC.l x7), (.slice 71, TC.l x8), (.slice 32, TC.l x9), (.int .i64, TC.i x10)]), (true, [(.str, TC.s y0), (.int .i64, TC.i y1), (.int .i64, TC.i y2), (.int .i64, TC.i y3), (.bool, TC.b y4), (.bool, TC.b y5), (.slice 9, TC.l y6), (.slice 2, TC.l y7), (.slice 71, TC.l y8), (.slice 32, TC.l y9), (.int .i64, TC.i y10)])] => some ((qcg_c x0 x1 x2 x3 x4 x5 x6 x7 x8 x9 x10 y0 y1 y2 y3 y4 y5 y6 y7 y8 y9 y10), qcg_mk (qcg_v x0 x1 x2 x3 x4 x5 x6 x7 x8 x9 x10 y0 y1 y2 y3 y4 y5 y6 y7 y8 y9 y10))
  | _ => .none
theorem qcg_e (x0 : BS) (x1 x2 x3 : Int) (x4 x5 : Bool) (x6 x7 x8 x9 : LL) (x10 : Int) (y0 : BS) (y1 y2 y3 : Int) (y4 y5 : Bool) (y6 y7 y8 y9 : LL) (y10 : Int) : runF tab FT D63 live 76 noLoops [(true, [(.str, TC.s x0), (.int .i64, TC.i x1), (.int .i64, TC.i x2), (.int .i64, TC.i x3), (.bool, TC.b x4), (.bool, TC.b x5), (.slice 9, TC.l x6), (.slice 2, TC.l x7), (.slice 71, TC.l x8), (.slice 32, TC.l x9), (.int .i64, TC.i x10)]), (true, [(.str, TC.s y0), (.int .i64, TC.i y1), (.int .i64, TC.i y2), (.int .i64, TC.i y3), (.bool, TC.b y4), (.bool, TC.b y5), (.slice 9, TC.l y6), (.slice 2, TC.l y7), (.slice 71, TC.l y8), (.slice 32, TC.l y9), (.int .i64, TC.i y10)])] = (qcg_t x0 x1 x2 x3 x4 x5 x6 x7 x8 x9 x10 y0 y1 y2 y3 y4 y5 y6 y7 y8 y9 y10).run fun p => some (qcg_mk p) := by kernel_rfl
theorem qcg_s : ∀ xs r, qcg_S xs = some (true, r) → runF tab FT D63 live 76 noLoops xs = some r := by
  intro xs r h
  unfold qcg_S at h
  split at h
  · obtain ⟨h1, rfl⟩ := sp h
    exact fun_told (qcg_e ..) (qcg_l _ _ _ _ _ _ _ _ _ _ _ _ _ _ _ _ _ _ _ _ _ _) h1
  · cases h
def D64 : Dt := also D63 76 qcg_S
theorem d64 : DOk Go.Proofs.Try.prog tab D64 := d63.also mixed_ok tab_ok names_ok noLoops_ok qcg_s
theorem qcg_cc {x0 : BS} {x1 : Int} {x2 : Int} {x3 : Int} {x4 : Bool} {x5 : Bool} {x6 : LL} {x7 : LL} {x8 : LL} {x9 : LL} {x10 : Int} (h0 : (qbo_rc x2 x3 x4 x5 x6 x7 x8 x9 x10 x2 x3 x4 x5 x6 x7 x8 x9 x10) = true) : (qcg_c x0 x1 x2 x3 x4 x5 x6 x7 x8 x9 x10 x0 x1 x2 x3 x4 x5 x6 x7 x8 x9 x10) = true := by
  unfold qcg_c
  simp [h0, qbc_rv, qp_rv, qn_rv, qe_rv, qbi_rv, qg_rv, qw_rv, qba_rv, qv_rv, qy_rv, qo_rv, qbo_rv]
abbrev qbj_4_σ := LL × LL × Int
abbrev qbj_4_ω := (Unit) ⊕ (Unit)
def qbj_4_step (A C : LL) (i : Int) : Tr (qbj_4_σ ⊕ qbj_4_ω) := (.ite ((decide (i < (A.length : Int))) = true) (.ite ((0 : Int) ≤ i ∧ i < (A.length : Int)) (.ite ((0 : Int) ≤ i ∧ i < (C.length : Int)) (.ite ((qcg_c ((nth (row A i) 0).str) ((nth (row A i) 1).int) ((nth (row A i) 2).int) ((nth (row A i) 3).int) ((nth (row A i) 4).bool) ((nth (row A i) 5).bool) ((nth (row A i) 6).list) ((nth (row A i) 7).list) ((nth (row A i) 8).list) ((nth (row A i) 9).list) ((nth (row A i) 10).int) ((nth (row C i) 0).str) ((nth (row C i) 1).int) ((nth (row C i) 2).int) ((nth (row C i) 3).int) ((nth (row C i) 4).bool) ((nth (row C i) 5).bool) ((nth (row C i) 6).list) ((nth (row C i) 7).list) ((nth (row C i) 8).list) ((nth (row C i) 9).list) ((nth (row C i) 10).int)) = true) (.ite ((!(qcg_v ((nth (row A i) 0).str) ((nth (row A i) 1).int) ((nth (row A i) 2).int) ((nth (row A i) 3).int) ((nth (row A i) 4).bool) ((nth (row A i) 5).bool) ((nth (row A i) 6).list) ((nth (row A i) 7).list) ((nth (row A i) 8).list) ((nth (row A i) 9).list) ((nth (row A i) 10).int) ((nth (row C i) 0).str) ((nth (row C i) 1).int) ((nth (row C i) 2).int) ((nth (row C i) 3).int) ((nth (row C i) 4).bool) ((nth (row C i) 5).bool) ((nth (row C i) 6).list) ((nth (row C i) 7).list) ((nth (row C i) 8).list) ((nth (row C i) 9).list) ((nth (row C i) 10).int))) = true) (.ok (.inr (.inl ())))
      (.ok (.inl (A, C, (IntKind.wrap .i64 (i + (1 : Int)))))))
     .no)
    .no)
   .no)
  (.ok (.inr (.inr ()))))
def qbj_4_st : qbj_4_σ → Tr (qbj_4_σ ⊕ qbj_4_ω) := fun x => (qbj_4_step (x.1) (x.2.1) (x.2.2))
def qbj_o4_1 (A C : LL) (i : Int) : Bool := is (A = C ∧ Typed tab (.slice 71) (.l A) ∧ (∀ x : List TC, x ∈ A → (qcg_c ((nth x 0).str) ((nth x 1).int) ((nth x 2).int) ((nth x 3).int) ((nth x 4).bool) ((nth x 5).bool) ((nth x 6).list) ((nth x 7).list) ((nth x 8).list) ((nth x 9).list) ((nth x 10).int) ((nth x 0).str) ((nth x 1).int) ((nth x 2).int) ((nth x 3).int) ((nth x 4).bool) ((nth x 5).bool) ((nth x 6).list) ((nth x 7).list) ((nth x 8).list) ((nth x 9).list) ((nth x 10).int)) = true) ∧ i = 0)
def qbj_4_fin (A C : LL) (i : Int) : Told qbj_4_ω := (.leaf (qbj_o4_1 A C i) (.inr ()))
def qbj_4_sl (x : qbj_4_σ) : List Slot := [⟨.val false [⟨.slice 71, .sh, TC.l (x.1)⟩], ⟨0, 0⟩⟩, ⟨.val false [⟨.slice 71, .sh, TC.l (x.2.1)⟩], ⟨0, 0⟩⟩, ⟨.val false [⟨.int .i64, .sh, TC.i (x.2.2)⟩], ⟨0, 0⟩⟩]
def qbj_4_out : qbj_4_ω → Ex × List Slot := (Sum.elim (fun x => (.ret, [⟨.val false [⟨.bool, .sh, TC.b false⟩], ⟨0, 0⟩⟩])) (fun x => (.exit 0, [Slot.none])))
def qbj_lo4 : List Slot → Option (Told (Ex × List Slot)) := fun s => match s with
  | [⟨.val false [⟨.slice 71, .sh, TC.l A⟩], ⟨0, 0⟩⟩, ⟨.val false [⟨.slice 71, .sh, TC.l C⟩], ⟨0, 0⟩⟩, ⟨.val false [⟨.int .i64, .sh, TC.i i⟩], ⟨0, 0⟩⟩] => some (((qbj_4_fin A C i)).map qbj_4_out)
  | _ => .none
end
end
end
end
end
end
end
end
end
end
end
end
end
end Go.Proofs.Ytdcafhfnkblfkaa.V
