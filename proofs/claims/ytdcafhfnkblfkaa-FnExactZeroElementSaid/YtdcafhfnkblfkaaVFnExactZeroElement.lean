/- What the functions of FnExactZeroElement answer. No condition. -/
import Derived.Test.YtdcafhfnkblfkaaVFnExactZeroElementP4
namespace Go.Proofs.Ytdcafhfnkblfkaa.V
open Go
set_option maxRecDepth 100000
set_option linter.unusedVariables false
set_option linter.unusedSectionVars false
set_option linter.unusedSimpArgs false
set_option maxHeartbeats 2000000
noncomputable section
section
variable [i_laws_szType : qbc_O]
variable [g_laws_szType : qbc_G]
section
variable [i_laws_toType : qp_O]
variable [g_laws_toType : qp_G]
section
variable [i_spec_l02Size : qn_O]
variable [g_spec_l02Size : qn_G]
section
variable [i_spec_l02Depth : qe_O]
variable [g_spec_l02Depth : qe_G]
section
variable [i_spec_l02Ok : qbi_O]
variable [g_spec_l02Ok : qbi_G]
section
variable [i_spec_l03Zero : qg_O]
variable [g_spec_l03Zero : qg_G]
section
variable [i_impl_Type_size : qw_O]
variable [g_impl_Type_size : qw_G]
section
variable [i_impl_SameType : qba_O]
variable [g_impl_SameType : qba_G]
section
variable [i_impl_Type_valid : qv_O]
variable [g_impl_Type_valid : qv_G]
section
variable [i_impl_Type_bytes : qy_O]
variable [g_impl_Type_bytes : qy_G]
section
variable [i_impl_Type_zero : qo_O]
variable [g_impl_Type_zero : qo_G]
section
variable [i_laws_eqType : qbo_O]
variable [g_laws_eqType : qbo_G]
def qbj_lo : LoopTeller := fun r s => bif Nat.beq r 4 then qbj_lo4 s else .none
theorem qbj_4_r (A C : LL) (i : Int) (fuel : Nat) : rounds (rnd tab FT D64 live 40 qbj_lo 0 4) leave (fuel + 1) (qbj_4_sl (A, C, i)) = ((qbj_4_step A C i)).run (goOn (fun s => rounds (rnd tab FT D64 live 40 qbj_lo 0 4) leave fuel (qbj_4_sl s)) fun w => some (qbj_4_out w)) := by kernel_rfl
theorem qbj_4_h (A C : LL) (i : Int) (ow : qbj_4_ω) : ((qbj_4_fin A C i)).val = some ow → ∃ fuel, loopN qbj_4_st fuel (A, C, i) = some ow := by
  intro h
  refine auto_leaf (R := Sum.inr ()) (fun ho => ?_) h
  obtain ⟨rfl, ht, hr0, rfl⟩ := is_iff.1 ho
  have hlen : A.length ≤ 140737488351232 := by have := typed_room ht; simp only [show (tab 71).bytes = 152 from rfl] at this; omega
  refine ⟨_, loopN_run (N := A.length) (fun i => (A, A, (i : Int))) (fun i hi => ?_) ?_ A.length 0 (by omega)⟩
  · have c0 : Typed tab (.str) (.s (nth (A.getD i []) 0).str) := typed_s (typed_cell ht (A.getD i []) (mem_getD hi) 0 (by decide))
    have c6 : Typed tab (.slice 9) (.l (nth (A.getD i []) 6).list) := typed_list (typed_cell ht (A.getD i []) (mem_getD hi) 6 (by decide))
    have c7 : Typed tab (.slice 2) (.l (nth (A.getD i []) 7).list) := typed_list (typed_cell ht (A.getD i []) (mem_getD hi) 7 (by decide))
    have c8 : Typed tab (.slice 71) (.l (nth (A.getD i []) 8).list) := typed_list (typed_cell ht (A.getD i []) (mem_getD hi) 8 (by decide))
    have c9 : Typed tab (.slice 32) (.l (nth (A.getD i []) 9).list) := typed_list (typed_cell ht (A.getD i []) (mem_getD hi) 9 (by decide))
    show (qbj_4_step A A (i : Int)).val = _
    unfold qbj_4_step
    refine Tr.t (by simp; omega) ?_
    refine Tr.t (by first | omega | (constructor <;> omega)) ?_
    refine Tr.t (by first | omega | (constructor <;> omega)) ?_
    refine Tr.t (hr0 (A.getD i []) (mem_getD hi)) ?_
    refine Tr.n (by simp [qba_rv, qy_rv, qw_rv, qv_rv, qo_rv, qcg_v, qbo_rv, qbc_rv, qp_rv, qe_rv, qbi_rv, qn_rv, qg_rv]) ?_
    rw [Tr.val_ok, wrap64 (i := (i : Int) + 1) (by omega) (by omega)]; rfl
  · show (qbj_4_step A A (A.length : Int)).val = _
    refine Tr.n (by simp) ?_
    rfl
theorem qbj_is4 : LoopIs tab FT D64 live 40 qbj_lo 0 4 := by
  refine loop_told (sl := qbj_4_sl) (step := qbj_4_st) (out := qbj_4_out) (lor := qbj_lo4) (fin := fun x => (qbj_4_fin (x.1) (x.2.1) (x.2.2))) (fun _ => rfl) ?_ (fun x n => qbj_4_r x.1 x.2.1 x.2.2 n) (fun x ow => qbj_4_h x.1 x.2.1 x.2.2 ow)
  intro s t h
  unfold qbj_lo4 at h
  split at h
  · cases h; exact ⟨(_, _, _), rfl, rfl⟩
  · cases h
def qbj_t (A C : LL) : Tr (Bool) := (.ite ((!((A.length : Int) == (C.length : Int))) = true) (.ok false)
  (.ite ((qbj_o4_1 A C (0 : Int)) = true) (.ok true)
   .no))
def qbj_mk (p : Bool) : Res := [(false, [⟨.bool, .sh, TC.b p⟩])]
def qbj_c (A C : LL) : Bool := is (A = C ∧ Typed tab (.slice 71) (.l A) ∧ (∀ x : List TC, x ∈ A → (qcg_c ((nth x 0).str) ((nth x 1).int) ((nth x 2).int) ((nth x 3).int) ((nth x 4).bool) ((nth x 5).bool) ((nth x 6).list) ((nth x 7).list) ((nth x 8).list) ((nth x 9).list) ((nth x 10).int) ((nth x 0).str) ((nth x 1).int) ((nth x 2).int) ((nth x 3).int) ((nth x 4).bool) ((nth x 5).bool) ((nth x 6).list) ((nth x 7).list) ((nth x 8).list) ((nth x 9).list) ((nth x 10).int)) = true))
def qbj_v (A C : LL) : Bool := true
theorem qbj_l (A C : LL) : (qbj_c A C) = true → (qbj_t A C).val = some (qbj_v A C) := by
  intro h
  obtain ⟨rfl, ht, hr0⟩ := is_iff.1 h
  unfold qbj_t
  refine Tr.n (by simp) ?_
  refine Tr.t (is_true ⟨rfl, ht, hr0, rfl⟩) ?_
  rfl
def qbj_S : List Arg → Option (Bool × Res) := fun xs => match xs with
  | [(false, [(.slice 71, TC.l A)]), (false, [(.slice 71, TC.l C)])] => some ((qbj_c A C), qbj_mk (qbj_v A C))
  | _ => .none
theorem qbj_e (A C : LL) : runF tab FT D64 live 40 qbj_lo [(false, [(.slice 71, TC.l A)]), (false, [(.slice 71, TC.l C)])] = (qbj_t A C).run fun p => some (qbj_mk p) := by kernel_rfl
theorem qbj_s : ∀ xs r, qbj_S xs = some (true, r) → runF tab FT D64 live 40 qbj_lo xs = some r := by
  intro xs r h
  unfold qbj_S at h
  split at h
  · obtain ⟨h1, rfl⟩ := sp h
    exact fun_told (qbj_e ..) (qbj_l _ _) h1
  · cases h
def D65 : Dt := also D64 40 qbj_S
theorem d65 : DOk Go.Proofs.Try.prog tab D65 := d64.also mixed_ok tab_ok names_ok (fnLoops_one (by kernel_rfl) qbj_is4) qbj_s
abbrev qbq_4_σ := LL × LL × Int
abbrev qbq_4_ω := (Unit) ⊕ (Unit)
def qbq_4_step (A C : LL) (i : Int) : Tr (qbq_4_σ ⊕ qbq_4_ω) := (.ite ((decide (i < (A.length : Int))) = true) (.ite ((0 : Int) ≤ i ∧ i < (A.length : Int)) (.ite ((0 : Int) ≤ i ∧ i < (C.length : Int)) (.ite ((qbo_rc ((nth (row A i) 0).int) ((nth (row A i) 1).int) ((nth (row A i) 2).bool) ((nth (row A i) 3).bool) ((nth (row A i) 4).list) ((nth (row A i) 5).list) ((nth (row A i) 6).list) ((nth (row A i) 7).list) ((nth (row A i) 8).int) ((nth (row C i) 0).int) ((nth (row C i) 1).int) ((nth (row C i) 2).bool) ((nth (row C i) 3).bool) ((nth (row C i) 4).list) ((nth (row C i) 5).list) ((nth (row C i) 6).list) ((nth (row C i) 7).list) ((nth (row C i) 8).int)) = true) (.ite ((!(qbo_rv ((nth (row A i) 0).int) ((nth (row A i) 1).int) ((nth (row A i) 2).bool) ((nth (row A i) 3).bool) ((nth (row A i) 4).list) ((nth (row A i) 5).list) ((nth (row A i) 6).list) ((nth (row A i) 7).list) ((nth (row A i) 8).int) ((nth (row C i) 0).int) ((nth (row C i) 1).int) ((nth (row C i) 2).bool) ((nth (row C i) 3).bool) ((nth (row C i) 4).list) ((nth (row C i) 5).list) ((nth (row C i) 6).list) ((nth (row C i) 7).list) ((nth (row C i) 8).int))) = true) (.ok (.inr (.inl ())))
      (.ok (.inl (A, C, (IntKind.wrap .i64 (i + (1 : Int)))))))
     .no)
    .no)
   .no)
  (.ok (.inr (.inr ()))))
def qbq_4_st : qbq_4_σ → Tr (qbq_4_σ ⊕ qbq_4_ω) := fun x => (qbq_4_step (x.1) (x.2.1) (x.2.2))
def qbq_o4_1 (A C : LL) (i : Int) : Bool := is (A = C ∧ Typed tab (.slice 32) (.l A) ∧ (∀ x : List TC, x ∈ A → (qbo_rc ((nth x 0).int) ((nth x 1).int) ((nth x 2).bool) ((nth x 3).bool) ((nth x 4).list) ((nth x 5).list) ((nth x 6).list) ((nth x 7).list) ((nth x 8).int) ((nth x 0).int) ((nth x 1).int) ((nth x 2).bool) ((nth x 3).bool) ((nth x 4).list) ((nth x 5).list) ((nth x 6).list) ((nth x 7).list) ((nth x 8).int)) = true) ∧ i = 0)
def qbq_4_fin (A C : LL) (i : Int) : Told qbq_4_ω := (.leaf (qbq_o4_1 A C i) (.inr ()))
def qbq_4_sl (x : qbq_4_σ) : List Slot := [⟨.val false [⟨.slice 32, .sh, TC.l (x.1)⟩], ⟨0, 0⟩⟩, ⟨.val false [⟨.slice 32, .sh, TC.l (x.2.1)⟩], ⟨0, 0⟩⟩, ⟨.val false [⟨.int .i64, .sh, TC.i (x.2.2)⟩], ⟨0, 0⟩⟩]
def qbq_4_out : qbq_4_ω → Ex × List Slot := (Sum.elim (fun x => (.ret, [⟨.val false [⟨.bool, .sh, TC.b false⟩], ⟨0, 0⟩⟩])) (fun x => (.exit 0, [Slot.none])))
def qbq_lo4 : List Slot → Option (Told (Ex × List Slot)) := fun s => match s with
  | [⟨.val false [⟨.slice 32, .sh, TC.l A⟩], ⟨0, 0⟩⟩, ⟨.val false [⟨.slice 32, .sh, TC.l C⟩], ⟨0, 0⟩⟩, ⟨.val false [⟨.int .i64, .sh, TC.i i⟩], ⟨0, 0⟩⟩] => some (((qbq_4_fin A C i)).map qbq_4_out)
  | _ => .none
def qbq_lo : LoopTeller := fun r s => bif Nat.beq r 4 then qbq_lo4 s else .none
theorem qbq_4_r (A C : LL) (i : Int) (fuel : Nat) : rounds (rnd tab FT D65 live 41 qbq_lo 0 4) leave (fuel + 1) (qbq_4_sl (A, C, i)) = ((qbq_4_step A C i)).run (goOn (fun s => rounds (rnd tab FT D65 live 41 qbq_lo 0 4) leave fuel (qbq_4_sl s)) fun w => some (qbq_4_out w)) := by kernel_rfl
theorem qbq_4_h (A C : LL) (i : Int) (ow : qbq_4_ω) : ((qbq_4_fin A C i)).val = some ow → ∃ fuel, loopN qbq_4_st fuel (A, C, i) = some ow := by
  intro h
  refine auto_leaf (R := Sum.inr ()) (fun ho => ?_) h
  obtain ⟨rfl, ht, hr0, rfl⟩ := is_iff.1 ho
  have hlen : A.length ≤ 140737488351232 := by have := typed_room ht; simp only [show (tab 32).bytes = 128 from rfl] at this; omega
  refine ⟨_, loopN_run (N := A.length) (fun i => (A, A, (i : Int))) (fun i hi => ?_) ?_ A.length 0 (by omega)⟩
  · have c4 : Typed tab (.slice 9) (.l (nth (A.getD i []) 4).list) := typed_list (typed_cell ht (A.getD i []) (mem_getD hi) 4 (by decide))
    have c5 : Typed tab (.slice 2) (.l (nth (A.getD i []) 5).list) := typed_list (typed_cell ht (A.getD i []) (mem_getD hi) 5 (by decide))
    have c6 : Typed tab (.slice 71) (.l (nth (A.getD i []) 6).list) := typed_list (typed_cell ht (A.getD i []) (mem_getD hi) 6 (by decide))
    have c7 : Typed tab (.slice 32) (.l (nth (A.getD i []) 7).list) := typed_list (typed_cell ht (A.getD i []) (mem_getD hi) 7 (by decide))
    show (qbq_4_step A A (i : Int)).val = _
    unfold qbq_4_step
    refine Tr.t (by simp; omega) ?_
    refine Tr.t (by first | omega | (constructor <;> omega)) ?_
    refine Tr.t (by first | omega | (constructor <;> omega)) ?_
    refine Tr.t (hr0 (A.getD i []) (mem_getD hi)) ?_
    refine Tr.n (by simp [qba_rv, qy_rv, qw_rv, qv_rv, qo_rv, qbo_rv, qbc_rv, qp_rv, qe_rv, qbi_rv, qn_rv, qg_rv]) ?_
    rw [Tr.val_ok, wrap64 (i := (i : Int) + 1) (by omega) (by omega)]; rfl
  · show (qbq_4_step A A (A.length : Int)).val = _
    refine Tr.n (by simp) ?_
    rfl
theorem qbq_is4 : LoopIs tab FT D65 live 41 qbq_lo 0 4 := by
  refine loop_told (sl := qbq_4_sl) (step := qbq_4_st) (out := qbq_4_out) (lor := qbq_lo4) (fin := fun x => (qbq_4_fin (x.1) (x.2.1) (x.2.2))) (fun _ => rfl) ?_ (fun x n => qbq_4_r x.1 x.2.1 x.2.2 n) (fun x ow => qbq_4_h x.1 x.2.1 x.2.2 ow)
  intro s t h
  unfold qbq_lo4 at h
  split at h
  · cases h; exact ⟨(_, _, _), rfl, rfl⟩
  · cases h
def qbq_t (A C : LL) : Tr (Bool) := (.ite ((!((A.length : Int) == (C.length : Int))) = true) (.ok false)
  (.ite ((qbq_o4_1 A C (0 : Int)) = true) (.ok true)
   .no))
def qbq_mk (p : Bool) : Res := [(false, [⟨.bool, .sh, TC.b p⟩])]
def qbq_c (A C : LL) : Bool := is (A = C ∧ Typed tab (.slice 32) (.l A) ∧ (∀ x : List TC, x ∈ A → (qbo_rc ((nth x 0).int) ((nth x 1).int) ((nth x 2).bool) ((nth x 3).bool) ((nth x 4).list) ((nth x 5).list) ((nth x 6).list) ((nth x 7).list) ((nth x 8).int) ((nth x 0).int) ((nth x 1).int) ((nth x 2).bool) ((nth x 3).bool) ((nth x 4).list) ((nth x 5).list) ((nth x 6).list) ((nth x 7).list) ((nth x 8).int)) = true))
def qbq_v (A C : LL) : Bool := true
theorem qbq_l (A C : LL) : (qbq_c A C) = true → (qbq_t A C).val = some (qbq_v A C) := by
  intro h
  obtain ⟨rfl, ht, hr0⟩ := is_iff.1 h
  unfold qbq_t
  refine Tr.n (by simp) ?_
  refine Tr.t (is_true ⟨rfl, ht, hr0, rfl⟩) ?_
  rfl
def qbq_S : List Arg → Option (Bool × Res) := fun xs => match xs with
  | [(false, [(.slice 32, TC.l A)]), (false, [(.slice 32, TC.l C)])] => some ((qbq_c A C), qbq_mk (qbq_v A C))
  | _ => .none
theorem qbq_e (A C : LL) : runF tab FT D65 live 41 qbq_lo [(false, [(.slice 32, TC.l A)]), (false, [(.slice 32, TC.l C)])] = (qbq_t A C).run fun p => some (qbq_mk p) := by kernel_rfl
theorem qbq_s : ∀ xs r, qbq_S xs = some (true, r) → runF tab FT D65 live 41 qbq_lo xs = some r := by
  intro xs r h
  unfold qbq_S at h
  split at h
  · obtain ⟨h1, rfl⟩ := sp h
    exact fun_told (qbq_e ..) (qbq_l _ _) h1
  · cases h
def D66 : Dt := also D65 41 qbq_S
theorem d66 : DOk Go.Proofs.Try.prog tab D66 := d65.also mixed_ok tab_ok names_ok (fnLoops_one (by kernel_rfl) qbq_is4) qbq_s
def qbo_t (x0 x1 : Int) (x2 x3 : Bool) (x4 x5 x6 x7 : LL) (x8 y0 y1 : Int) (y2 y3 : Bool) (y4 y5 y6 y7 : LL) (y8 : Int) : Tr (Bool) := (.ite ((!(x0 == y0)) = true) (.ok false)
  (.ite ((!(x1 == y1)) = true) (.ok false)
   (.ite ((!(x2 == y2)) = true) (.ok false)
    (.ite ((!(x3 == y3)) = true) (.ok false)
     (.ite ((qbk_c x4 y4) = true) (.ite ((!(qbk_v x4 y4)) = true) (.ok false)
       (.ite ((qbm_c x5 y5) = true) (.ite ((!(qbm_v x5 y5)) = true) (.ok false)
         (.ite ((qbj_c x6 y6) = true) (.ite ((!(qbj_v x6 y6)) = true) (.ok false)
           (.ite ((qbq_c x7 y7) = true) (.ite ((!(qbq_v x7 y7)) = true) (.ok false)
             (.ite ((!(x8 == y8)) = true) (.ok false)
              (.ok true)))
            .no))
          .no))
        .no))
      .no)))))
def qbo_mk (p : Bool) : Res := [(false, [⟨.bool, .sh, TC.b p⟩])]
def qbo_c (x0 x1 : Int) (x2 x3 : Bool) (x4 x5 x6 x7 : LL) (x8 y0 y1 : Int) (y2 y3 : Bool) (y4 y5 y6 y7 : LL) (y8 : Int) : Bool := (bif (!(x0 == y0)) then true else (bif (!(x1 == y1)) then true else (bif (!(x2 == y2)) then true else (bif (!(x3 == y3)) then true else ((qbk_c x4 y4) && (bif (!(qbk_v x4 y4)) then true else ((qbm_c x5 y5) && (bif (!(qbm_v x5 y5)) then true else ((qbj_c x6 y6) && (bif (!(qbj_v x6 y6)) then true else ((qbq_c x7 y7) && (bif (!(qbq_v x7 y7)) then true else (bif (!(x8 == y8)) then true else true)))))))))))))
def qbo_v (x0 x1 : Int) (x2 x3 : Bool) (x4 x5 x6 x7 : LL) (x8 y0 y1 : Int) (y2 y3 : Bool) (y4 y5 y6 y7 : LL) (y8 : Int) : Bool := (bif (!(x0 == y0)) then false else (bif (!(x1 == y1)) then false else (bif (!(x2 == y2)) then false else (bif (!(x3 == y3)) then false else (bif (!(qbk_v x4 y4)) then false else (bif (!(qbm_v x5 y5)) then false else (bif (!(qbj_v x6 y6)) then false else (bif (!(qbq_v x7 y7)) then false else (bif (!(x8 == y8)) then false else true)))))))))
theorem qbo_l (x0 x1 : Int) (x2 x3 : Bool) (x4 x5 x6 x7 : LL) (x8 y0 y1 : Int) (y2 y3 : Bool) (y4 y5 y6 y7 : LL) (y8 : Int) : (qbo_c x0 x1 x2 x3 x4 x5 x6 x7 x8 y0 y1 y2 y3 y4 y5 y6 y7 y8) = true → (qbo_t x0 x1 x2 x3 x4 x5 x6 x7 x8 y0 y1 y2 y3 y4 y5 y6 y7 y8).val = some (qbo_v x0 x1 x2 x3 x4 x5 x6 x7 x8 y0 y1 y2 y3 y4 y5 y6 y7 y8) := by
  unfold qbo_t qbo_v qbo_c
  intro h
  repeat' first | refine Tr.gb h fun h => ?_ | refine Tr.gs h fun h => ?_ | refine Tr.ss h (fun h => ?_) fun h => ?_ | exact rfl
theorem qbo_e (x0 x1 : Int) (x2 x3 : Bool) (x4 x5 x6 x7 : LL) (x8 y0 y1 : Int) (y2 y3 : Bool) (y4 y5 y6 y7 : LL) (y8 : Int) : runF tab FT D66 live 13 noLoops [(true, [(.int .i64, TC.i x0), (.int .i64, TC.i x1), (.bool, TC.b x2), (.bool, TC.b x3), (.slice 9, TC.l x4), (.slice 2, TC.l x5), (.slice 71, TC.l x6), (.slice 32, TC.l x7), (.int .i64, TC.i x8)]), (true, [(.int .i64, TC.i y0), (.int .i64, TC.i y1), (.bool, TC.b y2), (.bool, TC.b y3), (.slice 9, TC.l y4), (.slice 2, TC.l y5), (.slice 71, TC.l y6), (.slice 32, TC.l y7), (.int .i64, TC.i y8)])] = (qbo_t x0 x1 x2 x3 x4 x5 x6 x7 x8 y0 y1 y2 y3 y4 y5 y6 y7 y8).run fun p => some (qbo_mk p) := by kernel_rfl
theorem qbo_nx (x0 x1 : Int) (x2 x3 : Bool) (x4 x5 x6 x7 : LL) (x8 y0 y1 : Int) (y2 y3 : Bool) (y4 y5 y6 y7 : LL) (y8 : Int) : is (max (rowsDep x6) (rowsDep x7) < qbo_O.n + 1 ∧ x0 = y0 ∧ x1 = y1 ∧ x2 = y2 ∧ x3 = y3 ∧ x4 = y4 ∧ x5 = y5 ∧ x6 = y6 ∧ x7 = y7 ∧ x8 = y8 ∧ Typed tab (.slice 9) (.l x4) ∧ Typed tab (.slice 2) (.l x5) ∧ Typed tab (.slice 71) (.l x6) ∧ Typed tab (.slice 32) (.l x7)) = true → (qbo_c x0 x1 x2 x3 x4 x5 x6 x7 x8 y0 y1 y2 y3 y4 y5 y6 y7 y8) = true ∧ (qbo_v x0 x1 x2 x3 x4 x5 x6 x7 x8 y0 y1 y2 y3 y4 y5 y6 y7 y8) = true := by
  intro h
  obtain ⟨hM, rfl, rfl, rfl, rfl, rfl, rfl, rfl, rfl, rfl, t4, t5, t6, t7⟩ := is_iff.1 h
  have c4 : qbk_c x4 x4 = true := is_true ⟨rfl, t4⟩
  have c5 : qbm_c x5 x5 = true := is_true ⟨rfl, t5⟩
  have c6 : qbj_c x6 x6 = true := is_true ⟨rfl, t6, fun x hx => qcg_cc (is_true ⟨by have a := dep_cell hx 8; have b := dep_cell hx 9; omega, rfl, rfl, rfl, rfl, rfl, rfl, rfl, rfl, rfl, typed_list ((typed_elem t6 hx).2 6 (by decide)), typed_list ((typed_elem t6 hx).2 7 (by decide)), typed_list ((typed_elem t6 hx).2 8 (by decide)), typed_list ((typed_elem t6 hx).2 9 (by decide))⟩)⟩
  have c7 : qbq_c x7 x7 = true := is_true ⟨rfl, t7, fun x hx => is_true ⟨by have a := dep_cell hx 6; have b := dep_cell hx 7; omega, rfl, rfl, rfl, rfl, rfl, rfl, rfl, rfl, rfl, typed_list ((typed_elem t7 hx).2 4 (by decide)), typed_list ((typed_elem t7 hx).2 5 (by decide)), typed_list ((typed_elem t7 hx).2 6 (by decide)), typed_list ((typed_elem t7 hx).2 7 (by decide))⟩⟩
  constructor
  · unfold qbo_c
    simp only [c4, c5, c6, c7, qbk_v, qbm_v, qbj_v, qbq_v, beq_self_eq_true, Bool.not_true, cond_false, Bool.and_self]
  · unfold qbo_v
    simp only [qbk_v, qbm_v, qbj_v, qbq_v, beq_self_eq_true, Bool.not_true, cond_false]
theorem qbo_nxr (x0 x1 : Int) (x2 x3 : Bool) (x4 x5 x6 x7 : LL) (x8 y0 y1 : Int) (y2 y3 : Bool) (y4 y5 y6 y7 : LL) (y8 : Int) : qbo_rc (i_laws_eqType := ⟨qbo_O.n + 1⟩) x0 x1 x2 x3 x4 x5 x6 x7 x8 y0 y1 y2 y3 y4 y5 y6 y7 y8 = true → (qbo_c x0 x1 x2 x3 x4 x5 x6 x7 x8 y0 y1 y2 y3 y4 y5 y6 y7 y8) = true ∧ (qbo_v x0 x1 x2 x3 x4 x5 x6 x7 x8 y0 y1 y2 y3 y4 y5 y6 y7 y8) = (qbo_rv x0 x1 x2 x3 x4 x5 x6 x7 x8 y0 y1 y2 y3 y4 y5 y6 y7 y8) := fun h => qbo_nx x0 x1 x2 x3 x4 x5 x6 x7 x8 y0 y1 y2 y3 y4 y5 y6 y7 y8 h
theorem qbo_rs : ∀ xs r, qbo_rS (i_laws_eqType := ⟨qbo_O.n + 1⟩) xs = some (true, r) → runF tab FT D66 live 13 noLoops xs = some r := by
  intro xs r h
  unfold qbo_rS at h
  split at h
  · obtain ⟨h1, rfl⟩ := sp h
    have hx := qbo_nxr _ _ _ _ _ _ _ _ _ _ _ _ _ _ _ _ _ _ h1
    have ht := fun_told (qbo_e ..) (qbo_l _ _ _ _ _ _ _ _ _ _ _ _ _ _ _ _ _ _) hx.1
    rw [hx.2] at ht
    exact ht
  · cases h
theorem qbo_step : qbo_G (i_laws_eqType := ⟨qbo_O.n + 1⟩) := by
  have h := DOk.also2 (S := qbo_rS (i_laws_eqType := ⟨qbo_O.n + 1⟩)) mixed_ok tab_ok names_ok d62 d66 noLoops_ok qbo_rs
  refine qbo_G.mk (i_laws_eqType := ⟨qbo_O.n + 1⟩) ?_
  exact h
def laws_FnExactZeroElement_t (x0 x1 : Int) (x2 x3 : Bool) (x4 x5 x6 x7 : LL) (x8 : Int) : Tr Bool := (.ite ((qbc_rc x0 x1 x2 x3 x4 x5 x6 x7 x8 (1048576 : Int)) = true) (.ite ((decide ((qbc_rv x0 x1 x2 x3 x4 x5 x6 x7 x8 (1048576 : Int)) < (0 : Int))) = true) (.ok true)
   (.ite ((qp_rc x0 x1 x2 x3 x4 x5 x6 x7 x8) = true) (.ite ((qbv_c ((qp_rv x0 x1 x2 x3 x4 x5 x6 x7 x8).1) ((qp_rv x0 x1 x2 x3 x4 x5 x6 x7 x8).2.1) ((qp_rv x0 x1 x2 x3 x4 x5 x6 x7 x8).2.2.1) ((qp_rv x0 x1 x2 x3 x4 x5 x6 x7 x8).2.2.2.1) ((qp_rv x0 x1 x2 x3 x4 x5 x6 x7 x8).2.2.2.2.1) ((qp_rv x0 x1 x2 x3 x4 x5 x6 x7 x8).2.2.2.2.2.1) ((qp_rv x0 x1 x2 x3 x4 x5 x6 x7 x8).2.2.2.2.2.2.1) ((qp_rv x0 x1 x2 x3 x4 x5 x6 x7 x8).2.2.2.2.2.2.2.1) ((qp_rv x0 x1 x2 x3 x4 x5 x6 x7 x8).2.2.2.2.2.2.2.2)) = true) (.ite ((qp_rc x0 x1 x2 x3 x4 x5 x6 x7 x8) = true) (.ite ((qby_c ((qp_rv x0 x1 x2 x3 x4 x5 x6 x7 x8).1) ((qp_rv x0 x1 x2 x3 x4 x5 x6 x7 x8).2.1) ((qp_rv x0 x1 x2 x3 x4 x5 x6 x7 x8).2.2.1) ((qp_rv x0 x1 x2 x3 x4 x5 x6 x7 x8).2.2.2.1) ((qp_rv x0 x1 x2 x3 x4 x5 x6 x7 x8).2.2.2.2.1) ((qp_rv x0 x1 x2 x3 x4 x5 x6 x7 x8).2.2.2.2.2.1) ((qp_rv x0 x1 x2 x3 x4 x5 x6 x7 x8).2.2.2.2.2.2.1) ((qp_rv x0 x1 x2 x3 x4 x5 x6 x7 x8).2.2.2.2.2.2.2.1) ((qp_rv x0 x1 x2 x3 x4 x5 x6 x7 x8).2.2.2.2.2.2.2.2)) = true) (.ite ((!((qby_v ((qp_rv x0 x1 x2 x3 x4 x5 x6 x7 x8).1) ((qp_rv x0 x1 x2 x3 x4 x5 x6 x7 x8).2.1) ((qp_rv x0 x1 x2 x3 x4 x5 x6 x7 x8).2.2.1) ((qp_rv x0 x1 x2 x3 x4 x5 x6 x7 x8).2.2.2.1) ((qp_rv x0 x1 x2 x3 x4 x5 x6 x7 x8).2.2.2.2.1) ((qp_rv x0 x1 x2 x3 x4 x5 x6 x7 x8).2.2.2.2.2.1) ((qp_rv x0 x1 x2 x3 x4 x5 x6 x7 x8).2.2.2.2.2.2.1) ((qp_rv x0 x1 x2 x3 x4 x5 x6 x7 x8).2.2.2.2.2.2.2.1) ((qp_rv x0 x1 x2 x3 x4 x5 x6 x7 x8).2.2.2.2.2.2.2.2)) == (qbv_v ((qp_rv x0 x1 x2 x3 x4 x5 x6 x7 x8).1) ((qp_rv x0 x1 x2 x3 x4 x5 x6 x7 x8).2.1) ((qp_rv x0 x1 x2 x3 x4 x5 x6 x7 x8).2.2.1) ((qp_rv x0 x1 x2 x3 x4 x5 x6 x7 x8).2.2.2.1) ((qp_rv x0 x1 x2 x3 x4 x5 x6 x7 x8).2.2.2.2.1) ((qp_rv x0 x1 x2 x3 x4 x5 x6 x7 x8).2.2.2.2.2.1) ((qp_rv x0 x1 x2 x3 x4 x5 x6 x7 x8).2.2.2.2.2.2.1) ((qp_rv x0 x1 x2 x3 x4 x5 x6 x7 x8).2.2.2.2.2.2.2.1) ((qp_rv x0 x1 x2 x3 x4 x5 x6 x7 x8).2.2.2.2.2.2.2.2)))) = true) (.ok false)
        (.ite ((qp_rc x0 x1 x2 x3 x4 x5 x6 x7 x8) = true) (.ite ((qbo_rc ((qp_rv x0 x1 x2 x3 x4 x5 x6 x7 x8).1) ((qp_rv x0 x1 x2 x3 x4 x5 x6 x7 x8).2.1) ((qp_rv x0 x1 x2 x3 x4 x5 x6 x7 x8).2.2.1) ((qp_rv x0 x1 x2 x3 x4 x5 x6 x7 x8).2.2.2.1) ((qp_rv x0 x1 x2 x3 x4 x5 x6 x7 x8).2.2.2.2.1) ((qp_rv x0 x1 x2 x3 x4 x5 x6 x7 x8).2.2.2.2.2.1) ((qp_rv x0 x1 x2 x3 x4 x5 x6 x7 x8).2.2.2.2.2.2.1) ((qp_rv x0 x1 x2 x3 x4 x5 x6 x7 x8).2.2.2.2.2.2.2.1) ((qp_rv x0 x1 x2 x3 x4 x5 x6 x7 x8).2.2.2.2.2.2.2.2) ((qp_rv x0 x1 x2 x3 x4 x5 x6 x7 x8).1) ((qp_rv x0 x1 x2 x3 x4 x5 x6 x7 x8).2.1) ((qp_rv x0 x1 x2 x3 x4 x5 x6 x7 x8).2.2.1) ((qp_rv x0 x1 x2 x3 x4 x5 x6 x7 x8).2.2.2.1) ((qp_rv x0 x1 x2 x3 x4 x5 x6 x7 x8).2.2.2.2.1) ((qp_rv x0 x1 x2 x3 x4 x5 x6 x7 x8).2.2.2.2.2.1) ((qp_rv x0 x1 x2 x3 x4 x5 x6 x7 x8).2.2.2.2.2.2.1) ((qp_rv x0 x1 x2 x3 x4 x5 x6 x7 x8).2.2.2.2.2.2.2.1) ((qp_rv x0 x1 x2 x3 x4 x5 x6 x7 x8).2.2.2.2.2.2.2.2)) = true) (.ite ((!(qbo_rv ((qp_rv x0 x1 x2 x3 x4 x5 x6 x7 x8).1) ((qp_rv x0 x1 x2 x3 x4 x5 x6 x7 x8).2.1) ((qp_rv x0 x1 x2 x3 x4 x5 x6 x7 x8).2.2.1) ((qp_rv x0 x1 x2 x3 x4 x5 x6 x7 x8).2.2.2.1) ((qp_rv x0 x1 x2 x3 x4 x5 x6 x7 x8).2.2.2.2.1) ((qp_rv x0 x1 x2 x3 x4 x5 x6 x7 x8).2.2.2.2.2.1) ((qp_rv x0 x1 x2 x3 x4 x5 x6 x7 x8).2.2.2.2.2.2.1) ((qp_rv x0 x1 x2 x3 x4 x5 x6 x7 x8).2.2.2.2.2.2.2.1) ((qp_rv x0 x1 x2 x3 x4 x5 x6 x7 x8).2.2.2.2.2.2.2.2) ((qp_rv x0 x1 x2 x3 x4 x5 x6 x7 x8).1) ((qp_rv x0 x1 x2 x3 x4 x5 x6 x7 x8).2.1) ((qp_rv x0 x1 x2 x3 x4 x5 x6 x7 x8).2.2.1) ((qp_rv x0 x1 x2 x3 x4 x5 x6 x7 x8).2.2.2.1) ((qp_rv x0 x1 x2 x3 x4 x5 x6 x7 x8).2.2.2.2.1) ((qp_rv x0 x1 x2 x3 x4 x5 x6 x7 x8).2.2.2.2.2.1) ((qp_rv x0 x1 x2 x3 x4 x5 x6 x7 x8).2.2.2.2.2.2.1) ((qp_rv x0 x1 x2 x3 x4 x5 x6 x7 x8).2.2.2.2.2.2.2.1) ((qp_rv x0 x1 x2 x3 x4 x5 x6 x7 x8).2.2.2.2.2.2.2.2))) = true) (.ok false)
           (.ok true))
          .no)
         .no))
       .no)
      .no)
     .no)
    .no))
  .no)
theorem laws_FnExactZeroElement_e (x0 x1 : Int) (x2 x3 : Bool) (x4 x5 x6 x7 : LL) (x8 : Int) : runF tab FT D66 live 8 noLoops [(true, [(.int .i64, TC.i x0), (.int .i64, TC.i x1), (.bool, TC.b x2), (.bool, TC.b x3), (.slice 9, TC.l x4), (.slice 2, TC.l x5), (.slice 67, TC.l x6), (.slice 27, TC.l x7), (.int .i64, TC.i x8)])] = (laws_FnExactZeroElement_t x0 x1 x2 x3 x4 x5 x6 x7 x8).run fun p => some [(false, [⟨.bool, .sh, .b p⟩])] := by kernel_rfl
theorem tyArgsType {A B C E : LL} (a4 : Typed tab (.slice 9) (.l A)) (a5 : Typed tab (.slice 2) (.l B)) (a6 : Typed tab (.slice 67) (.l C)) (a7 : Typed tab (.slice 27) (.l E)) : Typed tab (.slice 9) (.l A) ∧ Typed tab (.slice 2) (.l B) ∧ Typed tab (.slice 71) (.l C) ∧ Typed tab (.slice 32) (.l E) :=
  ⟨typed_iso iso_ok a4 (by decide), typed_iso iso_ok a5 (by decide), typed_iso iso_ok a6 (by decide), typed_iso iso_ok a7 (by decide)⟩
theorem eqType_rv {x0 : Int} {x1 : Int} {x2 : Bool} {x3 : Bool} {x4 : LL} {x5 : LL} {x6 : LL} {x7 : LL} {x8 : Int} {y0 : Int} {y1 : Int} {y2 : Bool} {y3 : Bool} {y4 : LL} {y5 : LL} {y6 : LL} {y7 : LL} {y8 : Int} : ¬(!(qbo_rv x0 x1 x2 x3 x4 x5 x6 x7 x8 y0 y1 y2 y3 y4 y5 y6 y7 y8)) = true := by
  show ¬(!true) = true
  decide
theorem laws_FnExactZeroElement_p (x0 x1 : Int) (x2 x3 : Bool) (x4 x5 x6 x7 : LL) (x8 : Int) (h0 : Typed tab (.int .i64) (.i x0)) (h1 : Typed tab (.int .i64) (.i x1)) (h2 : Typed tab (.bool) (.b x2)) (h3 : Typed tab (.bool) (.b x3)) (h4 : Typed tab (.slice 9) (.l x4)) (h5 : Typed tab (.slice 2) (.l x5)) (h6 : Typed tab (.slice 67) (.l x6)) (h7 : Typed tab (.slice 27) (.l x7)) (h8 : Typed tab (.int .i64) (.i x8)) (NN : Nat) (eN : NN = rowsDep x4 + rowsDep x5 + rowsDep x6 + rowsDep x7 + 1) (r_laws_szType : ∀ (x0 x1 : Int) (x2 x3 : Bool) (x4 x5 x6 x7 : LL) (x8 x9 : Int), max (rowsDep x6) (rowsDep x7) < NN ∧ Typed tab (.slice 9) (.l x4) ∧ Typed tab (.slice 2) (.l x5) ∧ Typed tab (.slice 67) (.l x6) ∧ Typed tab (.slice 27) (.l x7) → (qbc_rc x0 x1 x2 x3 x4 x5 x6 x7 x8 x9) = true) (n_laws_toType : NN ≤ qp_O.n) (n_spec_l02Size : NN ≤ qn_O.n) (n_spec_l02Depth : NN ≤ qe_O.n) (n_spec_l02Ok : NN ≤ qbi_O.n) (n_spec_l03Zero : NN ≤ qg_O.n) (n_impl_Type_size : NN ≤ qw_O.n) (n_impl_SameType : NN ≤ qba_O.n) (n_impl_Type_valid : NN ≤ qv_O.n) (n_impl_Type_bytes : NN ≤ qy_O.n) (n_impl_Type_zero : NN ≤ qo_O.n) (n_laws_eqType : NN ≤ qbo_O.n) : (laws_FnExactZeroElement_t x0 x1 x2 x3 x4 x5 x6 x7 x8).val = some true := by
  have t4_9 := qbd_ty h4
  have t5_2 := qbg_ty h5
  have t6_71 := qbe_ty h6
  have t7_32 := qbl_ty h7
  obtain ⟨i4, i5, i6, i7⟩ := tyArgsType h4 h5 h6 h7
  have szc0 : okV x0 x1 x2 x3 x4 x5 x6 x7 x8 = true → qn_rc x0 x1 x2 x3 x4 x5 x6 x7 x8 = true := fun h => is_true ⟨by omega, okV_size h⟩
  have dpc0 : okV x0 x1 x2 x3 x4 x5 x6 x7 x8 = true → qe_rc x0 x1 x2 x3 x4 x5 x6 x7 x8 = true := fun h => is_true ⟨by omega, okV_depth h, i6, i7⟩
  have okc0 : qbi_rc x0 x1 x2 x3 x4 x5 x6 x7 x8 = true := is_true ⟨by omega, by omega, by omega, i4, i5, i6, i7⟩
  have zec0 : okV x0 x1 x2 x3 x4 x5 x6 x7 x8 = true → qg_rc x0 x1 x2 x3 x4 x5 x6 x7 x8 = true := fun h => is_true ⟨by omega, h⟩
  have isc0 : okV x0 x1 x2 x3 x4 x5 x6 x7 x8 = true → qw_rc x0 x1 x2 x3 x4 x5 x6 x7 x8 = true := fun h => is_true ⟨by omega, (okV_isize h).2⟩
  have vac0 : qv_rc x0 x1 x2 x3 x4 x5 x6 x7 x8 3 = true := is_true ⟨by omega, by omega, by omega, by omega, i4, i5, i6, i7⟩
  have byc0 : ∀ n, okV x0 x1 x2 x3 x4 x5 x6 x7 x8 = true → numK x0 = true → qy_rc x0 x1 x2 x3 x4 x5 x6 x7 x8 n = true := fun n h hn => is_true ⟨by omega, okV_numC h hn⟩
  have izc0 : okV x0 x1 x2 x3 x4 x5 x6 x7 x8 = true → qo_rc x0 x1 x2 x3 x4 x5 x6 x7 x8 = true := fun h => is_true ⟨by omega, by omega, by omega, h⟩
  unfold laws_FnExactZeroElement_t
  simp only [show qp_rv x0 x1 x2 x3 x4 x5 x6 x7 x8 = (x0, x1, x2, x3, x4, x5, x6, x7, x8) from rfl]
  refine Tr.t (by first | (exact r_laws_szType _ _ _ _ _ _ _ _ _ _ ⟨by omega, h4, h5, h6, h7⟩)) ?_
  refine Tr.y ?_
  refine Tr.t (by first | (exact is_true ⟨by omega, h4, h5, h6, h7⟩)) ?_
  refine Tr.t (by first | (exact qbv_cc okc0 zec0)) ?_
  refine Tr.t (by first | (exact is_true ⟨by omega, h4, h5, h6, h7⟩)) ?_
  refine Tr.t (by first | (exact qby_cc vac0 izc0)) ?_
  refine Tr.n (by first | (exact eqType_rv) | (rw [qbv_vv, qby_vv]; simp)) ?_
  refine Tr.t (by first | (exact is_true ⟨by omega, h4, h5, h6, h7⟩)) ?_
  refine Tr.t (by first | (exact is_true ⟨by omega, rfl, rfl, rfl, rfl, rfl, rfl, rfl, rfl, rfl, i4, i5, i6, i7⟩)) ?_
  refine Tr.n (by first | (exact eqType_rv) | (rw [qbv_vv, qby_vv]; simp)) ?_
  rfl
end
theorem qbo_none : ∀ xs r, qbo_rS (i_laws_eqType := ⟨0⟩) xs ≠ some (true, r) := by
  intro xs r h
  unfold qbo_rS at h
  split at h
  · simp only [Option.some.injEq, Prod.mk.injEq] at h
    have h1 := is_iff.1 h.1
    exact absurd h1.1 (Nat.not_lt_zero _)
  · cases h
theorem qbo_good : ∀ n : Nat, qbo_G (i_laws_eqType := ⟨n⟩) := by
  intro n
  induction n with
  | zero => exact qbo_G.mk (i_laws_eqType := ⟨0⟩) (DOk.also0 d62 qbo_none)
  | succ n ih => exact qbo_step (i_laws_eqType := ⟨n⟩) (g_laws_eqType := ih)
end
theorem qo_none : ∀ xs r, qo_rS (i_impl_Type_zero := ⟨0⟩) xs ≠ some (true, r) := by
  intro xs r h
  unfold qo_rS at h
  split at h
  · simp only [Option.some.injEq, Prod.mk.injEq] at h
    have h1 := is_iff.1 h.1
    exact absurd h1.1 (Nat.not_lt_zero _)
  · cases h
theorem qo_good : ∀ n : Nat, qo_G (i_impl_Type_zero := ⟨n⟩) := by
  intro n
  induction n with
  | zero => exact qo_G.mk (i_impl_Type_zero := ⟨0⟩) (DOk.also0 d56 qo_none)
  | succ n ih => exact qo_step (i_impl_Type_zero := ⟨n⟩) (g_impl_Type_zero := ih)
end
theorem qy_none : ∀ xs r, qy_rS (i_impl_Type_bytes := ⟨0⟩) xs ≠ some (true, r) := by
  intro xs r h
  unfold qy_rS at h
  split at h
  · simp only [Option.some.injEq, Prod.mk.injEq] at h
    have h1 := is_iff.1 h.1
    exact absurd h1.1 (Nat.not_lt_zero _)
  · cases h
theorem qy_good : ∀ n : Nat, qy_G (i_impl_Type_bytes := ⟨n⟩) := by
  intro n
  induction n with
  | zero => exact qy_G.mk (i_impl_Type_bytes := ⟨0⟩) (DOk.also0 d52 qy_none)
  | succ n ih => exact qy_step (i_impl_Type_bytes := ⟨n⟩) (g_impl_Type_bytes := ih)
end
theorem qv_none : ∀ xs r, qv_rS (i_impl_Type_valid := ⟨0⟩) xs ≠ some (true, r) := by
  intro xs r h
  unfold qv_rS at h
  split at h
  · simp only [Option.some.injEq, Prod.mk.injEq] at h
    have h1 := is_iff.1 h.1
    exact absurd h1.1 (Nat.not_lt_zero _)
  · cases h
theorem qv_good : ∀ n : Nat, qv_G (i_impl_Type_valid := ⟨n⟩) := by
  intro n
  induction n with
  | zero => exact qv_G.mk (i_impl_Type_valid := ⟨0⟩) (DOk.also0 d43 qv_none)
  | succ n ih => exact qv_step (i_impl_Type_valid := ⟨n⟩) (g_impl_Type_valid := ih)
end
theorem qba_none : ∀ xs r, qba_rS (i_impl_SameType := ⟨0⟩) xs ≠ some (true, r) := by
  intro xs r h
  unfold qba_rS at h
  split at h
  · simp only [Option.some.injEq, Prod.mk.injEq] at h
    have h1 := is_iff.1 h.1
    exact absurd h1.1 (Nat.not_lt_zero _)
  · cases h
theorem qba_good : ∀ n : Nat, qba_G (i_impl_SameType := ⟨n⟩) := by
  intro n
  induction n with
  | zero => exact qba_G.mk (i_impl_SameType := ⟨0⟩) (DOk.also0 d35 qba_none)
  | succ n ih => exact qba_step (i_impl_SameType := ⟨n⟩) (g_impl_SameType := ih)
end
theorem qw_none : ∀ xs r, qw_rS (i_impl_Type_size := ⟨0⟩) xs ≠ some (true, r) := by
  intro xs r h
  unfold qw_rS at h
  split at h
  · simp only [Option.some.injEq, Prod.mk.injEq] at h
    have h1 := is_iff.1 h.1
    exact absurd h1.1 (Nat.not_lt_zero _)
  · cases h
theorem qw_good : ∀ n : Nat, qw_G (i_impl_Type_size := ⟨n⟩) := by
  intro n
  induction n with
  | zero => exact qw_G.mk (i_impl_Type_size := ⟨0⟩) (DOk.also0 d31 qw_none)
  | succ n ih => exact qw_step (i_impl_Type_size := ⟨n⟩) (g_impl_Type_size := ih)
end
theorem qg_none : ∀ xs r, qg_rS (i_spec_l03Zero := ⟨0⟩) xs ≠ some (true, r) := by
  intro xs r h
  unfold qg_rS at h
  split at h
  · simp only [Option.some.injEq, Prod.mk.injEq] at h
    have h1 := is_iff.1 h.1
    exact absurd h1.1 (Nat.not_lt_zero _)
  · cases h
theorem qg_good : ∀ n : Nat, qg_G (i_spec_l03Zero := ⟨n⟩) := by
  intro n
  induction n with
  | zero => exact qg_G.mk (i_spec_l03Zero := ⟨0⟩) (DOk.also0 d29 qg_none)
  | succ n ih => exact qg_step (i_spec_l03Zero := ⟨n⟩) (g_spec_l03Zero := ih)
end
theorem qbi_none : ∀ xs r, qbi_rS (i_spec_l02Ok := ⟨0⟩) xs ≠ some (true, r) := by
  intro xs r h
  unfold qbi_rS at h
  split at h
  · simp only [Option.some.injEq, Prod.mk.injEq] at h
    have h1 := is_iff.1 h.1
    exact absurd h1.1 (Nat.not_lt_zero _)
  · cases h
theorem qbi_good : ∀ n : Nat, qbi_G (i_spec_l02Ok := ⟨n⟩) := by
  intro n
  induction n with
  | zero => exact qbi_G.mk (i_spec_l02Ok := ⟨0⟩) (DOk.also0 d23 qbi_none)
  | succ n ih => exact qbi_step (i_spec_l02Ok := ⟨n⟩) (g_spec_l02Ok := ih)
end
theorem qe_none : ∀ xs r, qe_rS (i_spec_l02Depth := ⟨0⟩) xs ≠ some (true, r) := by
  intro xs r h
  unfold qe_rS at h
  split at h
  · simp only [Option.some.injEq, Prod.mk.injEq] at h
    have h1 := is_iff.1 h.1
    exact absurd h1.1 (Nat.not_lt_zero _)
  · cases h
theorem qe_good : ∀ n : Nat, qe_G (i_spec_l02Depth := ⟨n⟩) := by
  intro n
  induction n with
  | zero => exact qe_G.mk (i_spec_l02Depth := ⟨0⟩) (DOk.also0 d13 qe_none)
  | succ n ih => exact qe_step (i_spec_l02Depth := ⟨n⟩) (g_spec_l02Depth := ih)
end
theorem qn_none : ∀ xs r, qn_rS (i_spec_l02Size := ⟨0⟩) xs ≠ some (true, r) := by
  intro xs r h
  unfold qn_rS at h
  split at h
  · simp only [Option.some.injEq, Prod.mk.injEq] at h
    have h1 := is_iff.1 h.1
    exact absurd h1.1 (Nat.not_lt_zero _)
  · cases h
theorem qn_good : ∀ n : Nat, qn_G (i_spec_l02Size := ⟨n⟩) := by
  intro n
  induction n with
  | zero => exact qn_G.mk (i_spec_l02Size := ⟨0⟩) (DOk.also0 d12 qn_none)
  | succ n ih => exact qn_step (i_spec_l02Size := ⟨n⟩) (g_spec_l02Size := ih)
end
theorem qp_none : ∀ xs r, qp_rS (i_laws_toType := ⟨0⟩) xs ≠ some (true, r) := by
  intro xs r h
  unfold qp_rS at h
  split at h
  · simp only [Option.some.injEq, Prod.mk.injEq] at h
    have h1 := is_iff.1 h.1
    exact absurd h1.1 (Nat.not_lt_zero _)
  · cases h
theorem qp_good : ∀ n : Nat, qp_G (i_laws_toType := ⟨n⟩) := by
  intro n
  induction n with
  | zero => exact qp_G.mk (i_laws_toType := ⟨0⟩) (DOk.also0 d8 qp_none)
  | succ n ih => exact qp_step (i_laws_toType := ⟨n⟩) (g_laws_toType := ih)
end
@[reducible] noncomputable def qbc_orc : Nat → qbc_O
  | 0 => ⟨fun _ _ _ _ _ _ _ _ _ _ => (false, default)⟩
  | n + 1 => ⟨qbc_next (i_laws_szType := qbc_orc n)⟩
theorem qbc_none : ∀ xs r, qbc_rS (i_laws_szType := qbc_orc 0) xs ≠ some (true, r) := by
  intro xs r h
  unfold qbc_rS at h
  split at h
  · simp only [Option.some.injEq, Prod.mk.injEq] at h
    exact absurd h.1 (by show ¬(false = true); simp)
  · cases h
theorem qbc_good : ∀ n, qbc_G (i_laws_szType := qbc_orc n) := by
  intro n
  induction n with
  | zero => exact qbc_G.mk (i_laws_szType := qbc_orc 0) (DOk.also0 d2 qbc_none)
  | succ n ih => exact qbc_step (i_laws_szType := qbc_orc n) (g_laws_szType := ih)
theorem qbc_hr : ∀ (n : Nat) (x0 x1 : Int) (x2 x3 : Bool) (x4 x5 x6 x7 : LL) (x8 x9 : Int), max (rowsDep x6) (rowsDep x7) < n ∧ Typed tab (.slice 9) (.l x4) ∧ Typed tab (.slice 2) (.l x5) ∧ Typed tab (.slice 67) (.l x6) ∧ Typed tab (.slice 27) (.l x7) → qbc_rc (i_laws_szType := qbc_orc n) x0 x1 x2 x3 x4 x5 x6 x7 x8 x9 = true := by
  intro n
  induction n with
  | zero => intro x0 x1 x2 x3 x4 x5 x6 x7 x8 x9 h; exact absurd h.1 (Nat.not_lt_zero _)
  | succ n ih =>
    intro x0 x1 x2 x3 x4 x5 x6 x7 x8 x9 h
    exact qbc_nx (i_laws_szType := qbc_orc n) (g_laws_szType := qbc_good n) n ih x0 x1 x2 x3 x4 x5 x6 x7 x8 x9 h
theorem laws_FnExactZeroElement_pure : ∀ xs, ArgsTyped tab [27] xs → ∃ (D : Dt) (lo : LoopTeller), DOk Go.Proofs.Try.prog tab D ∧ FnLoops tab (fun f => Go.Proofs.Try.prog.funcs[f]?) D live 8 lo ∧ runF tab (fun f => Go.Proofs.Try.prog.funcs[f]?) D live 8 lo xs = yes := by
  intro xs h
  cases h with | cons l0 g0 h =>
  obtain ⟨z0_0, z0_1, z0_2, z0_3, z0_4, z0_5, z0_6, z0_7, z0_8, rfl⟩ := len_9 l0
  have q0 := g0 0 (by decide)
  have q0 : Typed tab (.int .i64) z0_0 := q0
  obtain ⟨y0, rfl⟩ := typed_int q0
  have q1 := g0 1 (by decide)
  have q1 : Typed tab (.int .i64) z0_1 := q1
  obtain ⟨y1, rfl⟩ := typed_int q1
  have q2 := g0 2 (by decide)
  have q2 : Typed tab (.bool) z0_2 := q2
  obtain ⟨y2, rfl⟩ := typed_bool q2
  have q3 := g0 3 (by decide)
  have q3 : Typed tab (.bool) z0_3 := q3
  obtain ⟨y3, rfl⟩ := typed_bool q3
  have q4 := g0 4 (by decide)
  have q4 : Typed tab (.slice 9) z0_4 := q4
  obtain ⟨y4, rfl⟩ := typed_slice q4
  have q5 := g0 5 (by decide)
  have q5 : Typed tab (.slice 2) z0_5 := q5
  obtain ⟨y5, rfl⟩ := typed_slice q5
  have q6 := g0 6 (by decide)
  have q6 : Typed tab (.slice 67) z0_6 := q6
  obtain ⟨y6, rfl⟩ := typed_slice q6
  have q7 := g0 7 (by decide)
  have q7 : Typed tab (.slice 27) z0_7 := q7
  obtain ⟨y7, rfl⟩ := typed_slice q7
  have q8 := g0 8 (by decide)
  have q8 : Typed tab (.int .i64) z0_8 := q8
  obtain ⟨y8, rfl⟩ := typed_int q8
  cases h
  letI i_laws_szType : qbc_O := qbc_orc (rowsDep y4 + rowsDep y5 + rowsDep y6 + rowsDep y7 + 1)
  letI g_laws_szType : qbc_G := qbc_good (rowsDep y4 + rowsDep y5 + rowsDep y6 + rowsDep y7 + 1)
  letI i_laws_toType : qp_O := ⟨rowsDep y4 + rowsDep y5 + rowsDep y6 + rowsDep y7 + 1⟩
  letI g_laws_toType : qp_G := qp_good (rowsDep y4 + rowsDep y5 + rowsDep y6 + rowsDep y7 + 1)
  letI i_spec_l02Size : qn_O := ⟨rowsDep y4 + rowsDep y5 + rowsDep y6 + rowsDep y7 + 1⟩
  letI g_spec_l02Size : qn_G := qn_good (rowsDep y4 + rowsDep y5 + rowsDep y6 + rowsDep y7 + 1)
  letI i_spec_l02Depth : qe_O := ⟨rowsDep y4 + rowsDep y5 + rowsDep y6 + rowsDep y7 + 1⟩
  letI g_spec_l02Depth : qe_G := qe_good (rowsDep y4 + rowsDep y5 + rowsDep y6 + rowsDep y7 + 1)
  letI i_spec_l02Ok : qbi_O := ⟨rowsDep y4 + rowsDep y5 + rowsDep y6 + rowsDep y7 + 1⟩
  letI g_spec_l02Ok : qbi_G := qbi_good (rowsDep y4 + rowsDep y5 + rowsDep y6 + rowsDep y7 + 1)
  letI i_spec_l03Zero : qg_O := ⟨rowsDep y4 + rowsDep y5 + rowsDep y6 + rowsDep y7 + 1⟩
  letI g_spec_l03Zero : qg_G := qg_good (rowsDep y4 + rowsDep y5 + rowsDep y6 + rowsDep y7 + 1)
  letI i_impl_Type_size : qw_O := ⟨rowsDep y4 + rowsDep y5 + rowsDep y6 + rowsDep y7 + 1⟩
  letI g_impl_Type_size : qw_G := qw_good (rowsDep y4 + rowsDep y5 + rowsDep y6 + rowsDep y7 + 1)
  letI i_impl_SameType : qba_O := ⟨rowsDep y4 + rowsDep y5 + rowsDep y6 + rowsDep y7 + 1⟩
  letI g_impl_SameType : qba_G := qba_good (rowsDep y4 + rowsDep y5 + rowsDep y6 + rowsDep y7 + 1)
  letI i_impl_Type_valid : qv_O := ⟨rowsDep y4 + rowsDep y5 + rowsDep y6 + rowsDep y7 + 1⟩
  letI g_impl_Type_valid : qv_G := qv_good (rowsDep y4 + rowsDep y5 + rowsDep y6 + rowsDep y7 + 1)
  letI i_impl_Type_bytes : qy_O := ⟨rowsDep y4 + rowsDep y5 + rowsDep y6 + rowsDep y7 + 1⟩
  letI g_impl_Type_bytes : qy_G := qy_good (rowsDep y4 + rowsDep y5 + rowsDep y6 + rowsDep y7 + 1)
  letI i_impl_Type_zero : qo_O := ⟨rowsDep y4 + rowsDep y5 + rowsDep y6 + rowsDep y7 + 1⟩
  letI g_impl_Type_zero : qo_G := qo_good (rowsDep y4 + rowsDep y5 + rowsDep y6 + rowsDep y7 + 1)
  letI i_laws_eqType : qbo_O := ⟨rowsDep y4 + rowsDep y5 + rowsDep y6 + rowsDep y7 + 1⟩
  letI g_laws_eqType : qbo_G := qbo_good (rowsDep y4 + rowsDep y5 + rowsDep y6 + rowsDep y7 + 1)
  refine ⟨D66, noLoops, d66, noLoops_ok, (laws_FnExactZeroElement_e y0 y1 y2 y3 y4 y5 y6 y7 y8).trans ?_⟩
  rw [Tr.run_eq, laws_FnExactZeroElement_p y0 y1 y2 y3 y4 y5 y6 y7 y8 q0 q1 q2 q3 q4 q5 q6 q7 q8 (rowsDep y4 + rowsDep y5 + rowsDep y6 + rowsDep y7 + 1) rfl (qbc_hr (rowsDep y4 + rowsDep y5 + rowsDep y6 + rowsDep y7 + 1)) (Nat.le_refl _) (Nat.le_refl _) (Nat.le_refl _) (Nat.le_refl _) (Nat.le_refl _) (Nat.le_refl _) (Nat.le_refl _) (Nat.le_refl _) (Nat.le_refl _) (Nat.le_refl _) (Nat.le_refl _)]
  rfl
end
end Go.Proofs.Ytdcafhfnkblfkaa.V
