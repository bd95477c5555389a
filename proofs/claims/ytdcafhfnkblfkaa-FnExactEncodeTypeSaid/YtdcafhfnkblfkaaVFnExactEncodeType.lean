/- What the functions of FnExactEncodeType answer. No condition. -/
import Derived.Test.YtdcafhfnkblfkaaVFnExactEncodeTypeP4
namespace Go.Proofs.Ytdcafhfnkblfkaa.V
open Go
set_option maxRecDepth 100000
set_option linter.unusedVariables false
set_option linter.unusedSectionVars false
set_option linter.unusedSimpArgs false
set_option maxHeartbeats 2000000
section
variable [i_laws_szType : qbc_O]
variable [g_laws_szType : qbc_G]
section
variable [i_laws_toType : qq_O]
variable [g_laws_toType : qq_G]
section
variable [i_spec_l02Size : qo_O]
variable [g_spec_l02Size : qo_G]
section
variable [i_spec_l02Depth : qg_O]
variable [g_spec_l02Depth : qg_G]
section
variable [i_spec_l02Ok : qbh_O]
variable [g_spec_l02Ok : qbh_G]
section
variable [i_spec_l02Encode : qf_O]
variable [g_spec_l02Encode : qf_G]
section
variable [i_impl_Type_size : qy_O]
variable [g_impl_Type_size : qy_G]
section
variable [i_impl_SameType : qba_O]
variable [g_impl_SameType : qba_G]
section
variable [i_impl_Type_valid : qw_O]
variable [g_impl_Type_valid : qw_G]
section
variable [i_impl_Type_encode : qe_O]
variable [g_impl_Type_encode : qe_G]
section
variable [i_laws_eqType : qbn_O]
variable [g_laws_eqType : qbn_G]
theorem qbi_is4 : LoopIs tab FT D60 live 40 qbi_lo 0 4 := by
  refine loop_told (sl := qbi_4_sl) (step := qbi_4_st) (out := qbi_4_out) (lor := qbi_lo4) (fin := fun x => (qbi_4_fin (x.1) (x.2.1) (x.2.2))) (fun _ => rfl) ?_ (fun x n => qbi_4_r x.1 x.2.1 x.2.2 n) (fun x ow => qbi_4_h x.1 x.2.1 x.2.2 ow)
  intro s t h
  unfold qbi_lo4 at h
  split at h
  · cases h; exact ⟨(_, _, _), rfl, rfl⟩
  · cases h
noncomputable def qbi_t (A C : LL) : Tr (Bool) := (.ite ((!((A.length : Int) == (C.length : Int))) = true) (.ok false)
  (.ite ((qbi_o4_1 A C (0 : Int)) = true) (.ok true)
   .no))
def qbi_mk (p : Bool) : Res := [(false, [⟨.bool, .sh, TC.b p⟩])]
noncomputable def qbi_c (A C : LL) : Bool := is (A = C ∧ Typed tab (.slice 71) (.l A) ∧ (∀ x : List TC, x ∈ A → (qce_c ((nth x 0).str) ((nth x 1).int) ((nth x 2).int) ((nth x 3).int) ((nth x 4).bool) ((nth x 5).bool) ((nth x 6).list) ((nth x 7).list) ((nth x 8).list) ((nth x 9).list) ((nth x 10).int) ((nth x 0).str) ((nth x 1).int) ((nth x 2).int) ((nth x 3).int) ((nth x 4).bool) ((nth x 5).bool) ((nth x 6).list) ((nth x 7).list) ((nth x 8).list) ((nth x 9).list) ((nth x 10).int)) = true))
noncomputable def qbi_v (A C : LL) : Bool := true
theorem qbi_l (A C : LL) : (qbi_c A C) = true → (qbi_t A C).val = some (qbi_v A C) := by
  intro h
  obtain ⟨rfl, ht, hr0⟩ := is_iff.1 h
  unfold qbi_t
  refine Tr.n (by simp) ?_
  refine Tr.t (is_true ⟨rfl, ht, hr0, rfl⟩) ?_
  rfl
noncomputable def qbi_S : List Arg → Option (Bool × Res) := fun xs => match xs with
  | [(false, [(.slice 71, TC.l A)]), (false, [(.slice 71, TC.l C)])] => some ((qbi_c A C), qbi_mk (qbi_v A C))
  | _ => .none
theorem qbi_e (A C : LL) : runF tab FT D60 live 40 qbi_lo [(false, [(.slice 71, TC.l A)]), (false, [(.slice 71, TC.l C)])] = (qbi_t A C).run fun p => some (qbi_mk p) := by kernel_rfl
theorem qbi_s : ∀ xs r, qbi_S xs = some (true, r) → runF tab FT D60 live 40 qbi_lo xs = some r := by
  intro xs r h
  unfold qbi_S at h
  split at h
  · simp only [Option.some.injEq, Prod.mk.injEq] at h
    obtain ⟨h1, rfl⟩ := h
    exact fun_told (qbi_e _ _) (qbi_l _ _) h1
  · cases h
noncomputable def D61 : Dt := also D60 40 qbi_S
theorem d61 : DOk Go.Proofs.Try.prog tab D61 := d60.also mixed_ok tab_ok names_ok (fnLoops_one (by kernel_rfl) qbi_is4) qbi_s
abbrev qbp_4_σ := LL × LL × Int
abbrev qbp_4_ω := (Unit) ⊕ (Unit)
noncomputable def qbp_4_step (A C : LL) (i : Int) : Tr (qbp_4_σ ⊕ qbp_4_ω) := (.ite ((decide (i < (A.length : Int))) = true) (.ite ((0 : Int) ≤ i ∧ i < (A.length : Int)) (.ite ((0 : Int) ≤ i ∧ i < (C.length : Int)) (.ite ((qbn_rc ((nth (row A i) 0).int) ((nth (row A i) 1).int) ((nth (row A i) 2).bool) ((nth (row A i) 3).bool) ((nth (row A i) 4).list) ((nth (row A i) 5).list) ((nth (row A i) 6).list) ((nth (row A i) 7).list) ((nth (row A i) 8).int) ((nth (row C i) 0).int) ((nth (row C i) 1).int) ((nth (row C i) 2).bool) ((nth (row C i) 3).bool) ((nth (row C i) 4).list) ((nth (row C i) 5).list) ((nth (row C i) 6).list) ((nth (row C i) 7).list) ((nth (row C i) 8).int)) = true) (.ite ((!(qbn_rv ((nth (row A i) 0).int) ((nth (row A i) 1).int) ((nth (row A i) 2).bool) ((nth (row A i) 3).bool) ((nth (row A i) 4).list) ((nth (row A i) 5).list) ((nth (row A i) 6).list) ((nth (row A i) 7).list) ((nth (row A i) 8).int) ((nth (row C i) 0).int) ((nth (row C i) 1).int) ((nth (row C i) 2).bool) ((nth (row C i) 3).bool) ((nth (row C i) 4).list) ((nth (row C i) 5).list) ((nth (row C i) 6).list) ((nth (row C i) 7).list) ((nth (row C i) 8).int))) = true) (.ok (.inr (.inl ())))
      (.ok (.inl (A, C, (IntKind.wrap .i64 (i + (1 : Int)))))))
     .no)
    .no)
   .no)
  (.ok (.inr (.inr ()))))
noncomputable def qbp_4_st : qbp_4_σ → Tr (qbp_4_σ ⊕ qbp_4_ω) := fun x => (qbp_4_step (x.1) (x.2.1) (x.2.2))
noncomputable def qbp_o4_1 (A C : LL) (i : Int) : Bool := is (A = C ∧ Typed tab (.slice 32) (.l A) ∧ (∀ x : List TC, x ∈ A → (qbn_rc ((nth x 0).int) ((nth x 1).int) ((nth x 2).bool) ((nth x 3).bool) ((nth x 4).list) ((nth x 5).list) ((nth x 6).list) ((nth x 7).list) ((nth x 8).int) ((nth x 0).int) ((nth x 1).int) ((nth x 2).bool) ((nth x 3).bool) ((nth x 4).list) ((nth x 5).list) ((nth x 6).list) ((nth x 7).list) ((nth x 8).int)) = true) ∧ i = 0)
noncomputable def qbp_4_fin (A C : LL) (i : Int) : Told qbp_4_ω := (.leaf (qbp_o4_1 A C i) (.inr ()))
def qbp_4_sl (x : qbp_4_σ) : List Slot := [⟨.val false [⟨.slice 32, .sh, TC.l (x.1)⟩], ⟨0, 0⟩⟩, ⟨.val false [⟨.slice 32, .sh, TC.l (x.2.1)⟩], ⟨0, 0⟩⟩, ⟨.val false [⟨.int .i64, .sh, TC.i (x.2.2)⟩], ⟨0, 0⟩⟩]
def qbp_4_out : qbp_4_ω → Ex × List Slot := (Sum.elim (fun x => (.ret, [⟨.val false [⟨.bool, .sh, TC.b false⟩], ⟨0, 0⟩⟩])) (fun x => (.exit 0, [Slot.none])))
noncomputable def qbp_lo4 : List Slot → Option (Told (Ex × List Slot)) := fun s => match s with
  | [⟨.val false [⟨.slice 32, .sh, TC.l A⟩], ⟨0, 0⟩⟩, ⟨.val false [⟨.slice 32, .sh, TC.l C⟩], ⟨0, 0⟩⟩, ⟨.val false [⟨.int .i64, .sh, TC.i i⟩], ⟨0, 0⟩⟩] => some (((qbp_4_fin A C i)).map qbp_4_out)
  | _ => .none
noncomputable def qbp_lo : LoopTeller := fun r s => bif Nat.beq r 4 then qbp_lo4 s else .none
theorem qbp_4_r (A C : LL) (i : Int) (fuel : Nat) : rounds (rnd tab FT D61 live 41 qbp_lo 0 4) leave (fuel + 1) (qbp_4_sl (A, C, i)) = ((qbp_4_step A C i)).run (goOn (fun s => rounds (rnd tab FT D61 live 41 qbp_lo 0 4) leave fuel (qbp_4_sl s)) fun w => some (qbp_4_out w)) := by kernel_rfl
theorem qbp_4_h (A C : LL) (i : Int) (ow : qbp_4_ω) : ((qbp_4_fin A C i)).val = some ow → ∃ fuel, loopN qbp_4_st fuel (A, C, i) = some ow := by
  intro h
  refine auto_leaf (R := Sum.inr ()) (fun ho => ?_) h
  obtain ⟨rfl, ht, hr0, rfl⟩ := is_iff.1 ho
  have hlen : A.length ≤ 140737488351232 := by have := typed_room ht; simp only [show (tab 32).bytes = 128 from rfl] at this; omega
  refine ⟨_, loopN_run (N := A.length) (fun i => (A, A, (i : Int))) (fun i hi => ?_) ?_ A.length 0 (by omega)⟩
  · have c4 : Typed tab (.slice 9) (.l (nth (A.getD i []) 4).list) := typed_list (typed_cell ht (A.getD i []) (mem_getD hi) 4 (by decide))
    have c5 : Typed tab (.slice 2) (.l (nth (A.getD i []) 5).list) := typed_list (typed_cell ht (A.getD i []) (mem_getD hi) 5 (by decide))
    have c6 : Typed tab (.slice 71) (.l (nth (A.getD i []) 6).list) := typed_list (typed_cell ht (A.getD i []) (mem_getD hi) 6 (by decide))
    have c7 : Typed tab (.slice 32) (.l (nth (A.getD i []) 7).list) := typed_list (typed_cell ht (A.getD i []) (mem_getD hi) 7 (by decide))
    show (qbp_4_step A A (i : Int)).val = _
    unfold qbp_4_step
    refine Tr.t (by simp; omega) ?_
    refine Tr.t (by first | omega | (constructor <;> omega)) ?_
    refine Tr.t (by first | omega | (constructor <;> omega)) ?_
    refine Tr.t (hr0 (A.getD i []) (mem_getD hi)) ?_
    refine Tr.n (by simp [qba_rv, qe_rv, qy_rv, qw_rv, qbn_rv, qbc_rv, qq_rv, qg_rv, qf_rv, qbh_rv, qo_rv]) ?_
    rw [Tr.val_ok, wrap64 (i := (i : Int) + 1) (by omega) (by omega)]; rfl
  · show (qbp_4_step A A (A.length : Int)).val = _
    refine Tr.n (by simp) ?_
    rfl
theorem qbp_is4 : LoopIs tab FT D61 live 41 qbp_lo 0 4 := by
  refine loop_told (sl := qbp_4_sl) (step := qbp_4_st) (out := qbp_4_out) (lor := qbp_lo4) (fin := fun x => (qbp_4_fin (x.1) (x.2.1) (x.2.2))) (fun _ => rfl) ?_ (fun x n => qbp_4_r x.1 x.2.1 x.2.2 n) (fun x ow => qbp_4_h x.1 x.2.1 x.2.2 ow)
  intro s t h
  unfold qbp_lo4 at h
  split at h
  · cases h; exact ⟨(_, _, _), rfl, rfl⟩
  · cases h
noncomputable def qbp_t (A C : LL) : Tr (Bool) := (.ite ((!((A.length : Int) == (C.length : Int))) = true) (.ok false)
  (.ite ((qbp_o4_1 A C (0 : Int)) = true) (.ok true)
   .no))
def qbp_mk (p : Bool) : Res := [(false, [⟨.bool, .sh, TC.b p⟩])]
noncomputable def qbp_c (A C : LL) : Bool := is (A = C ∧ Typed tab (.slice 32) (.l A) ∧ (∀ x : List TC, x ∈ A → (qbn_rc ((nth x 0).int) ((nth x 1).int) ((nth x 2).bool) ((nth x 3).bool) ((nth x 4).list) ((nth x 5).list) ((nth x 6).list) ((nth x 7).list) ((nth x 8).int) ((nth x 0).int) ((nth x 1).int) ((nth x 2).bool) ((nth x 3).bool) ((nth x 4).list) ((nth x 5).list) ((nth x 6).list) ((nth x 7).list) ((nth x 8).int)) = true))
noncomputable def qbp_v (A C : LL) : Bool := true
theorem qbp_l (A C : LL) : (qbp_c A C) = true → (qbp_t A C).val = some (qbp_v A C) := by
  intro h
  obtain ⟨rfl, ht, hr0⟩ := is_iff.1 h
  unfold qbp_t
  refine Tr.n (by simp) ?_
  refine Tr.t (is_true ⟨rfl, ht, hr0, rfl⟩) ?_
  rfl
noncomputable def qbp_S : List Arg → Option (Bool × Res) := fun xs => match xs with
  | [(false, [(.slice 32, TC.l A)]), (false, [(.slice 32, TC.l C)])] => some ((qbp_c A C), qbp_mk (qbp_v A C))
  | _ => .none
theorem qbp_e (A C : LL) : runF tab FT D61 live 41 qbp_lo [(false, [(.slice 32, TC.l A)]), (false, [(.slice 32, TC.l C)])] = (qbp_t A C).run fun p => some (qbp_mk p) := by kernel_rfl
theorem qbp_s : ∀ xs r, qbp_S xs = some (true, r) → runF tab FT D61 live 41 qbp_lo xs = some r := by
  intro xs r h
  unfold qbp_S at h
  split at h
  · simp only [Option.some.injEq, Prod.mk.injEq] at h
    obtain ⟨h1, rfl⟩ := h
    exact fun_told (qbp_e _ _) (qbp_l _ _) h1
  · cases h
noncomputable def D62 : Dt := also D61 41 qbp_S
theorem d62 : DOk Go.Proofs.Try.prog tab D62 := d61.also mixed_ok tab_ok names_ok (fnLoops_one (by kernel_rfl) qbp_is4) qbp_s
noncomputable def qbn_t (x0 x1 : Int) (x2 x3 : Bool) (x4 x5 x6 x7 : LL) (x8 y0 y1 : Int) (y2 y3 : Bool) (y4 y5 y6 y7 : LL) (y8 : Int) : Tr (Bool) := (.ite ((!(x0 == y0)) = true) (.ok false)
  (.ite ((!(x1 == y1)) = true) (.ok false)
   (.ite ((!(x2 == y2)) = true) (.ok false)
    (.ite ((!(x3 == y3)) = true) (.ok false)
     (.ite ((qbj_c x4 y4) = true) (.ite ((!(qbj_v x4 y4)) = true) (.ok false)
       (.ite ((qbl_c x5 y5) = true) (.ite ((!(qbl_v x5 y5)) = true) (.ok false)
         (.ite ((qbi_c x6 y6) = true) (.ite ((!(qbi_v x6 y6)) = true) (.ok false)
           (.ite ((qbp_c x7 y7) = true) (.ite ((!(qbp_v x7 y7)) = true) (.ok false)
             (.ite ((!(x8 == y8)) = true) (.ok false)
              (.ok true)))
            .no))
          .no))
        .no))
      .no)))))
def qbn_mk (p : Bool) : Res := [(false, [⟨.bool, .sh, TC.b p⟩])]
noncomputable def qbn_c (x0 x1 : Int) (x2 x3 : Bool) (x4 x5 x6 x7 : LL) (x8 y0 y1 : Int) (y2 y3 : Bool) (y4 y5 y6 y7 : LL) (y8 : Int) : Bool := (bif (!(x0 == y0)) then true else (bif (!(x1 == y1)) then true else (bif (!(x2 == y2)) then true else (bif (!(x3 == y3)) then true else ((qbj_c x4 y4) && (bif (!(qbj_v x4 y4)) then true else ((qbl_c x5 y5) && (bif (!(qbl_v x5 y5)) then true else ((qbi_c x6 y6) && (bif (!(qbi_v x6 y6)) then true else ((qbp_c x7 y7) && (bif (!(qbp_v x7 y7)) then true else (bif (!(x8 == y8)) then true else true)))))))))))))
noncomputable def qbn_v (x0 x1 : Int) (x2 x3 : Bool) (x4 x5 x6 x7 : LL) (x8 y0 y1 : Int) (y2 y3 : Bool) (y4 y5 y6 y7 : LL) (y8 : Int) : Bool := (bif (!(x0 == y0)) then false else (bif (!(x1 == y1)) then false else (bif (!(x2 == y2)) then false else (bif (!(x3 == y3)) then false else (bif (!(qbj_v x4 y4)) then false else (bif (!(qbl_v x5 y5)) then false else (bif (!(qbi_v x6 y6)) then false else (bif (!(qbp_v x7 y7)) then false else (bif (!(x8 == y8)) then false else true)))))))))
theorem qbn_l (x0 x1 : Int) (x2 x3 : Bool) (x4 x5 x6 x7 : LL) (x8 y0 y1 : Int) (y2 y3 : Bool) (y4 y5 y6 y7 : LL) (y8 : Int) : (qbn_c x0 x1 x2 x3 x4 x5 x6 x7 x8 y0 y1 y2 y3 y4 y5 y6 y7 y8) = true → (qbn_t x0 x1 x2 x3 x4 x5 x6 x7 x8 y0 y1 y2 y3 y4 y5 y6 y7 y8).val = some (qbn_v x0 x1 x2 x3 x4 x5 x6 x7 x8 y0 y1 y2 y3 y4 y5 y6 y7 y8) := by
  unfold qbn_t qbn_v qbn_c
  exact fun h => (Tr.ss h (fun h => rfl) (fun h => (Tr.ss h (fun h => rfl) (fun h => (Tr.ss h (fun h => rfl) (fun h => (Tr.ss h (fun h => rfl) (fun h => (Tr.gb h fun h => (Tr.ss h (fun h => rfl) (fun h => (Tr.gb h fun h => (Tr.ss h (fun h => rfl) (fun h => (Tr.gb h fun h => (Tr.ss h (fun h => rfl) (fun h => (Tr.gb h fun h => (Tr.ss h (fun h => rfl) (fun h => (Tr.ss h (fun h => rfl) (fun h => rfl))))))))))))))))))))))
noncomputable def qbn_S : List Arg → Option (Bool × Res) := fun xs => match xs with
  | [(true, [(.int .i64, TC.i x0), (.int .i64, TC.i x1), (.bool, TC.b x2), (.bool, TC.b x3), (.slice 9, TC.l x4), (.slice 2, TC.l x5), (.slice 71, TC.l x6), (.slice 32, TC.l x7), (.int .i64, TC.i x8)]), (true, [(.int .i64, TC.i y0), (.int .i64, TC.i y1), (.bool, TC.b y2), (.bool, TC.b y3), (.slice 9, TC.l y4), (.slice 2, TC.l y5), (.slice 71, TC.l y6), (.slice 32, TC.l y7), (.int .i64, TC.i y8)])] => some ((qbn_c x0 x1 x2 x3 x4 x5 x6 x7 x8 y0 y1 y2 y3 y4 y5 y6 y7 y8), qbn_mk (qbn_v x0 x1 x2 x3 x4 x5 x6 x7 x8 y0 y1 y2 y3 y4 y5 y6 y7 y8))
  | _ => .none
theorem qbn_e (x0 x1 : Int) (x2 x3 : Bool) (x4 x5 x6 x7 : LL) (x8 y0 y1 : Int) (y2 y3 : Bool) (y4 y5 y6 y7 : LL) (y8 : Int) : runF tab FT D62 live 13 noLoops [(true, [(.int .i64, TC.i x0), (.int .i64, TC.i x1), (.bool, TC.b x2), (.bool, TC.b x3), (.slice 9, TC.l x4), (.slice 2, TC.l x5), (.slice 71, TC.l x6), (.slice 32, TC.l x7), (.int .i64, TC.i x8)]), (true, [(.int .i64, TC.i y0), (.int .i64, TC.i y1), (.bool, TC.b y2), (.bool, TC.b y3), (.slice 9, TC.l y4), (.slice 2, TC.l y5), (.slice 71, TC.l y6), (.slice 32, TC.l y7), (.int .i64, TC.i y8)])] = (qbn_t x0 x1 x2 x3 x4 x5 x6 x7 x8 y0 y1 y2 y3 y4 y5 y6 y7 y8).run fun p => some (qbn_mk p) := by kernel_rfl
theorem qbn_s : ∀ xs r, qbn_S xs = some (true, r) → runF tab FT D62 live 13 noLoops xs = some r := by
  intro xs r h
  unfold qbn_S at h
  split at h
  · simp only [Option.some.injEq, Prod.mk.injEq] at h
    obtain ⟨h1, rfl⟩ := h
    exact fun_told (qbn_e _ _ _ _ _ _ _ _ _ _ _ _ _ _ _ _ _ _) (qbn_l _ _ _ _ _ _ _ _ _ _ _ _ _ _ _ _ _ _) h1
  · cases h
theorem qbn_nx (x0 x1 : Int) (x2 x3 : Bool) (x4 x5 x6 x7 : LL) (x8 y0 y1 : Int) (y2 y3 : Bool) (y4 y5 y6 y7 : LL) (y8 : Int) : is (max (rowsDep x6) (rowsDep x7) < qbn_O.n + 1 ∧ x0 = y0 ∧ x1 = y1 ∧ x2 = y2 ∧ x3 = y3 ∧ x4 = y4 ∧ x5 = y5 ∧ x6 = y6 ∧ x7 = y7 ∧ x8 = y8 ∧ Typed tab (.slice 9) (.l x4) ∧ Typed tab (.slice 2) (.l x5) ∧ Typed tab (.slice 71) (.l x6) ∧ Typed tab (.slice 32) (.l x7)) = true → (qbn_c x0 x1 x2 x3 x4 x5 x6 x7 x8 y0 y1 y2 y3 y4 y5 y6 y7 y8) = true ∧ (qbn_v x0 x1 x2 x3 x4 x5 x6 x7 x8 y0 y1 y2 y3 y4 y5 y6 y7 y8) = true := by
  intro h
  obtain ⟨hM, rfl, rfl, rfl, rfl, rfl, rfl, rfl, rfl, rfl, t4, t5, t6, t7⟩ := is_iff.1 h
  have c4 : qbj_c x4 x4 = true := is_true ⟨rfl, t4⟩
  have c5 : qbl_c x5 x5 = true := is_true ⟨rfl, t5⟩
  have c6 : qbi_c x6 x6 = true := is_true ⟨rfl, t6, fun x hx => qce_cc (is_true ⟨by have a := dep_cell hx 8; have b := dep_cell hx 9; omega, rfl, rfl, rfl, rfl, rfl, rfl, rfl, rfl, rfl, typed_list ((typed_elem t6 hx).2 6 (by decide)), typed_list ((typed_elem t6 hx).2 7 (by decide)), typed_list ((typed_elem t6 hx).2 8 (by decide)), typed_list ((typed_elem t6 hx).2 9 (by decide))⟩)⟩
  have c7 : qbp_c x7 x7 = true := is_true ⟨rfl, t7, fun x hx => is_true ⟨by have a := dep_cell hx 6; have b := dep_cell hx 7; omega, rfl, rfl, rfl, rfl, rfl, rfl, rfl, rfl, rfl, typed_list ((typed_elem t7 hx).2 4 (by decide)), typed_list ((typed_elem t7 hx).2 5 (by decide)), typed_list ((typed_elem t7 hx).2 6 (by decide)), typed_list ((typed_elem t7 hx).2 7 (by decide))⟩⟩
  constructor
  · unfold qbn_c
    simp only [c4, c5, c6, c7, qbj_v, qbl_v, qbi_v, qbp_v, beq_self_eq_true, Bool.not_true, cond_false, Bool.and_self]
  · unfold qbn_v
    simp only [qbj_v, qbl_v, qbi_v, qbp_v, beq_self_eq_true, Bool.not_true, cond_false]
theorem qbn_nxr (x0 x1 : Int) (x2 x3 : Bool) (x4 x5 x6 x7 : LL) (x8 y0 y1 : Int) (y2 y3 : Bool) (y4 y5 y6 y7 : LL) (y8 : Int) : qbn_rc (i_laws_eqType := ⟨qbn_O.n + 1⟩) x0 x1 x2 x3 x4 x5 x6 x7 x8 y0 y1 y2 y3 y4 y5 y6 y7 y8 = true → (qbn_c x0 x1 x2 x3 x4 x5 x6 x7 x8 y0 y1 y2 y3 y4 y5 y6 y7 y8) = true ∧ (qbn_v x0 x1 x2 x3 x4 x5 x6 x7 x8 y0 y1 y2 y3 y4 y5 y6 y7 y8) = (qbn_rv x0 x1 x2 x3 x4 x5 x6 x7 x8 y0 y1 y2 y3 y4 y5 y6 y7 y8) := fun h => qbn_nx x0 x1 x2 x3 x4 x5 x6 x7 x8 y0 y1 y2 y3 y4 y5 y6 y7 y8 h
theorem qbn_rs : ∀ xs r, qbn_rS (i_laws_eqType := ⟨qbn_O.n + 1⟩) xs = some (true, r) → runF tab FT D62 live 13 noLoops xs = some r := by
  intro xs r h
  unfold qbn_rS at h
  split at h
  · simp only [Option.some.injEq, Prod.mk.injEq] at h
    obtain ⟨h1, rfl⟩ := h
    have hx := qbn_nxr _ _ _ _ _ _ _ _ _ _ _ _ _ _ _ _ _ _ h1
    have ht := fun_told (qbn_e _ _ _ _ _ _ _ _ _ _ _ _ _ _ _ _ _ _) (qbn_l _ _ _ _ _ _ _ _ _ _ _ _ _ _ _ _ _ _) hx.1
    rw [hx.2] at ht
    exact ht
  · cases h
theorem qbn_step : qbn_G (i_laws_eqType := ⟨qbn_O.n + 1⟩) := by
  have h := DOk.also2 (S := qbn_rS (i_laws_eqType := ⟨qbn_O.n + 1⟩)) mixed_ok tab_ok names_ok d58 d62 noLoops_ok qbn_rs
  refine qbn_G.mk (i_laws_eqType := ⟨qbn_O.n + 1⟩) ?_
  exact h
noncomputable def laws_FnExactEncodeType_t (x0 x1 : Int) (x2 x3 : Bool) (x4 x5 x6 x7 : LL) (x8 : Int) : Tr Bool := (.ite ((qbc_rc x0 x1 x2 x3 x4 x5 x6 x7 x8 (1048576 : Int)) = true) (.ite ((decide ((qbc_rv x0 x1 x2 x3 x4 x5 x6 x7 x8 (1048576 : Int)) < (0 : Int))) = true) (.ok true)
   (.ite ((qq_rc x0 x1 x2 x3 x4 x5 x6 x7 x8) = true) (.ite ((qbv_c ((qq_rv x0 x1 x2 x3 x4 x5 x6 x7 x8).1) ((qq_rv x0 x1 x2 x3 x4 x5 x6 x7 x8).2.1) ((qq_rv x0 x1 x2 x3 x4 x5 x6 x7 x8).2.2.1) ((qq_rv x0 x1 x2 x3 x4 x5 x6 x7 x8).2.2.2.1) ((qq_rv x0 x1 x2 x3 x4 x5 x6 x7 x8).2.2.2.2.1) ((qq_rv x0 x1 x2 x3 x4 x5 x6 x7 x8).2.2.2.2.2.1) ((qq_rv x0 x1 x2 x3 x4 x5 x6 x7 x8).2.2.2.2.2.2.1) ((qq_rv x0 x1 x2 x3 x4 x5 x6 x7 x8).2.2.2.2.2.2.2.1) ((qq_rv x0 x1 x2 x3 x4 x5 x6 x7 x8).2.2.2.2.2.2.2.2)) = true) (.ite ((qq_rc x0 x1 x2 x3 x4 x5 x6 x7 x8) = true) (.ite ((qbz_c ((qq_rv x0 x1 x2 x3 x4 x5 x6 x7 x8).1) ((qq_rv x0 x1 x2 x3 x4 x5 x6 x7 x8).2.1) ((qq_rv x0 x1 x2 x3 x4 x5 x6 x7 x8).2.2.1) ((qq_rv x0 x1 x2 x3 x4 x5 x6 x7 x8).2.2.2.1) ((qq_rv x0 x1 x2 x3 x4 x5 x6 x7 x8).2.2.2.2.1) ((qq_rv x0 x1 x2 x3 x4 x5 x6 x7 x8).2.2.2.2.2.1) ((qq_rv x0 x1 x2 x3 x4 x5 x6 x7 x8).2.2.2.2.2.2.1) ((qq_rv x0 x1 x2 x3 x4 x5 x6 x7 x8).2.2.2.2.2.2.2.1) ((qq_rv x0 x1 x2 x3 x4 x5 x6 x7 x8).2.2.2.2.2.2.2.2)) = true) (.ite ((!((qbz_v ((qq_rv x0 x1 x2 x3 x4 x5 x6 x7 x8).1) ((qq_rv x0 x1 x2 x3 x4 x5 x6 x7 x8).2.1) ((qq_rv x0 x1 x2 x3 x4 x5 x6 x7 x8).2.2.1) ((qq_rv x0 x1 x2 x3 x4 x5 x6 x7 x8).2.2.2.1) ((qq_rv x0 x1 x2 x3 x4 x5 x6 x7 x8).2.2.2.2.1) ((qq_rv x0 x1 x2 x3 x4 x5 x6 x7 x8).2.2.2.2.2.1) ((qq_rv x0 x1 x2 x3 x4 x5 x6 x7 x8).2.2.2.2.2.2.1) ((qq_rv x0 x1 x2 x3 x4 x5 x6 x7 x8).2.2.2.2.2.2.2.1) ((qq_rv x0 x1 x2 x3 x4 x5 x6 x7 x8).2.2.2.2.2.2.2.2)) == (qbv_v ((qq_rv x0 x1 x2 x3 x4 x5 x6 x7 x8).1) ((qq_rv x0 x1 x2 x3 x4 x5 x6 x7 x8).2.1) ((qq_rv x0 x1 x2 x3 x4 x5 x6 x7 x8).2.2.1) ((qq_rv x0 x1 x2 x3 x4 x5 x6 x7 x8).2.2.2.1) ((qq_rv x0 x1 x2 x3 x4 x5 x6 x7 x8).2.2.2.2.1) ((qq_rv x0 x1 x2 x3 x4 x5 x6 x7 x8).2.2.2.2.2.1) ((qq_rv x0 x1 x2 x3 x4 x5 x6 x7 x8).2.2.2.2.2.2.1) ((qq_rv x0 x1 x2 x3 x4 x5 x6 x7 x8).2.2.2.2.2.2.2.1) ((qq_rv x0 x1 x2 x3 x4 x5 x6 x7 x8).2.2.2.2.2.2.2.2)))) = true) (.ok false)
        (.ite ((qq_rc x0 x1 x2 x3 x4 x5 x6 x7 x8) = true) (.ite ((qbn_rc ((qq_rv x0 x1 x2 x3 x4 x5 x6 x7 x8).1) ((qq_rv x0 x1 x2 x3 x4 x5 x6 x7 x8).2.1) ((qq_rv x0 x1 x2 x3 x4 x5 x6 x7 x8).2.2.1) ((qq_rv x0 x1 x2 x3 x4 x5 x6 x7 x8).2.2.2.1) ((qq_rv x0 x1 x2 x3 x4 x5 x6 x7 x8).2.2.2.2.1) ((qq_rv x0 x1 x2 x3 x4 x5 x6 x7 x8).2.2.2.2.2.1) ((qq_rv x0 x1 x2 x3 x4 x5 x6 x7 x8).2.2.2.2.2.2.1) ((qq_rv x0 x1 x2 x3 x4 x5 x6 x7 x8).2.2.2.2.2.2.2.1) ((qq_rv x0 x1 x2 x3 x4 x5 x6 x7 x8).2.2.2.2.2.2.2.2) ((qq_rv x0 x1 x2 x3 x4 x5 x6 x7 x8).1) ((qq_rv x0 x1 x2 x3 x4 x5 x6 x7 x8).2.1) ((qq_rv x0 x1 x2 x3 x4 x5 x6 x7 x8).2.2.1) ((qq_rv x0 x1 x2 x3 x4 x5 x6 x7 x8).2.2.2.1) ((qq_rv x0 x1 x2 x3 x4 x5 x6 x7 x8).2.2.2.2.1) ((qq_rv x0 x1 x2 x3 x4 x5 x6 x7 x8).2.2.2.2.2.1) ((qq_rv x0 x1 x2 x3 x4 x5 x6 x7 x8).2.2.2.2.2.2.1) ((qq_rv x0 x1 x2 x3 x4 x5 x6 x7 x8).2.2.2.2.2.2.2.1) ((qq_rv x0 x1 x2 x3 x4 x5 x6 x7 x8).2.2.2.2.2.2.2.2)) = true) (.ite ((!(qbn_rv ((qq_rv x0 x1 x2 x3 x4 x5 x6 x7 x8).1) ((qq_rv x0 x1 x2 x3 x4 x5 x6 x7 x8).2.1) ((qq_rv x0 x1 x2 x3 x4 x5 x6 x7 x8).2.2.1) ((qq_rv x0 x1 x2 x3 x4 x5 x6 x7 x8).2.2.2.1) ((qq_rv x0 x1 x2 x3 x4 x5 x6 x7 x8).2.2.2.2.1) ((qq_rv x0 x1 x2 x3 x4 x5 x6 x7 x8).2.2.2.2.2.1) ((qq_rv x0 x1 x2 x3 x4 x5 x6 x7 x8).2.2.2.2.2.2.1) ((qq_rv x0 x1 x2 x3 x4 x5 x6 x7 x8).2.2.2.2.2.2.2.1) ((qq_rv x0 x1 x2 x3 x4 x5 x6 x7 x8).2.2.2.2.2.2.2.2) ((qq_rv x0 x1 x2 x3 x4 x5 x6 x7 x8).1) ((qq_rv x0 x1 x2 x3 x4 x5 x6 x7 x8).2.1) ((qq_rv x0 x1 x2 x3 x4 x5 x6 x7 x8).2.2.1) ((qq_rv x0 x1 x2 x3 x4 x5 x6 x7 x8).2.2.2.1) ((qq_rv x0 x1 x2 x3 x4 x5 x6 x7 x8).2.2.2.2.1) ((qq_rv x0 x1 x2 x3 x4 x5 x6 x7 x8).2.2.2.2.2.1) ((qq_rv x0 x1 x2 x3 x4 x5 x6 x7 x8).2.2.2.2.2.2.1) ((qq_rv x0 x1 x2 x3 x4 x5 x6 x7 x8).2.2.2.2.2.2.2.1) ((qq_rv x0 x1 x2 x3 x4 x5 x6 x7 x8).2.2.2.2.2.2.2.2))) = true) (.ok false)
           (.ok true))
          .no)
         .no))
       .no)
      .no)
     .no)
    .no))
  .no)
theorem laws_FnExactEncodeType_e (x0 x1 : Int) (x2 x3 : Bool) (x4 x5 x6 x7 : LL) (x8 : Int) : runF tab FT D62 live 5 noLoops [(true, [(.int .i64, TC.i x0), (.int .i64, TC.i x1), (.bool, TC.b x2), (.bool, TC.b x3), (.slice 9, TC.l x4), (.slice 2, TC.l x5), (.slice 67, TC.l x6), (.slice 27, TC.l x7), (.int .i64, TC.i x8)])] = (laws_FnExactEncodeType_t x0 x1 x2 x3 x4 x5 x6 x7 x8).run fun p => some [(false, [⟨.bool, .sh, .b p⟩])] := by kernel_rfl
theorem tyArgsType {A B C E : LL} (a4 : Typed tab (.slice 9) (.l A)) (a5 : Typed tab (.slice 2) (.l B)) (a6 : Typed tab (.slice 67) (.l C)) (a7 : Typed tab (.slice 27) (.l E)) : Typed tab (.slice 9) (.l A) ∧ Typed tab (.slice 2) (.l B) ∧ Typed tab (.slice 71) (.l C) ∧ Typed tab (.slice 32) (.l E) :=
  ⟨typed_iso iso_ok a4 (by decide), typed_iso iso_ok a5 (by decide), typed_iso iso_ok a6 (by decide), typed_iso iso_ok a7 (by decide)⟩
theorem eqType_rv {x0 : Int} {x1 : Int} {x2 : Bool} {x3 : Bool} {x4 : LL} {x5 : LL} {x6 : LL} {x7 : LL} {x8 : Int} {y0 : Int} {y1 : Int} {y2 : Bool} {y3 : Bool} {y4 : LL} {y5 : LL} {y6 : LL} {y7 : LL} {y8 : Int} : ¬(!(qbn_rv x0 x1 x2 x3 x4 x5 x6 x7 x8 y0 y1 y2 y3 y4 y5 y6 y7 y8)) = true := by
  show ¬(!true) = true
  decide
theorem laws_FnExactEncodeType_p (x0 x1 : Int) (x2 x3 : Bool) (x4 x5 x6 x7 : LL) (x8 : Int) (h0 : Typed tab (.int .i64) (.i x0)) (h1 : Typed tab (.int .i64) (.i x1)) (h2 : Typed tab (.bool) (.b x2)) (h3 : Typed tab (.bool) (.b x3)) (h4 : Typed tab (.slice 9) (.l x4)) (h5 : Typed tab (.slice 2) (.l x5)) (h6 : Typed tab (.slice 67) (.l x6)) (h7 : Typed tab (.slice 27) (.l x7)) (h8 : Typed tab (.int .i64) (.i x8)) (NN : Nat) (eN : NN = rowsDep x4 + rowsDep x5 + rowsDep x6 + rowsDep x7 + 1) (r_laws_szType : ∀ (x0 x1 : Int) (x2 x3 : Bool) (x4 x5 x6 x7 : LL) (x8 x9 : Int), max (rowsDep x6) (rowsDep x7) < NN ∧ Typed tab (.slice 9) (.l x4) ∧ Typed tab (.slice 2) (.l x5) ∧ Typed tab (.slice 67) (.l x6) ∧ Typed tab (.slice 27) (.l x7) → (qbc_rc x0 x1 x2 x3 x4 x5 x6 x7 x8 x9) = true) (n_laws_toType : NN ≤ qq_O.n) (n_spec_l02Size : NN ≤ qo_O.n) (n_spec_l02Depth : NN ≤ qg_O.n) (n_spec_l02Ok : NN ≤ qbh_O.n) (n_spec_l02Encode : NN ≤ qf_O.n) (n_impl_Type_size : NN ≤ qy_O.n) (n_impl_SameType : NN ≤ qba_O.n) (n_impl_Type_valid : NN ≤ qw_O.n) (n_impl_Type_encode : NN ≤ qe_O.n) (n_laws_eqType : NN ≤ qbn_O.n) : (laws_FnExactEncodeType_t x0 x1 x2 x3 x4 x5 x6 x7 x8).val = some true := by
  have t4_9 := qbd_ty h4
  have t5_2 := qbg_ty h5
  have t6_71 := qbe_ty h6
  have t7_32 := qbk_ty h7
  obtain ⟨i4, i5, i6, i7⟩ := tyArgsType h4 h5 h6 h7
  have szc0 : okV x0 x1 x2 x3 x4 x5 x6 x7 x8 = true → qo_rc x0 x1 x2 x3 x4 x5 x6 x7 x8 = true := fun h => is_true ⟨by omega, okV_size h⟩
  have dpc0 : okV x0 x1 x2 x3 x4 x5 x6 x7 x8 = true → qg_rc x0 x1 x2 x3 x4 x5 x6 x7 x8 = true := fun h => is_true ⟨by omega, okV_depth h, i6, i7⟩
  have okc0 : qbh_rc x0 x1 x2 x3 x4 x5 x6 x7 x8 = true := is_true ⟨by omega, by omega, by omega, i4, i5, i6, i7⟩
  have enc0 : okV x0 x1 x2 x3 x4 x5 x6 x7 x8 = true → qf_rc x0 x1 x2 x3 x4 x5 x6 x7 x8 = true := fun h => is_true ⟨by omega, h⟩
  have isc0 : okV x0 x1 x2 x3 x4 x5 x6 x7 x8 = true → qy_rc x0 x1 x2 x3 x4 x5 x6 x7 x8 = true := fun h => is_true ⟨by omega, (okV_isize h).2⟩
  have vac0 : qw_rc x0 x1 x2 x3 x4 x5 x6 x7 x8 3 = true := is_true ⟨by omega, by omega, by omega, by omega, i4, i5, i6, i7⟩
  have ien0 : okV x0 x1 x2 x3 x4 x5 x6 x7 x8 = true → qe_rc x0 x1 x2 x3 x4 x5 x6 x7 x8 = true := fun h => is_true ⟨by omega, h⟩
  unfold laws_FnExactEncodeType_t
  simp only [show qq_rv x0 x1 x2 x3 x4 x5 x6 x7 x8 = (x0, x1, x2, x3, x4, x5, x6, x7, x8) from rfl]
  refine Tr.t (by first | (exact r_laws_szType _ _ _ _ _ _ _ _ _ _ ⟨by omega, h4, h5, h6, h7⟩)) ?_
  refine Tr.y ?_
  refine Tr.t (by first | (exact is_true ⟨by omega, h4, h5, h6, h7⟩)) ?_
  refine Tr.t (by first | (exact qbv_cc okc0 enc0)) ?_
  refine Tr.t (by first | (exact is_true ⟨by omega, h4, h5, h6, h7⟩)) ?_
  refine Tr.t (by first | (exact qbz_cc vac0 ien0)) ?_
  refine Tr.n (by first | (exact eqType_rv) | (rw [qbv_vv, qbz_vv]; simp)) ?_
  refine Tr.t (by first | (exact is_true ⟨by omega, h4, h5, h6, h7⟩)) ?_
  refine Tr.t (by first | (exact is_true ⟨by omega, rfl, rfl, rfl, rfl, rfl, rfl, rfl, rfl, rfl, i4, i5, i6, i7⟩)) ?_
  refine Tr.n (by first | (exact eqType_rv) | (rw [qbv_vv, qbz_vv]; simp)) ?_
  rfl
end
theorem qbn_none : ∀ xs r, qbn_rS (i_laws_eqType := ⟨0⟩) xs ≠ some (true, r) := by
  intro xs r h
  unfold qbn_rS at h
  split at h
  · simp only [Option.some.injEq, Prod.mk.injEq] at h
    have h1 := is_iff.1 h.1
    exact absurd h1.1 (Nat.not_lt_zero _)
  · cases h
theorem qbn_good : ∀ n : Nat, qbn_G (i_laws_eqType := ⟨n⟩) := by
  intro n
  induction n with
  | zero => exact qbn_G.mk (i_laws_eqType := ⟨0⟩) (DOk.also0 d58 qbn_none)
  | succ n ih => exact qbn_step (i_laws_eqType := ⟨n⟩) (g_laws_eqType := ih)
end
theorem qe_none : ∀ xs r, qe_rS (i_impl_Type_encode := ⟨0⟩) xs ≠ some (true, r) := by
  intro xs r h
  unfold qe_rS at h
  split at h
  · simp only [Option.some.injEq, Prod.mk.injEq] at h
    have h1 := is_iff.1 h.1
    exact absurd h1.1 (Nat.not_lt_zero _)
  · cases h
theorem qe_good : ∀ n : Nat, qe_G (i_impl_Type_encode := ⟨n⟩) := by
  intro n
  induction n with
  | zero => exact qe_G.mk (i_impl_Type_encode := ⟨0⟩) (DOk.also0 d53 qe_none)
  | succ n ih => exact qe_step (i_impl_Type_encode := ⟨n⟩) (g_impl_Type_encode := ih)
end
theorem qw_none : ∀ xs r, qw_rS (i_impl_Type_valid := ⟨0⟩) xs ≠ some (true, r) := by
  intro xs r h
  unfold qw_rS at h
  split at h
  · simp only [Option.some.injEq, Prod.mk.injEq] at h
    have h1 := is_iff.1 h.1
    exact absurd h1.1 (Nat.not_lt_zero _)
  · cases h
theorem qw_good : ∀ n : Nat, qw_G (i_impl_Type_valid := ⟨n⟩) := by
  intro n
  induction n with
  | zero => exact qw_G.mk (i_impl_Type_valid := ⟨0⟩) (DOk.also0 d42 qw_none)
  | succ n ih => exact qw_step (i_impl_Type_valid := ⟨n⟩) (g_impl_Type_valid := ih)
end
theorem qba_none : ∀ xs r, qba_rS (i_impl_SameType := ⟨0⟩) xs ≠ some (true, r) := by
  intro xs r h
  unfold qba_rS at h
  split at h
  · simp only [Option.some.injEq, Prod.mk.injEq] at h
    have h1 := is_iff.1 h.1
    exact absurd h1.1 (Nat.not_lt_zero _)
  · cases h
theorem qba_good : ∀ n : Nat, qba_G (i_impl_SameType := ⟨n⟩) := by
  intro n
  induction n with
  | zero => exact qba_G.mk (i_impl_SameType := ⟨0⟩) (DOk.also0 d34 qba_none)
  | succ n ih => exact qba_step (i_impl_SameType := ⟨n⟩) (g_impl_SameType := ih)
end
theorem qy_none : ∀ xs r, qy_rS (i_impl_Type_size := ⟨0⟩) xs ≠ some (true, r) := by
  intro xs r h
  unfold qy_rS at h
  split at h
  · simp only [Option.some.injEq, Prod.mk.injEq] at h
    have h1 := is_iff.1 h.1
    exact absurd h1.1 (Nat.not_lt_zero _)
  · cases h
theorem qy_good : ∀ n : Nat, qy_G (i_impl_Type_size := ⟨n⟩) := by
  intro n
  induction n with
  | zero => exact qy_G.mk (i_impl_Type_size := ⟨0⟩) (DOk.also0 d30 qy_none)
  | succ n ih => exact qy_step (i_impl_Type_size := ⟨n⟩) (g_impl_Type_size := ih)
end
theorem qf_none : ∀ xs r, qf_rS (i_spec_l02Encode := ⟨0⟩) xs ≠ some (true, r) := by
  intro xs r h
  unfold qf_rS at h
  split at h
  · simp only [Option.some.injEq, Prod.mk.injEq] at h
    have h1 := is_iff.1 h.1
    exact absurd h1.1 (Nat.not_lt_zero _)
  · cases h
theorem qf_good : ∀ n : Nat, qf_G (i_spec_l02Encode := ⟨n⟩) := by
  intro n
  induction n with
  | zero => exact qf_G.mk (i_spec_l02Encode := ⟨0⟩) (DOk.also0 d27 qf_none)
  | succ n ih => exact qf_step (i_spec_l02Encode := ⟨n⟩) (g_spec_l02Encode := ih)
end
theorem qbh_none : ∀ xs r, qbh_rS (i_spec_l02Ok := ⟨0⟩) xs ≠ some (true, r) := by
  intro xs r h
  unfold qbh_rS at h
  split at h
  · simp only [Option.some.injEq, Prod.mk.injEq] at h
    have h1 := is_iff.1 h.1
    exact absurd h1.1 (Nat.not_lt_zero _)
  · cases h
theorem qbh_good : ∀ n : Nat, qbh_G (i_spec_l02Ok := ⟨n⟩) := by
  intro n
  induction n with
  | zero => exact qbh_G.mk (i_spec_l02Ok := ⟨0⟩) (DOk.also0 d23 qbh_none)
  | succ n ih => exact qbh_step (i_spec_l02Ok := ⟨n⟩) (g_spec_l02Ok := ih)
end
theorem qg_none : ∀ xs r, qg_rS (i_spec_l02Depth := ⟨0⟩) xs ≠ some (true, r) := by
  intro xs r h
  unfold qg_rS at h
  split at h
  · simp only [Option.some.injEq, Prod.mk.injEq] at h
    have h1 := is_iff.1 h.1
    exact absurd h1.1 (Nat.not_lt_zero _)
  · cases h
theorem qg_good : ∀ n : Nat, qg_G (i_spec_l02Depth := ⟨n⟩) := by
  intro n
  induction n with
  | zero => exact qg_G.mk (i_spec_l02Depth := ⟨0⟩) (DOk.also0 d13 qg_none)
  | succ n ih => exact qg_step (i_spec_l02Depth := ⟨n⟩) (g_spec_l02Depth := ih)
end
theorem qo_none : ∀ xs r, qo_rS (i_spec_l02Size := ⟨0⟩) xs ≠ some (true, r) := by
  intro xs r h
  unfold qo_rS at h
  split at h
  · simp only [Option.some.injEq, Prod.mk.injEq] at h
    have h1 := is_iff.1 h.1
    exact absurd h1.1 (Nat.not_lt_zero _)
  · cases h
theorem qo_good : ∀ n : Nat, qo_G (i_spec_l02Size := ⟨n⟩) := by
  intro n
  induction n with
  | zero => exact qo_G.mk (i_spec_l02Size := ⟨0⟩) (DOk.also0 d12 qo_none)
  | succ n ih => exact qo_step (i_spec_l02Size := ⟨n⟩) (g_spec_l02Size := ih)
end
theorem qq_none : ∀ xs r, qq_rS (i_laws_toType := ⟨0⟩) xs ≠ some (true, r) := by
  intro xs r h
  unfold qq_rS at h
  split at h
  · simp only [Option.some.injEq, Prod.mk.injEq] at h
    have h1 := is_iff.1 h.1
    exact absurd h1.1 (Nat.not_lt_zero _)
  · cases h
theorem qq_good : ∀ n : Nat, qq_G (i_laws_toType := ⟨n⟩) := by
  intro n
  induction n with
  | zero => exact qq_G.mk (i_laws_toType := ⟨0⟩) (DOk.also0 d8 qq_none)
  | succ n ih => exact qq_step (i_laws_toType := ⟨n⟩) (g_laws_toType := ih)
end
@[reducible] noncomputable def qbc_orc : Nat → qbc_O
  | 0 => ⟨fun _ _ _ _ _ _ _ _ _ _ => (false, default)⟩
  | n + 1 => ⟨qbc_next (i_laws_szType := qbc_orc n)⟩
theorem qbc_none : ∀ xs r, qbc_rS (i_laws_szType := qbc_orc 0) xs ≠ some (true, r) := by
  intro xs r h
  unfold qbc_rS at h
  split at h
  · simp only [Option.some.injEq, Prod.mk.injEq] at h
    exact absurd h.1 (by show ¬(false = true); simp)
  · cases h
theorem qbc_good : ∀ n, qbc_G (i_laws_szType := qbc_orc n) := by
  intro n
  induction n with
  | zero => exact qbc_G.mk (i_laws_szType := qbc_orc 0) (DOk.also0 d2 qbc_none)
  | succ n ih => exact qbc_step (i_laws_szType := qbc_orc n) (g_laws_szType := ih)
theorem qbc_hr : ∀ (n : Nat) (x0 x1 : Int) (x2 x3 : Bool) (x4 x5 x6 x7 : LL) (x8 x9 : Int), max (rowsDep x6) (rowsDep x7) < n ∧ Typed tab (.slice 9) (.l x4) ∧ Typed tab (.slice 2) (.l x5) ∧ Typed tab (.slice 67) (.l x6) ∧ Typed tab (.slice 27) (.l x7) → qbc_rc (i_laws_szType := qbc_orc n) x0 x1 x2 x3 x4 x5 x6 x7 x8 x9 = true := by
  intro n
  induction n with
  | zero => intro x0 x1 x2 x3 x4 x5 x6 x7 x8 x9 h; exact absurd h.1 (Nat.not_lt_zero _)
  | succ n ih =>
    intro x0 x1 x2 x3 x4 x5 x6 x7 x8 x9 h
    exact qbc_nx (i_laws_szType := qbc_orc n) (g_laws_szType := qbc_good n) n ih x0 x1 x2 x3 x4 x5 x6 x7 x8 x9 h
theorem laws_FnExactEncodeType_pure : ∀ xs, ArgsTyped tab [27] xs → ∃ (D : Dt) (lo : LoopTeller), DOk Go.Proofs.Try.prog tab D ∧ FnLoops tab (fun f => Go.Proofs.Try.prog.funcs[f]?) D live 5 lo ∧ runF tab (fun f => Go.Proofs.Try.prog.funcs[f]?) D live 5 lo xs = yes := by
  intro xs h
  cases h with | cons l0 g0 h =>
  obtain ⟨z0_0, z0_1, z0_2, z0_3, z0_4, z0_5, z0_6, z0_7, z0_8, rfl⟩ := len_9 l0
  have q0 := g0 0 (by decide)
  have q0 : Typed tab (.int .i64) z0_0 := q0
  obtain ⟨y0, rfl⟩ := typed_int q0
  have q1 := g0 1 (by decide)
  have q1 : Typed tab (.int .i64) z0_1 := q1
  obtain ⟨y1, rfl⟩ := typed_int q1
  have q2 := g0 2 (by decide)
  have q2 : Typed tab (.bool) z0_2 := q2
  obtain ⟨y2, rfl⟩ := typed_bool q2
  have q3 := g0 3 (by decide)
  have q3 : Typed tab (.bool) z0_3 := q3
  obtain ⟨y3, rfl⟩ := typed_bool q3
  have q4 := g0 4 (by decide)
  have q4 : Typed tab (.slice 9) z0_4 := q4
  obtain ⟨y4, rfl⟩ := typed_slice q4
  have q5 := g0 5 (by decide)
  have q5 : Typed tab (.slice 2) z0_5 := q5
  obtain ⟨y5, rfl⟩ := typed_slice q5
  have q6 := g0 6 (by decide)
  have q6 : Typed tab (.slice 67) z0_6 := q6
  obtain ⟨y6, rfl⟩ := typed_slice q6
  have q7 := g0 7 (by decide)
  have q7 : Typed tab (.slice 27) z0_7 := q7
  obtain ⟨y7, rfl⟩ := typed_slice q7
  have q8 := g0 8 (by decide)
  have q8 : Typed tab (.int .i64) z0_8 := q8
  obtain ⟨y8, rfl⟩ := typed_int q8
  cases h
  letI i_laws_szType : qbc_O := qbc_orc (rowsDep y4 + rowsDep y5 + rowsDep y6 + rowsDep y7 + 1)
  letI g_laws_szType : qbc_G := qbc_good (rowsDep y4 + rowsDep y5 + rowsDep y6 + rowsDep y7 + 1)
  letI i_laws_toType : qq_O := ⟨rowsDep y4 + rowsDep y5 + rowsDep y6 + rowsDep y7 + 1⟩
  letI g_laws_toType : qq_G := qq_good (rowsDep y4 + rowsDep y5 + rowsDep y6 + rowsDep y7 + 1)
  letI i_spec_l02Size : qo_O := ⟨rowsDep y4 + rowsDep y5 + rowsDep y6 + rowsDep y7 + 1⟩
  letI g_spec_l02Size : qo_G := qo_good (rowsDep y4 + rowsDep y5 + rowsDep y6 + rowsDep y7 + 1)
  letI i_spec_l02Depth : qg_O := ⟨rowsDep y4 + rowsDep y5 + rowsDep y6 + rowsDep y7 + 1⟩
  letI g_spec_l02Depth : qg_G := qg_good (rowsDep y4 + rowsDep y5 + rowsDep y6 + rowsDep y7 + 1)
  letI i_spec_l02Ok : qbh_O := ⟨rowsDep y4 + rowsDep y5 + rowsDep y6 + rowsDep y7 + 1⟩
  letI g_spec_l02Ok : qbh_G := qbh_good (rowsDep y4 + rowsDep y5 + rowsDep y6 + rowsDep y7 + 1)
  letI i_spec_l02Encode : qf_O := ⟨rowsDep y4 + rowsDep y5 + rowsDep y6 + rowsDep y7 + 1⟩
  letI g_spec_l02Encode : qf_G := qf_good (rowsDep y4 + rowsDep y5 + rowsDep y6 + rowsDep y7 + 1)
  letI i_impl_Type_size : qy_O := ⟨rowsDep y4 + rowsDep y5 + rowsDep y6 + rowsDep y7 + 1⟩
  letI g_impl_Type_size : qy_G := qy_good (rowsDep y4 + rowsDep y5 + rowsDep y6 + rowsDep y7 + 1)
  letI i_impl_SameType : qba_O := ⟨rowsDep y4 + rowsDep y5 + rowsDep y6 + rowsDep y7 + 1⟩
  letI g_impl_SameType : qba_G := qba_good (rowsDep y4 + rowsDep y5 + rowsDep y6 + rowsDep y7 + 1)
  letI i_impl_Type_valid : qw_O := ⟨rowsDep y4 + rowsDep y5 + rowsDep y6 + rowsDep y7 + 1⟩
  letI g_impl_Type_valid : qw_G := qw_good (rowsDep y4 + rowsDep y5 + rowsDep y6 + rowsDep y7 + 1)
  letI i_impl_Type_encode : qe_O := ⟨rowsDep y4 + rowsDep y5 + rowsDep y6 + rowsDep y7 + 1⟩
  letI g_impl_Type_encode : qe_G := qe_good (rowsDep y4 + rowsDep y5 + rowsDep y6 + rowsDep y7 + 1)
  letI i_laws_eqType : qbn_O := ⟨rowsDep y4 + rowsDep y5 + rowsDep y6 + rowsDep y7 + 1⟩
  letI g_laws_eqType : qbn_G := qbn_good (rowsDep y4 + rowsDep y5 + rowsDep y6 + rowsDep y7 + 1)
  refine ⟨D62, noLoops, d62, noLoops_ok, (laws_FnExactEncodeType_e y0 y1 y2 y3 y4 y5 y6 y7 y8).trans ?_⟩
  rw [Tr.run_eq, laws_FnExactEncodeType_p y0 y1 y2 y3 y4 y5 y6 y7 y8 q0 q1 q2 q3 q4 q5 q6 q7 q8 (rowsDep y4 + rowsDep y5 + rowsDep y6 + rowsDep y7 + 1) rfl (qbc_hr (rowsDep y4 + rowsDep y5 + rowsDep y6 + rowsDep y7 + 1)) (Nat.le_refl _) (Nat.le_refl _) (Nat.le_refl _) (Nat.le_refl _) (Nat.le_refl _) (Nat.le_refl _) (Nat.le_refl _) (Nat.le_refl _) (Nat.le_refl _) (Nat.le_refl _)]
  rfl
end Go.Proofs.Ytdcafhfnkblfkaa.V
